/- ShamirSums: three rows of the law's own. -/
import Derived.Test.YtldanlglefgobaaSsu0
namespace Go.Proofs.Ytldanlglefgobaa
open Go.RowKit
set_option linter.unusedVariables false
def Sep (u v : Value) : Prop := ∀ g, u.ownBlock = some g → v.ownBlock ≠ some g
theorem Sep.symm {u v : Value} (h : Sep u v) : Sep v u := fun g h1 h2 => h g h2 h1
/-- three rows of shares, apart -/
structure Own3 (w : World) (base : Nat) (a : Value) (na : Nat) (la : List Nat) (b : Value) (nb : Nat) (lb : List Nat) (c : Value) (nc : Nat) (lc : List Nat) : Prop where
  oa : OwnS w base a na la
  ob : OwnS w base b nb lb
  oc : OwnS w base c nc lc
  ab : Sep a b
  ac : Sep a c
  bc : Sep b c
theorem Own3.rot {w : World} {base na nb nc : Nat} {a b c : Value} {la lb lc : List Nat} (h : Own3 w base a na la b nb lb c nc lc) : Own3 w base b nb lb c nc lc a na la :=
  ⟨h.ob, h.oc, h.oa, h.bc, h.ab.symm, h.ac.symm⟩
theorem Own3.alloc {w : World} {base na nb nc : Nat} {a b c : Value} {la lb lc : List Nat} (h : Own3 w base a na la b nb lb c nc lc) (o : Obj) : Own3 (w.alloc o) base a na la b nb lb c nc lc :=
  ⟨own_alloc h.oa o, own_alloc h.ob o, own_alloc h.oc o, h.ab, h.ac, h.bc⟩
theorem Own3.keep {w w' : World} {base na nb nc : Nat} {a b c : Value} {la lb lc : List Nat} (h : Own3 w base a na la b nb lb c nc lc) (hb : Below w.heap.size w w') : Own3 w' base a na la b nb lb c nc lc :=
  ⟨own_keep (S := fun _ => False) h.oa (Only.of_below hb) (fun _ _ h => h), own_keep (S := fun _ => False) h.ob (Only.of_below hb) (fun _ _ h => h), own_keep (S := fun _ => False) h.oc (Only.of_below hb) (fun _ _ h => h), h.ab, h.ac, h.bc⟩
theorem Own3.app {w w' : World} {base na nb nc : Nat} {a b c a' : Value} {la lb lc new : List Nat} (h : Own3 w base a na la b nb lb c nc lc) (hap : Apped w base 48 33 a w' a' (na + 1) (byt la ++ byt new)) :
    Own3 w' base a' (na + 1) (la ++ new) b nb lb c nc lc := by
  have hs : ∀ v : Value, (∀ g, v.ownBlock = some g → g < w.heap.size) → Sep a v → Sep a' v := by
    intro v hv hsep g hg hg2
    rcases hap.lies with h1 | h1
    · exact hsep g (h1 ▸ hg) hg2
    · rw [h1] at hg
      injection hg with hg
      have := hv g hg2
      omega
  have ho : Only (fun k => a.ownBlock = some k) w w' := hap.only (fun g h => h)
  refine ⟨?_, own_keep h.ob ho (fun g h1 h2 => h.ab g h2 h1), own_keep h.oc ho (fun g h1 h2 => h.ac g h2 h1), hs b (own_lt h.ob) h.ab, hs c (own_lt h.oc) h.ac, h.bc⟩
  have h1 := hap.own
  rw [byt_app] at h1
  exact h1
theorem Own3.nil_ (w : World) (base : Nat) : Own3 w base (.slice none 0 0) 0 [] (.slice none 0 0) 0 [] (.slice none 0 0) 0 [] :=
  ⟨OwnS.nil_ _ _, OwnS.nil_ _ _, OwnS.nil_ _ _, fun g h => (by cases h), fun g h => (by cases h), fun g h => (by cases h)⟩
theorem OwnS.rds {w : World} {base n : Nat} {v : Value} {l : List Nat} (h : OwnS w base v n l) : ∃ A cap, v = .slice A n cap ∧ n ≤ cap ∧ cap ≤ maxLen ∧ RdS w w.heap.size A n l := by
  obtain ⟨A, cap, e, h1, h2, h3⟩ := own_rd h
  refine ⟨A, cap, e, h1, h2, ?_, h3⟩
  have := h.1
  rw [byt_len] at this
  exact this
end Go.Proofs.Ytldanlglefgobaa
