/- '==' and '!=' on arrays of bytes. -/
import Derived.Test.YtlidfmbmlhaacaaKit
import Derived.DeepKeys
import Derived.Laws.StructEq
namespace Go.Proofs.Ytlidfmbmlhaacaa
open Go.RowKit
/-- bytes as an array's cells -/
def vb (l : List Nat) : Array Value := (byt l).toArray
theorem vb_size (l : List Nat) : (vb l).size = l.length := by simp [vb, byt_len]
section
variable {P : Program}
theorem keyLits_bytes {T e : TypeId} {n D : Nat} (ht : P.underlying T = some (.array n e)) (he : P.underlying e = some (.int .u8)) (hc : P.cellsOf T = n) (h1 : P.cellsOf e = 1) (l : List Nat) (hl : l.length = n) (hs : ∀ c ∈ l, c < 256) :
    P.keyLits (D + 2) T (byt l) = some (l.map fun (c : Nat) => Lit.int .u8 (c : Int)) := by
  have hm : ∀ (is : List Nat), (∀ i ∈ is, i < l.length) → (is.mapM fun i => P.keyLits (D + 1) e (((byt l).drop (i * 1)).take 1)) = some (is.map fun i => [Lit.int .u8 (l.getD i 0 : Nat)]) := by
    intro is
    induction is with
    | nil => intro _; rfl
    | cons i is ih =>
      intro h
      have hi := h i (by simp)
      have hk : P.keyLits (D + 1) e (((byt l).drop (i * 1)).take 1) = some [Lit.int .u8 (l.getD i 0 : Nat)] := by
        rw [Nat.mul_one, List.drop_eq_getElem_cons (by rw [byt_len]; exact hi)]
        have hg : (byt l)[i]'(by rw [byt_len]; exact hi) = .int .u8 (l.getD i 0 : Nat) := by
          have := byt_at hi
          rw [List.getElem?_eq_getElem (by rw [byt_len]; exact hi)] at this
          exact Option.some.inj this
        rw [hg]
        have hb := getD_lt hs i
        have hw : (Lit.int .u8 ((l.getD i 0 : Nat) : Int)).wf = true := WalkArith.wf_u8 ⟨by omega, by omega⟩
        simp only [List.take_succ_cons, List.take_zero, Program.keyLits, he]
        rw [if_pos (by first | exact hw | exact ⟨trivial, hw⟩)]
      rw [List.mapM_cons, hk, ih (fun j hj => h j (by simp [hj]))]
      rfl
  have hflat : ((List.range l.length).map fun i => [Lit.int .u8 ((l.getD i 0 : Nat) : Int)]).flatten = l.map fun (c : Nat) => Lit.int .u8 (c : Int) := by
    have : ∀ is : List Nat, (is.map fun i => [Lit.int .u8 ((l.getD i 0 : Nat) : Int)]).flatten = is.map fun i => Lit.int .u8 ((l.getD i 0 : Nat) : Int) := by
      intro is; induction is with
      | nil => rfl
      | cons i is ih => simp only [List.map_cons, List.flatten_cons, List.singleton_append, ih]
    rw [this]
    apply List.ext_getElem
    · simp
    · intro i h1 h2
      simp at h1
      simp [List.getD_eq_getElem?_getD, h1]
  have hstep : P.keyLits (D + 2) T (byt l) = if (byt l).length = P.cellsOf T then ((List.range n).mapM fun i => P.keyLits (D + 1) e (((byt l).drop (i * P.cellsOf e)).take (P.cellsOf e))).map List.flatten else none := by
    conv => lhs; unfold Program.keyLits
    rw [ht]
  rw [hstep, hc, h1, if_pos (by rw [byt_len]; exact hl), ← hl, hm _ (fun i hi => List.mem_range.1 hi), Option.map_some, hflat]
theorem lits_inj {l m : List Nat} (h : (l.map fun (c : Nat) => Lit.int .u8 (c : Int)) = m.map fun (c : Nat) => Lit.int .u8 (c : Int)) : l = m := by
  have hinj : ∀ a b : Nat, Lit.int .u8 (a : Int) = Lit.int .u8 (b : Int) → a = b := fun a b h => by injection h with _ h; omega
  induction l generalizing m with
  | nil => cases m with
    | nil => rfl
    | cons => simp at h
  | cons a l ih => cases m with
    | nil => simp at h
    | cons b m =>
      simp only [List.map_cons, List.cons.injEq] at h
      rw [hinj _ _ h.1, ih h.2]
/-- '==' on arrays of bytes -/
theorem run_equalIn_barr {T e : TypeId} {n : Nat} (ht : P.underlying T = some (.array n e)) (he : P.underlying e = some (.int .u8)) (hc : P.cellsOf T = n) (h1 : P.cellsOf e = 1)
    (l m : List Nat) (hl : l.length = n) (hm : m.length = n) (hs : ∀ c ∈ l, c < 256) (hs2 : ∀ c ∈ m, c < 256) (w : World) :
    (Op.equalIn 10000 T (.agg (vb l)) (.agg (vb m))).run P w = .ok (l == m) w := by
  have hk : P.keyTypeAt 2 T = true := by simp [Program.keyTypeAt, ht, he]
  have hf : ∀ k : List Nat, k.length = n → (Value.agg (vb k)).formed P T = true := fun k h => by simp [Value.formed, ht, hc, vb_size, h]
  obtain ⟨r, hr, hiff⟩ := run_equalIn_deep (P := P) 9998 2 T hk w 2 2 (.agg (vb l)) (.agg (vb m)) _ _ (hf l hl) (hf m hm)
    (by simpa [Value.cells, vb] using keyLits_bytes (D := 0) ht he hc h1 l hl hs) (by simpa [Value.cells, vb] using keyLits_bytes (D := 0) ht he hc h1 m hm hs2)
  rw [show 9998 + 2 = 10000 from rfl] at hr
  rw [hr]
  congr 1
  by_cases h : l = m
  · subst h; rw [hiff.2 rfl]; simp
  · have : r = false := by
      cases r with
      | true => exact absurd (lits_inj (hiff.1 rfl)) h
      | false => rfl
    rw [this]; simp [h]
end
end Go.Proofs.Ytlidfmbmlhaacaa
