/- Shares, plainly. -/
import Derived.Test.YtldanlglefgobaaLag
namespace Go.Proofs.Ytldanlglefgobaa
/-- the draws at place i: every 32nd -/
def cf (d : List Nat) (i K : Nat) : List Nat := (List.range K).map fun j => d.getD (32 * j + i) 0
/-- how many of them there are, and count -/
def kc (t len i : Nat) : Nat := min (t - 1) ((len + 31 - i) / 32)
def pl (s d : List Nat) (t i : Nat) : List Nat := s.getD i 0 :: cf d i (kc t d.length i)
def sy (s d : List Nat) (t x i : Nat) : Nat := hv x (pl s d t i)
def sys (s d : List Nat) (t x : Nat) : List Nat := (List.range 32).map (sy s d t x)
/-- a share's bytes: the place, then the values -/
def shr (s d : List Nat) (t x : Nat) : List Nat := x :: sys s d t x
theorem cf_len (d : List Nat) (i K : Nat) : (cf d i K).length = K := by simp [cf]
theorem cf_succ (d : List Nat) (i K : Nat) : cf d i (K + 1) = cf d i K ++ [d.getD (32 * K + i) 0] := by simp [cf, List.range_succ]
theorem cf_lt {d : List Nat} (h : ∀ c ∈ d, c < 256) (i K : Nat) : ∀ c ∈ cf d i K, c < 256 := fun c hc => by
  obtain ⟨j, _, rfl⟩ := List.mem_map.1 hc
  rw [List.getD_eq_getElem?_getD]
  rcases Nat.lt_or_ge (32 * j + i) d.length with hk | hk
  · rw [List.getElem?_eq_getElem hk]; exact h _ (List.getElem_mem _)
  · rw [List.getElem?_eq_none hk]; simp
theorem pl_lt {s d : List Nat} (hs : ∀ c ∈ s, c < 256) (hd : ∀ c ∈ d, c < 256) (t i : Nat) : ∀ c ∈ pl s d t i, c < 256 := fun c hc => by
  rcases List.mem_cons.1 hc with rfl | hc
  · rw [List.getD_eq_getElem?_getD]
    rcases Nat.lt_or_ge i s.length with hk | hk
    · rw [List.getElem?_eq_getElem hk]; exact hs _ (List.getElem_mem _)
    · rw [List.getElem?_eq_none hk]; simp
  · exact cf_lt hd i _ c hc
theorem pl_len (s d : List Nat) (t i : Nat) : (pl s d t i).length = kc t d.length i + 1 := by simp [pl, cf_len]
theorem sy_lt {s d : List Nat} (hs : ∀ c ∈ s, c < 256) (hd : ∀ c ∈ d, c < 256) (t x i : Nat) : sy s d t x i < 256 := hv_lt x _ (pl_lt hs hd t i)
theorem sys_len (s d : List Nat) (t x : Nat) : (sys s d t x).length = 32 := by simp [sys]
theorem shr_len (s d : List Nat) (t x : Nat) : (shr s d t x).length = 33 := by simp [shr, sys_len]
theorem sys_at (s d : List Nat) (t x i : Nat) (h : i < 32) : (sys s d t x).getD i 0 = sy s d t x i := by
  simp [sys, List.getD_eq_getElem?_getD, h]
/-- the first k values, the rest still 0 -/
def sysTo (s d : List Nat) (t x k : Nat) : List Nat := (List.range 32).map fun i => if i < k then sy s d t x i else 0
theorem sysTo_zero (s d : List Nat) (t x : Nat) : sysTo s d t x 0 = List.replicate 32 0 := by
  rw [List.eq_replicate_iff]; simp [sysTo]
theorem sysTo_all (s d : List Nat) (t x : Nat) : sysTo s d t x 32 = sys s d t x := by
  unfold sysTo sys
  exact List.map_congr_left fun i hi => by rw [if_pos (List.mem_range.1 hi)]
theorem sysTo_len (s d : List Nat) (t x k : Nat) : (sysTo s d t x k).length = 32 := by simp [sysTo]
theorem sysTo_set (s d : List Nat) (t x k : Nat) (_hk : k < 32) : (sysTo s d t x k).set k (sy s d t x k) = sysTo s d t x (k + 1) := by
  apply List.ext_getElem
  · simp [sysTo]
  · intro i h1 h2
    simp only [sysTo, List.getElem_set, List.getElem_map, List.getElem_range]
    by_cases h : k = i
    · subst h; simp
    · rw [if_neg h]
      by_cases h3 : i < k
      · rw [if_pos h3, if_pos (by omega)]
      · rw [if_neg h3, if_neg (by omega)]
end Go.Proofs.Ytldanlglefgobaa
