/- ShamirCombines: the walk, all cases. -/
import Derived.Test.YtldanlglefgobaaCmb5
namespace Go.Proofs.Ytldanlglefgobaa
open Go.RowKit
set_option linter.unusedVariables false
/-- which refusal of the shares -/
def plcN (L : List Nat) (n : Nat) : Int := if n = 0 then 0 else plc L n
theorem cmbC_is (A : Option Addr) (n cap : Nat) (L : List Nat) (w : World) (hn2 : n ≤ 1000) (hcap : n ≤ cap) (hcap2 : cap ≤ 9223372036854775807) (hl : ∀ c ∈ L, c < 256) (hr : RdS w w.heap.size A n L) :
    CmbC w n cap A (comR L n) (comE L n) (plcN L n) := by
  refine ⟨fun W hb => combine_c n cap A L W hn2 hcap hcap2 hl ⟨hr.1, (hr.2.below hb).more hb.size⟩, fun W hb => ?_, comR_len L n, ?_, ?_⟩
  · rcases Nat.eq_zero_or_pos n with h | h
    · subst h; exact rplaces_nil A cap W
    · obtain ⟨ad, rfl, hab, ha⟩ := hr.open_ h
      have e : plcN L n = plc L n := if_neg (by omega)
      rw [e]
      exact rplaces_c n cap ad L W h hn2 hcap hcap2 hr.1 hl (ha.below hb hab)
  · intro c hc
    unfold comR at hc
    split at hc
    · have := List.eq_of_mem_replicate hc; omega
    · split at hc
      · unfold cmbTo at hc
        obtain ⟨k, _, rfl⟩ := List.mem_map.1 hc
        split <;> exact cmb_lt _ _ _ _
      · have := List.eq_of_mem_replicate hc; omega
  · rcases Nat.eq_zero_or_pos n with h | h
    · subst h
      exact .inl ⟨rfl, rfl, rfl⟩
    · have hn : n ≠ 0 := by omega
      have e : plcN L n = plc L n := if_neg hn
      have e2 : comE L n = plc L n := if_neg hn
      rw [e, e2]
      by_cases hp : plc L n = 0
      · refine .inr (.inr ⟨hn, hp, hp, fun W hb => ?_⟩)
        obtain ⟨ad, rfl, hab, ha⟩ := hr.open_ h
        have e3 : comR L n = cmbTo L n n 0 := by unfold comR; rw [if_neg hn, if_pos hp]
        rw [e3]
        exact rcombine_c n cap ad L W h hn2 hcap hcap2 hr.1 hl (Nat.lt_of_lt_of_le hab hb.size) (ha.below hb hab) hp
      · refine .inr (.inl ⟨hn, hp, ?_, rfl⟩)
        unfold comR; rw [if_neg hn, if_neg hp]; rfl
theorem shamirCombines_w (A D : Option Addr) (n cap cd : Nat) (L d : List Nat) (t : Int) (w : World) (hcap : n ≤ cap) (hcap2 : cap ≤ maxLen) (hL : L.length = n * 33) (hl : ∀ c ∈ L, c < 256) (hr : Rd w w.heap.size A (byt L))
    (hd : ∀ c ∈ d, c < 256) (hrd : Rd w w.heap.size D (byt d)) :
    Calls Try.prog 11 #[.slice A n cap, .int .i64 t, .slice D d.length cd] w (Yes w) := by
  by_cases h : 8 < n ∨ 12 < t ∨ 300 < d.length
  · exact comb_out A D n cap d.length cd t w h
  · have hrs : RdS w w.heap.size A n L := ⟨hL, hr⟩
    have hc := cmbC_is A n cap L w (by omega) hcap hcap2 hl hrs
    by_cases ht : t < 1
    · exact comb_short A D n cap d.length cd t _ _ 1 _ w h hc (fun W hb => refresh_low A D n cap d.length cd t W ht) (.inl ⟨ht, rfl⟩)
    · by_cases hp : plcN L n = 0
      · obtain ⟨m, rfl⟩ := Int.eq_ofNat_of_zero_le (show 0 ≤ t by omega)
        rw [hp] at hc
        refine comb_full A D n cap cd m L d _ _ w (by omega) (by omega) (by omega) hcap hcap2 hl hrs (fun hn => ?_) hd (by omega) hrd hc
        unfold plcN at hp
        rw [if_neg hn] at hp
        exact hp
      · have hn : n ≠ 0 := fun h0 => hp (if_pos h0)
        have e : plcN L n = plc L n := if_neg hn
        have hpos : 0 < n := by omega
        obtain ⟨ad, rfl, hab, ha⟩ := hrs.open_ hpos
        refine comb_short (some ad) D n cap d.length cd t _ _ _ _ w h hc (fun W hb => ?_) (.inr ⟨ht, hp, rfl⟩)
        rw [e]
        exact refresh_bad n cap d.length cd ad D L t W hpos (by omega) hcap hcap2 hL hl (Nat.lt_of_lt_of_le hab hb.size) (ha.below hb hab) (e ▸ hp) ht
end Go.Proofs.Ytldanlglefgobaa
