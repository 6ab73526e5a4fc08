import Derived.Test.YtcmahmlcoodfoaaWin1
import Derived.Deep.LoopGhost
namespace Go.Proofs.Ytcmahmlcoodfoaa
open Go.RowKit
theorem u64Info : (Try.prog.info? 22).map (fun i => (i.zero, i.size, i.bytes)) = some (some (.int .u64 0), 1, 8) := by kernel_rfl
/-- what the reference's Take leaves -/
def RTook (C base : Nat) (v : Value) (l : List Nat) (n : Nat) (w : World) (e : Ending) (w' : World) : Prop :=
  e = .returned (.bool (rgot l n)) ∧ ∃ v', Blk w' C 30 #[v'] ∧ OwnK w' base 22 .u64 v' (rnext l n) ∧ Only (fun k => k = C ∨ v.ownBlock = some k) w w' ∧
    (v'.ownBlock = v.ownBlock ∨ ∃ g, v'.ownBlock = some g ∧ w.heap.size ≤ g)
theorem ltop_take (l : List Nat) (k : Nat) (h : k < l.length) : ltop (l.take (k + 1)) = max (ltop (l.take k)) (l.getD k 0) := by
  rw [List.take_succ_eq_append_getElem h, ltop_app, List.getD_eq_getElem?_getD, List.getElem?_eq_getElem h]; rfl
theorem ltop_lt {l : List Nat} (h : ∀ x ∈ l, x < 2 ^ 64) : ltop l < 2 ^ 64 := by
  by_cases hl : l = []
  · subst hl; decide
  · exact h _ (ltop_mem l hl)
theorem mem_take_succ (l : List Nat) (k n : Nat) (h : k < l.length) : n ∈ l.take (k + 1) ↔ n ∈ l.take k ∨ n = l.getD k 0 := by
  rw [List.take_succ_eq_append_getElem h, List.getD_eq_getElem?_getD, List.getElem?_eq_getElem h, List.mem_append, List.mem_singleton]; rfl
set_option maxRecDepth 100000 in
set_option maxHeartbeats 1000000 in
theorem rtake_c (C base : Nat) (v : Value) (l : List Nat) (n : Nat) (w : World) (hb : Blk w C 30 #[v]) (ho : OwnK w base 22 .u64 v l) (hC : C < base) (hbase : base ≤ w.heap.size) (hn : n < 2 ^ 64) (hl : ∀ x ∈ l, x < 2 ^ 64) (hlen : l.length ≤ 1000) :
    Calls Try.prog 12 #[.pointer (some ⟨C, 0, none⟩), .int .u64 n] w (RTook C base v l n w) := by
  obtain ⟨A, cap, rfl, hc1, hc2, hrd⟩ := ho.rd
  unfold maxLen at hc2
  have c0 : w.cell? ⟨C, 0, none⟩ = some (.slice A l.length cap) := hb.cell 0
  have f0 : w.frozen? ⟨C, 0, none⟩ = false := hb.free 0
  have HB := Lib.hid hb
  have HO := Lib.hid ho
  have HR := Lib.hid hrd
  have HL := Lib.hid hl
  clear hb ho hrd hl
  go_enter Try.func12, Try.ntmps12
  go_wp2
  go_loop [5, 6] (fun t i => ∃ k : Nat, k ≤ l.length ∧ i = .int .i64 k ∧ t = .int .u64 (ltop (l.take k) : Nat) ∧ n ∉ l.take k) (fun _ i => l.length - (intOf i).toNat)
  case atStart => exact ⟨0, Nat.zero_le _, rfl, rfl, by simp⟩
  case round =>
    obtain ⟨k, hk, rfl, rfl, hnot⟩ := hrel
    have HN := Lib.hid hnot
    clear hnot
    by_cases hlt : k < l.length
    · obtain ⟨ad, rfl, hadb, hcell⟩ := HR.out.word hlt
      have hx : l.getD k 0 < 2 ^ 64 := HL.out _ (by rw [List.getD_eq_getElem?_getD, List.getElem?_eq_getElem hlt]; exact List.getElem_mem _)
      have htk : ltop (l.take k) < 2 ^ 64 := ltop_lt (fun x hx => HL.out x (List.mem_of_mem_take hx))
      have HS := Lib.hid (ltop_take l k hlt)
      have HM := Lib.hid (mem_take_succ l k n hlt)
      have hmem : l.getD k 0 ∈ l := by rw [List.getD_eq_getElem?_getD, List.getElem?_eq_getElem hlt]; exact List.getElem_mem _
      have HM2 := Lib.hid hmem
      clear hmem
      generalize l.getD k 0 = x at *
      generalize ltop (l.take k) = t at *
      by_cases heq : x = n
      · have t1 : ((x : Int) == (n : Int)) = true := by rw [heq]; simp
        have HE := Lib.hid heq
        clear heq
        have hg := Lib.hid (show rgot l n = false by
          unfold rgot
          rw [(contains_iff l n).2 (by rw [← HE.out]; exact HM2.out)]
          rfl)
        go_wp2
        all_goals go_ret
        all_goals exact ⟨by rw [hg.out]; rfl, _, HB.out, by unfold rnext; rw [hg.out]; exact HO.out, Only.refl _ _, .inl rfl⟩
      · have t1 : ((x : Int) == (n : Int)) = false := beq_eq_false_iff_ne.2 (by omega)
        have HE := Lib.hid heq
        clear heq
        go_wp2
        go_round
        case rel =>
          go_light
          refine ⟨k + 1, by omega, by go_num, ?_, fun h => ?_⟩
          · rw [HS.out]; congr 1; split <;> omega
          · rcases (HM.out).1 h with h | h
            · exact HN.out h
            · exact HE.out h.symm
        case measure => simp [intOf]; omega
    · obtain rfl : k = l.length := by omega
      have hnot := HN.out
      rw [List.take_length] at hnot
      have hnc : l.contains n = false := by rw [← Bool.not_eq_true, contains_iff]; exact hnot
      have HC := Lib.hid hnc
      clear hnc hnot
      rw [List.take_length]
      have htk : ltop l < 2 ^ 64 := ltop_lt HL.out
      by_cases hx : 0 < l.length ∧ n < ltop l ∧ 63 < ltop l - n
      · obtain ⟨h1, h2, h3⟩ := hx
        have hg := Lib.hid (show rgot l n = false by unfold rgot; rw [HC.out]; simp [h1, h2, h3])
        generalize ltop l = t at *
        go_wp2
        go_ret
        exact ⟨by rw [hg.out]; rfl, _, HB.out, by unfold rnext; rw [hg.out]; exact HO.out, Only.refl _ _, .inl rfl⟩
      · have hg := Lib.hid (show rgot l n = true by
          have e : (decide (0 < l.length) && decide (n < ltop l) && decide (63 < ltop l - n)) = false := by
            rw [← Bool.not_eq_true]; simp only [Bool.and_eq_true, decide_eq_true_eq]; omega
          unfold rgot; rw [HC.out, e]; rfl)
        obtain ⟨i0, hi, hz0, hz1, hz2⟩ := info_parts u64Info
        have hcase : (¬ 0 < l.length) ∨ (0 < l.length ∧ ¬ n < ltop l) ∨ (0 < l.length ∧ n < ltop l ∧ ¬ 63 < ltop l - n) := by omega
        clear hx
        generalize ltop l = t at *
        rcases hcase with h1 | ⟨h1, h2⟩ | ⟨h1, h2, h3⟩
        all_goals
          go_wp2_with (at_builtin; refine wpList_app _ rfl (.tmp 55) (.tmp 57) _ rfl base 22 i0 (.int .u64 0) 1 8 Try.underlying28 hi hz0 hz1 hz2 rfl (by decide) _ _ _ rfl (own_alloc HO.out _) _ _ 1 1 [.int .u64 (n : Nat)] rfl rfl (rd_one _ _ _) (wrd_one .u64 [n]) (by omega) (by omega) (by simp; omega) ?_; intro v1 w2 hap; have hB2 := (HB.out.alloc _).keep (hap.only (S := fun k => _ = some k) (fun g h => h)) (fun h => by have := own_base HO.out _ h; omega); have c2 : w2.cell? ⟨C, 0, none⟩ = some (.slice A l.length cap) := hB2.cell 0; have f2 := hB2.free 0; obtain ⟨A1, cap1, rfl, _, _, _⟩ := own_rd hap.own)
          go_ret
          refine ⟨by rw [hg.out]; rfl, _, hB2.set_ 0 _, ?_, ?_, ?_⟩
          · unfold rnext
            rw [hg.out]
            exact own_keep (S := fun k => k = C) (OwnK.snoc hap) ((Only.refl (fun k => k = C) _).setCell (fun _ => rfl) _) (fun g hg h => by have := own_base hap.own g hg; omega)
          · exact ((((Only.refl _ _).alloc _).then_ (hap.only (S := fun k => _ = some k) (fun g h => h)) (fun i _ h => .inr h))).setCell (fun _ => .inl rfl) _
          · rcases hap.lies with h | h
            · exact .inl h
            · exact .inr ⟨_, h, by simp⟩
end Go.Proofs.Ytcmahmlcoodfoaa
