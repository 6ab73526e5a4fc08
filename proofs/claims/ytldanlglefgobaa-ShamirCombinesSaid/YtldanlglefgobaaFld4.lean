import Derived.Test.YtldanlglefgobaaFld3
import Derived.Test.YtldanlglefgobaaPlain1
namespace Go.Proofs.Ytldanlglefgobaa
open Go.RowKit
theorem awake07_n : tmul ftab 87 131 = 193 := by rw [tmul_is _ _ (by omega) (by omega)]; rfl
set_option maxHeartbeats 400000 in
theorem awake07_c (w : World) : Calls Try.prog 15 #[] w (Yes w) := by
  have HN := Lib.hid awake07_n
  go_enter Try.func15, Try.ntmps15
  go_wp2_with fail
  refine (build_c w).mono ?_
  rintro e w1 ⟨rfl, hs, ht, hb⟩
  have HB := Lib.hid hb
  have HT := Lib.hid ht
  clear hs ht hb
  go_wp2_with fail
  refine (mul_c ftab w.heap.size 87 131 _ ftab_small (by exact HT.out) (by omega) (by omega)).mono ?_
  rintro e w2 ⟨rfl, n, rfl⟩
  rw [HN.out]
  go_wp2
  go_ret
  exact ⟨rfl, belowDrewN _ HB.out⟩
set_option maxHeartbeats 400000 in
set_option maxRecDepth 100000 in
theorem fieldTables_w (a : Nat) (ha : a < 256) (w : World) : Calls Try.prog 3 #[.int .u8 a] w (Yes w) := by
  go_enter Try.func3, Try.ntmps3
  go_wp2_with fail
  refine (build_c w).mono ?_
  rintro e w1 ⟨rfl, hs, ht, hb⟩
  have HB := Lib.hid hb
  have HS := Lib.hid hs
  have c1 : ∀ x : Ext w1, x.wd.cell? ⟨w.heap.size, a % 255, none⟩ = some (.int .u8 (gexp (a % 255) : Nat)) := fun x => x.cell (by rw [ht.at_ ftab_size _ (by omega), ftab_low _ (by omega)])
  have c2 : ∀ x : Ext w1, x.wd.cell? ⟨w.heap.size, 255, none⟩ = some (.int .u8 1) := fun x => x.cell (by rw [ht.at_ ftab_size _ (by omega), ftab_low _ (by omega), gexp_255]; rfl)
  have c3 : ∀ x : Ext w1, x.wd.cell? ⟨w.heap.size, 256, none⟩ = some (.int .u8 0) := fun x => x.cell (by rw [ht.at_ ftab_size _ (by omega), ftab_log0]; rfl)
  have c4 : ∀ x : Ext w1, x.wd.cell? ⟨w.heap.size, 257, none⟩ = some (.int .u8 0) := fun x => x.cell (by rw [ht.at_ ftab_size _ (by omega), ftab_log1]; rfl)
  have hlg := ftab_log a ha
  have c5 : ∀ x : Ext w1, x.wd.cell? ⟨w.heap.size, 256 + a, none⟩ = some (.int .u8 (tg ftab (256 + a) : Nat)) := fun x => x.cell (ht.at_ ftab_size _ (by omega))
  have c6 : ∀ x : Ext w1, x.wd.cell? ⟨w.heap.size, tg ftab (256 + a), none⟩ = some (.int .u8 (gexp (tg ftab (256 + a)) : Nat)) := fun x => x.cell (by rw [ht.at_ ftab_size _ (by omega), ftab_low _ (by omega)])
  obtain ⟨hl1, hl2⟩ := hlg
  clear hs ht hb
  generalize tg ftab (256 + a) = l at *
  have hp := gpow3 (a % 255)
  have HP := Lib.hid hp
  have hgl := gexp_lt (a % 255)
  clear hp
  generalize gexp (a % 255) = g at *
  go_wp2
  refine wp_region_class (Ext.wd (w0 := w1)) (by kernel_rfl) (by kernel_rfl) (Ext.of (Below.refl _ _).drew) ?_
  repeat (go_big_quiet_step ((first
    | (go_at_call 14; exact ext_same (by have hh := pow_c 3 (a % 255) (Ext.wd (w0 := w1) ‹_›) (by omega) (by omega); rw [HP.out] at hh; exact hh)))))
  refine wpQuiet_nil ?_
  rintro _ ⟨x, rfl⟩
  clear c1 c2 c3 c4 hgl
  by_cases h0 : a = 0
  · subst h0
    clear c5 c6 hl1
    go_wp2
    refine wp_region_class (Ext.wd (w0 := w1)) (by kernel_rfl) (by kernel_rfl) (Ext.of x.bel.drew) ?_
    repeat (go_big_quiet_step ((first
      | (go_at_call 15; exact ext_call (awake07_c _)))))
    refine wpQuiet_nil ?_
    rintro _ ⟨x, rfl⟩
    go_wp2
    go_ret
    exact ⟨rfl, HB.out.trans (x.bel.mono (by have := HS.out; omega))⟩
  · have e := hl1.resolve_left h0
    rw [e] at c6
    clear hl1 e
    have t1 : ((a : Int) == 0) = false := beq_eq_false_iff_ne.2 (by omega)
    have t2 : decide ((l : Int) < 255) = true := decide_eq_true (by omega)
    go_wp2
    refine wp_region_class (Ext.wd (w0 := w1)) (by kernel_rfl) (by kernel_rfl) (Ext.of x.bel.drew) ?_
    repeat (go_big_quiet_step ((first
      | (go_at_call 15; exact ext_call (awake07_c _)))))
    refine wpQuiet_nil ?_
    rintro _ ⟨x, rfl⟩
    go_wp2
    go_ret
    exact ⟨rfl, HB.out.trans (x.bel.mono (by have := HS.out; omega))⟩
end Go.Proofs.Ytldanlglefgobaa
