/- Contract: a place's share, by the document. -/
import Derived.Test.YtldanlglefgobaaSham1
import Derived.Test.YtldanlglefgobaaFld6
import Derived.BigQuiet
namespace Go.Proofs.Ytldanlglefgobaa
open Go.RowKit
set_option linter.unusedVariables false
theorem pl_at (s d : List Nat) (t i J : Nat) (h1 : 1 ≤ J) (h2 : J ≤ kc t d.length i) : (pl s d t i).getD J 0 = d.getD (32 * (J - 1) + i) 0 := by
  obtain ⟨K, rfl⟩ : ∃ K, J = K + 1 := ⟨J - 1, by omega⟩
  have hK : K < kc t d.length i := by omega
  simp only [pl, cf, List.getD_cons_succ, Nat.add_sub_cancel]
  rw [List.getD_eq_getElem?_getD, List.getElem?_map, List.getElem?_range hK]
  rfl
theorem quiet_from {P : Program} {f : FuncId} {args : Array Value} {w : World} {n : Nat} {v : Value}
    (h : Calls P f args (w.drewN n) fun e w' => e = .returned v ∧ w.drewN n = w') :
    Calls P f args (w.drewN n) fun e w'' => e = .returned v ∧ ∃ m, w'' = w.drewN m :=
  h.mono fun _ _ ⟨he, hm⟩ => ⟨he, n, hm.symm⟩
theorem pl_zero (s d : List Nat) (t i : Nat) : (pl s d t i).getD 0 0 = s.getD i 0 := rfl
set_option maxRecDepth 100000 in
set_option maxHeartbeats 2000000 in
theorem rshare_c (s d : List Nat) (x t cap : Nat) (A : Option Addr) (w : World) (hs : s.length = 32) (hsl : ∀ c ∈ s, c < 256) (hd : ∀ c ∈ d, c < 256) (hx : x < 256)
    (ht1 : t ≤ 1000000000) (hr : Rd w w.heap.size A (byt d)) (hlen : d.length ≤ 1000000) :
    Calls Try.prog 25 #[.agg (vb s), .int .u8 x, .int .i64 t, .slice A d.length cap] w fun e w' => e = .returned (.agg (vb (shr s d t x))) ∧ Below w.heap.size w w' := by
  have HSL := Lib.hid hsl
  have HD := Lib.hid hd
  have HR := Lib.hid hr
  have zs := zero_share
  have zn := z33_size
  have ze := z33_ne
  clear hsl hd hr
  go_enter Try.func25, Try.ntmps25
  go_upto_region 1 with fail
  go_wp2_with (refine wpList_store_rowTo rfl 48 (.tmp 9) (.tmp 14) rfl rfl (w.heap.size + 1 + 1) (vb (x :: List.replicate 32 0)) rfl (congrArg Value.agg (z33_set x)) 48 z33 (by exact blk3 _ _ _) (by kernel_rfl) (by kernel_rfl) (vb_one _) ?_)
  obtain ⟨Z, hZ⟩ : ∃ Z, Z = (((w.alloc (.cells (vb s) 42)).alloc (.cells z33 48)).alloc (.cells z33 48)).setRow (w.heap.size + 1 + 1) (vb (x :: List.replicate 32 0)) := ⟨_, rfl⟩
  have hsh : ShW 42 w s (x :: List.replicate 32 0) Z := by
    rw [hZ]
    exact ⟨Blk.rowFar (blk1 _ _ _) (by omega), Blk.rowFar (blk2 _ _ _) (by omega), Blk.row (old := z33) (blk3 _ _ _), Below.setRow (bel3 _ _ _) (by omega) _⟩
  try simp only [← hZ]
  have HSH := Lib.hid hsh
  clear hsh hZ
  go_loopw [10] (fun i wr => ∃ k : Nat, k ≤ 32 ∧ i = .int .i64 k ∧ ShW 42 w s (x :: sysTo s d t x k) wr) (fun i _ => 32 - (intOf i).toNat)
  case atStart => exact ⟨0, by omega, rfl, by rw [sysTo_zero]; exact HSH.out⟩
  case round =>
    rename World => wr
    obtain ⟨k, hk, rfl, hsh⟩ := hrel
    have HW := Lib.hid hsh
    clear hsh HSH
    by_cases hlt : k < 32
    · have c0 : wr.cell? ⟨w.heap.size, k, none⟩ = some (.int .u8 (s.getD k 0 : Nat)) := (HW.out.bs.cell k).trans (vb_at s k (by omega))
      have hsk : s.getD k 0 < 256 := getD_lt HSL.out k
      obtain ⟨KC, hKC⟩ : ∃ KC, KC = kc t d.length k := ⟨_, rfl⟩
      have hKC2 : KC = min (t - 1) ((d.length + 31 - k) / 32) := hKC
      have HKE := Lib.hid hKC
      have HKC := Lib.hid hKC2
      have hKCl : KC ≤ 100000 := by omega
      clear hKC hKC2
      have HBW := Lib.hid HW.out.bel
      have hr1 : reval x (pl s d t k) 1 = s.getD k 0 := by
        show 0 ^^^ gm ((pl s d t k).getD 0 0) 1 = _
        rw [Nat.zero_xor, pl_zero, gm_one _ hsk]
      have HR1 := Lib.hid hr1
      clear hr1
      have hpll : ∀ c ∈ pl s d t k, c < 256 := pl_lt HSL.out HD.out t k
      have HPLL := Lib.hid hpll
      clear hpll
      generalize s.getD k 0 = sk at *
      go_wp2_with fail
      have e19 : decide ((k : Int) < 32) = true := decide_eq_true (by omega)
      try rw [e19]
      go_loopw [11, 12] (fun v j wr2 => ∃ J : Nat, 1 ≤ J ∧ J ≤ KC + 1 ∧ j = .int .i64 J ∧ v = .int .u8 (reval x (pl s d t k) J : Nat) ∧ Below wr.heap.size wr wr2) (fun _ j _ => t - (intOf j).toNat)
      case atStart => exact ⟨1, by omega, by omega, rfl, by rw [HR1.out], Below.refl _ _⟩
      case round =>
        rename World => wr2
        obtain ⟨J, hJ1, hJ, rfl, rfl, hb⟩ := hrel
        have HB := Lib.hid hb
        clear hb c0
        have hv := reval_lt x (pl s d t k) J
        obtain ⟨P, hP⟩ : ∃ P, P = 32 * (J - 1) + k := ⟨_, rfl⟩
        have hat : (32 : Int) * ((J : Int) - 1) + (k : Int) = (P : Int) := by omega
        by_cases h12 : J < t ∧ P < d.length
        · obtain ⟨h1, h2⟩ := h12
          obtain ⟨ad, hA, hadb, hcell⟩ := (HR.out.below (HBW.out.trans (HB.out.mono HBW.out.size))).byte h2
          subst hA
          have hdv : d.getD P 0 < 256 := getD_lt HD.out P
          have hJK : J < KC + 1 := by have := HKC.out; omega
          have hpa : (pl s d t k).getD J 0 = d.getD P 0 := by rw [hP]; exact pl_at s d t k J hJ1 (by rw [← HKE.out]; omega)
          have HST := Lib.hid (show reval x (pl s d t k) (J + 1) = reval x (pl s d t k) J ^^^ gm (d.getD P 0) (gpow x J) by rw [← hpa]; rfl)
          have hcell2 : wr2.drew.cell? (ad.add P) = some (.int .u8 (d.getD P 0 : Nat)) := hcell
          clear hP hpa
          generalize d.getD P 0 = dv at *
          generalize reval x (pl s d t k) J = v at *
          have hp := gpow_lt x J
          have hz := gm_lt dv (gpow x J)
          have HX := Lib.hid (u8_xor_nat v (gm dv (gpow x J)) hv hz)
          have hi1 : (P : Int) < (d.length : Int) := by omega
          obtain ⟨K, hK⟩ : ∃ K, K = J - 1 := ⟨_, rfl⟩
          obtain ⟨Q, hQ⟩ : ∃ Q, Q = 32 * K := ⟨_, rfl⟩
          have w1 : IntKind.i64.wrap ((J : Int) - 1) = (K : Int) := by rw [IntKind.wrap_i64]; omega
          have w2 : IntKind.i64.wrap (32 * (K : Int)) = (Q : Int) := by rw [IntKind.wrap_i64]; omega
          have w3 : IntKind.i64.wrap ((Q : Int) + (k : Int)) = (P : Int) := by rw [IntKind.wrap_i64]; omega
          clear hK hQ
          go_wp2_with fail
          go_quiet (first
            | (go_at_call 14; exact quiet_from (pow_c x J _ hx (by omega)))
            | (go_at_call 21; exact quiet_from (rmul_c dv (gpow x J) _ hdv hp)))
          go_wp2
          go_roundw
          case rel =>
            go_light
            exact ⟨J + 1, by omega, by omega, by go_num, by rw [HST.out, HX.out], belowDrewN _ HB.out⟩
          case measure => simp [intOf]; omega
        · have hJe : J = KC + 1 := by have := HKC.out; omega
          have HSH := Lib.hid (HW.out.next HB.out)
          have hre : reval x (pl s d t k) J = sy s d t x k := by
            have h := reval_is x hx (pl s d t k) HPLL.out
            rw [pl_len, ← HKE.out, ← hJe] at h
            exact h
          have hsy : sy s d t x k < 256 := sy_lt HSL.out HD.out t x k
          have HST := Lib.hid (sysTo_set s d t x k hlt)
          have c5 : wr2.cell? ⟨w.heap.size + 1 + 1, 1 + k, none⟩ = some (.int .u8 ((x :: sysTo s d t x k).getD (1 + k) 0 : Nat)) := (HSH.out.bo.cell (1 + k)).trans (vb_at _ _ (by simp [sysTo_len]; omega))
          have f5 : wr2.frozen? ⟨w.heap.size + 1 + 1, 1 + k, none⟩ = false := HSH.out.bo.free (1 + k)
          rw [hre]
          clear hre
          obtain ⟨V, hV⟩ : ∃ V, V = sy s d t x k := ⟨_, rfl⟩
          rw [← hV] at HST hsy
          rw [← hV]
          clear hV hv
          have hcase : ¬ J < t ∨ (J < t ∧ ¬ P < d.length) := by omega
          clear h12
          rcases hcase with h1 | ⟨h1, h2⟩
          · clear hat
            go_wp2_with fail
            go_roundw
            case rel =>
              go_light
              refine ⟨k + 1, by omega, by go_num, ?_⟩
              have h := HSH.out.set_ (1 + k) V
              rw [Nat.add_comm 1 k, List.set_cons_succ, HST.out] at h
              rw [Nat.add_comm 1 k]
              exact h
            case measure => simp [intOf]; omega
          · obtain ⟨K, hK⟩ : ∃ K, K = J - 1 := ⟨_, rfl⟩
            obtain ⟨Q, hQ⟩ : ∃ Q, Q = 32 * K := ⟨_, rfl⟩
            have w1 : IntKind.i64.wrap ((J : Int) - 1) = (K : Int) := by rw [IntKind.wrap_i64]; omega
            have w2 : IntKind.i64.wrap (32 * (K : Int)) = (Q : Int) := by rw [IntKind.wrap_i64]; omega
            have w3 : IntKind.i64.wrap ((Q : Int) + (k : Int)) = (P : Int) := by rw [IntKind.wrap_i64]; omega
            clear hK hQ hP
            go_wp2_with fail
            go_roundw
            case rel =>
              go_light
              refine ⟨k + 1, by omega, by go_num, ?_⟩
              have h := HSH.out.set_ (1 + k) V
              rw [Nat.add_comm 1 k, List.set_cons_succ, HST.out] at h
              rw [Nat.add_comm 1 k]
              exact h
            case measure => simp [intOf]; omega
    · have hk32 : k = 32 := by omega
      subst hk32
      have hall := sysTo_all s d t x
      rw [hall] at HW
      clear hall
      have hbo : wr.heap[w.heap.size + 1 + 1]? = some (.cells (vb (x :: sys s d t x)) 48 (0, 0)) := HW.out.bo
      have hbr : wr.heap[w.heap.size + 1]? = some (.cells z33 48 (0, 0)) := HW.out.br
      have hsz : (Try.prog.info? 48).map (·.size) = some 33 := by kernel_rfl
      have hvs : (vb (x :: sys s d t x)).size = 33 := by rw [vb_size, List.length_cons, sys_len]
      have HBO := Lib.hid hbo
      have HBR := Lib.hid hbr
      have HVS := Lib.hid (show (Try.prog.info? 48).map (·.size) = some (vb (x :: sys s d t x)).size by rw [hvs]; exact hsz)
      have HOS := Lib.hid (show z33.size = (vb (x :: sys s d t x)).size by rw [hvs]; exact zn)
      clear hbo hbr hsz hvs
      go_wp2_with (first
        | (refine wpList_load_row rfl 48 (.tmp 9) rfl (w.heap.size + 1 + 1) rfl 48 _ _ _ HBO.out Try.underlying48 rfl HVS.out ?_)
        | (refine wpList_store_rowTo rfl 48 (.tmp 8) (.tmp 55) rfl rfl (w.heap.size + 1) (vb (x :: sys s d t x)) rfl rfl 48 z33 HBR.out HVS.out HOS.out (vb_one _) ?_))
      (try simp only [Exit.inBlock, Exit.then])
      refine bodyPost_ret (results_cell_row rfl _ _ (w.heap.size + 1) 48 (vb (x :: sys s d t x)) (0, 0) _ rfl (Blk.row (old := z33) HBR.out) Try.underlying48 rfl HVS.out) rfl ?_
      exact ⟨rfl, Below.setRow HW.out.bel (by omega) _⟩
end Go.Proofs.Ytldanlglefgobaa
