/- Contract: pieces are read. -/
import Derived.Test.YtlidfmbmlhaacaaDk4
namespace Go.Proofs.Ytlidfmbmlhaacaa
open Go.RowKit
set_option linter.unusedVariables false
set_option linter.unusedSimpArgs false
set_option maxRecDepth 100000 in
set_option maxHeartbeats 400000 in
theorem equal_c (B C : Nat) (A D : Option Addr) (ca cb : Nat) (l m : List Nat) (w : World) (hl : ∀ c ∈ l, c < 256) (hm : ∀ c ∈ m, c < 256) (hr : Rd w B A (byt l)) (hs : Rd w C D (byt m)) (h1 : l.length ≤ 1000000000) (_h2 : m.length ≤ 1000000000) :
    Calls Try.prog 37 #[.slice A l.length ca, .slice D m.length cb] w (Quietly (.bool (l == m)) w) := by
  have HL := Lib.hid hl
  have HM := Lib.hid hm
  have HR := Lib.hid hr
  have HS := Lib.hid hs
  clear hl hm hr hs
  by_cases hlen : l.length = m.length
  · have HN := Lib.hid hlen
    rw [← hlen]
    have h3 : l.length ≤ m.length := by omega
    clear hlen _h2
    go_enter Try.func37, Try.ntmps37
    go_wp2
    go_loopw [13] (fun i wr => ∃ k q : Nat, k ≤ l.length ∧ i = .int .i64 k ∧ l.take k = m.take k ∧ wr = w.drewN q) (fun i _ => l.length - (intOf i).toNat)
    case atStart => exact ⟨0, 0, Nat.zero_le _, rfl, by simp, rfl⟩
    case round =>
      obtain ⟨k, q, hk, rfl, ht, rfl⟩ := hrel
      have HT := Lib.hid ht
      clear ht
      by_cases hlt : k < l.length
      · obtain ⟨ad, rfl, hab, hca⟩ := HR.out.byte hlt
        obtain ⟨ad2, rfl, hab2, hcb⟩ := HS.out.byte (show k < m.length by omega)
        have HST := Lib.hid (take_succ_eq hlt (show k < m.length by omega))
        have hx := getD_lt HL.out k
        have hy := getD_lt HM.out k
        generalize l.getD k 0 = x at *
        generalize m.getD k 0 = y at *
        have hi1 : (k : Int) < (l.length : Int) := by omega
        by_cases heq : x = y
        · subst heq
          go_wp2
          go_quiet (fail)
          go_wp2
          go_roundw
          case rel => exact ⟨k + 1, _, by omega, by go_num, HST.out.2 (by first | exact ⟨HT.out, rfl⟩ | exact ⟨HT.out, trivial⟩), rfl⟩
          case measure => simp [intOf]; omega
        · have t1 : (((x : Nat) : Int) != (y : Int)) = true := by rw [bne_iff_ne]; omega
          have HE := Lib.hid heq
          clear heq
          go_wp2
          go_quiet (fail)
          go_wp2
          go_ret
          have hne : l ≠ m := fun h => by
            subst h
            have := HST.out.1 rfl
            exact HE.out this.2
          have e : (l == m) = false := by simpa using hne
          rw [e]
          exact ⟨rfl, _, World.drewN_drewN ..⟩
      · obtain rfl : k = l.length := by omega
        go_wp2
        go_ret
        have e : l = m := by
          have := HT.out
          rw [List.take_length, HN.out, List.take_length] at this
          exact this
        have e2 : (l == m) = true := by simpa using e
        rw [e2]
        exact ⟨rfl, _, rfl⟩
  · have hne : l ≠ m := fun h => hlen (by rw [h])
    have e : (l == m) = false := by simpa using hne
    rw [e]
    have t1 : (((l.length : Nat) : Int) != (m.length : Int)) = true := by rw [bne_iff_ne]; omega
    clear hlen hne e
    go_enter Try.func37, Try.ntmps37
    go_wp2
    go_ret
    exact ⟨rfl, 0, rfl⟩

theorem rdr_new {w : World} {ad : Addr} {ca n : Nat} {b : List Nat} (hr : Rd w w.heap.size (some ad) (byt b)) (hn : 2 + n ≤ b.length) (hc : b.length ≤ ca) (hm : ca ≤ maxLen) (A' : Option Addr) (c' : Nat) (hc' : c' = ca - 2) (hA : ca ≠ 2 → A' = some (ad.add 2)) :
    RdrAt (w.alloc (.cells #[.slice A' n c', .bool false] 62)) w.heap.size w.heap.size ((b.drop 2).take n) false := by
  have hl : ((b.drop 2).take n).length = n := by rw [List.length_take, List.length_drop]; omega
  refine ⟨A', c', ?_, fun hne => ?_, by rw [hl]; omega, by omega⟩
  · rw [hl]; exact Blk.new w _ _
  · have h0 : 0 < n := by
      rcases Nat.eq_zero_or_pos n with h0 | h0
      · rw [h0, List.take_zero] at hne; exact absurd rfl hne
      · exact h0
    obtain ⟨ad', e1, hab, hcell⟩ := hr (by intro h1; have h2 := congrArg List.length h1; rw [byt_len, List.length_nil] at h2; omega)
    injection e1 with e1
    subst e1
    refine ⟨ad.add 2, hA (by omega), by rw [add_block]; exact hab, fun j v hv => ?_⟩
    rw [Addr.add_add]
    have hj : j < n := by
      rcases Nat.lt_or_ge j n with h1 | h1
      · exact h1
      · rw [List.getElem?_eq_none (by rw [byt_len, hl]; exact h1)] at hv; cases hv
    refine ((Below.refl _ _).alloc (Nat.le_refl _) _).cell (by rw [add_block]; exact hab) |>.trans (hcell (2 + j) v ?_)
    unfold byt at hv ⊢
    rw [List.map_take, List.getElem?_take_of_lt hj, List.map_drop, List.getElem?_drop] at hv
    exact hv
theorem OwnP.drewN {w : World} {base : Nat} {v : Value} {l : List Pc} (h : OwnP w base v l) (n : Nat) : OwnP (w.drewN n) base v l := h
def ReadPost (b : List Nat) (w : World) (e : Ending) (w' : World) : Prop := ∃ v, e = .returned (.tuple #[v, .int .i64 (readE b : Nat)]) ∧ OwnP w' w.heap.size v (readL b) ∧ Below w.heap.size w w'
theorem readPost_no {b : List Nat} {w w' : World} {E : Int} (hE : (readE b : Int) = E) (h0 : E ≠ 0) (hb : Below w.heap.size w w') : ReadPost b w (.returned (.tuple #[.slice none 0 0, .int .i64 E])) w' := by
  refine ⟨.slice none 0 0, by rw [hE], ?_, hb⟩
  rw [show readL b = [] by unfold readL; rw [if_neg (by omega)]]
  exact OwnP.nil_ _ _
def ReadRel (g N : Nat) (R : List Pc × Bool) (w : World) (o i : Value) (wr : World) : Prop :=
  ∃ (k : Nat) (bb : List Nat) (xb : Bool) (acc : List Pc), i = .int .u64 k ∧ R = rgL k bb xb acc ∧ OwnP wr (g + 1) o acc ∧ RdrAt wr g g bb xb ∧ Below g w wr ∧ acc.length + bb.length ≤ N ∧ (∀ c ∈ bb, c < 256) ∧ k < 18446744073709551616 ∧ (∀ p ∈ acc, PcOk p ∧ p.s.size ≤ N)
theorem readE_bad {b : List Nat} (h0 : shortB b = false) {l : List Pc} (h : readB b = (l, true)) : readE b = 4 := by
  unfold readE
  rw [h0, h]
  rfl
theorem readE_good {b : List Nat} (h0 : shortB b = false) {l : List Pc} (h : readB b = (l, false)) : readE b = if chkL l = 0 ∧ layL l = b then 0 else 4 := by
  unfold readE
  rw [h0, h]
  rfl
theorem readL_good {b : List Nat} {l : List Pc} {x : Bool} (h : readB b = (l, x)) (h1 : readE b = 0) : readL b = l := by
  unfold readL
  rw [if_pos h1, h]
theorem rowsL_lt (g : List Pc) : ∀ t step v, ∀ c ∈ rowsL t step v g, c < 256 := by
  induction g with
  | nil => intro t step v c hc; simp [rowsL] at hc
  | cons p g ih =>
    intro t step v c hc
    rw [rowsL] at hc
    simp only [List.mem_append] at hc
    rcases hc with (((h | h) | h) | h) | h
    · exact sh_lt _ c h
    · exact sh_lt _ c h
    · exact sh_lt _ c h
    · exact form_lt _ _ c h
    · exact ih _ _ _ c h
theorem putL_lt (g : List Pc) : ∀ c ∈ putL g, c < 256 := by
  cases g with
  | nil => intro c hc; simp [putL] at hc
  | cons p g =>
    intro c hc
    unfold putL at hc
    simp only [List.mem_append] at hc
    rcases hc with ((h | h) | h) | h
    · exact sh_lt _ c h
    · exact sby_lt _ c h
    · exact sh_lt _ c h
    · exact rowsL_lt _ _ _ _ c h
theorem layR_lt (l : List Pc) : ∀ c ∈ layR l, c < 256 := by
  intro c hc
  unfold layR at hc
  split at hc
  · unfold layL formP at hc
    simp only [List.mem_append] at hc
    rcases hc with (h | h | h) | h
    · exact form_lt _ _ c h
    · exact sh_lt _ c h
    · obtain ⟨m, hm, hc⟩ := List.mem_flatten.1 h
      obtain ⟨g, _, rfl⟩ := List.mem_map.1 hm
      exact putL_lt g c hc
    · have := (List.mem_replicate.1 h).2
      omega
  · cases hc
set_option maxRecDepth 100000 in
set_option maxHeartbeats 4000000 in
theorem read_c (A : Option Addr) (ca : Nat) (b : List Nat) (w : World) (hr : Rd w w.heap.size A (byt b)) (hc : b.length ≤ ca) (hm : ca ≤ maxLen) (hl : ∀ c ∈ b, c < 256) (hn : b.length ≤ 100000) :
    Calls Try.prog 15 #[.slice A b.length ca] w (ReadPost b w) := by
  obtain ⟨i0, hi, hz0, hz1, hz2⟩ := piece_parts
  have HR := Lib.hid hr
  have HL := Lib.hid hl
  have HC := Lib.hid hc
  have HM := Lib.hid hm
  by_cases hl2 : b.length < 2
  · have HG := Lib.hid (show Calls Try.prog 34 #[.slice A b.length ca, .int .i64 2] w fun e w' => e = .returned (.tuple #[.int .u64 (0 : Nat), .int .i64 2]) ∧ w = w' by
      have h := get_c w.heap.size A ca b 2 w hr hl (by omega) (by decide) (by decide)
      rw [show getErr b.length 2 = 2 by unfold getErr; rw [if_neg (by omega), if_pos (by omega)], show getNum b 2 = 0 by unfold getNum; rw [if_neg (by unfold getErr; rw [if_neg (by omega), if_pos (by omega)]; decide)]] at h
      exact h)
    have HE := Lib.hid (show (readE b : Int) = 2 by unfold readE shortB; rw [decide_eq_true hl2]; rfl)
    clear hr hl hc hm hl2
    go_enter Try.func15, Try.ntmps15
    go_wp2_with fail
    go_step3
    go_wp2_with (go_at_call 34; (refine HG.out.mono ?_); rintro e W0 ⟨rfl, rfl⟩)
    refine bodyPost_ret (results_tmp2 rfl _ _ _) rfl ?_
    exact readPost_no HE.out (by decide) (Below.refl _ _)
  · have hl0 : (b.take 2).length = 2 := by rw [List.length_take]; omega
    have hnum : number (b.take 2) < 65536 := num2_lt (fun c hc => hl c (List.mem_of_mem_take hc)) (by omega)
    have hge : getErr b.length 2 = 0 := by unfold getErr; rw [if_neg (by omega), if_neg (by omega)]
    have HG := Lib.hid (show Calls Try.prog 34 #[.slice A b.length ca, .int .i64 2] w fun e w' => e = .returned (.tuple #[.int .u64 (number (b.take 2) : Nat), .int .i64 0]) ∧ w = w' by
      have h := get_c w.heap.size A ca b 2 w hr hl (by omega) (by decide) (by decide)
      rw [hge, show getNum b 2 = number (b.take 2) by unfold getNum; rw [if_pos hge]; rfl] at h
      exact h)
    have HSH := Lib.hid (show shortB b = decide (b.length < number (b.take 2) + 2) by unfold shortB; rw [decide_eq_false hl2, Bool.false_or])
    have HBD := Lib.hid (show bodyL b = (b.drop 2).take (number (b.take 2)) from rfl)
    clear hge hl0
    generalize number (b.take 2) = n at *
    have f64 : IntKind.i64.wrap (n : Int) = (n : Int) := IntWalk.i64_in _ (by omega)
    obtain ⟨ad, rfl, _, _⟩ := hr (by intro h1; have h2 := congrArg List.length h1; rw [byt_len, List.length_nil] at h2; omega)
    clear hr hl hm hc
    have hl3 : 2 ≤ b.length := by omega
    clear hl2
    by_cases hs : b.length < n + 2
    · have HE := Lib.hid (show (readE b : Int) = 2 by unfold readE; rw [HSH.out, decide_eq_true hs]; rfl)
      have q1 : (b.length : Int) - 2 < (n : Int) := by omega
      go_enter Try.func15, Try.ntmps15
      go_wp2_with fail
      go_step3
      go_wp2_with (go_at_call 34; (refine HG.out.mono ?_); rintro e W0 ⟨rfl, rfl⟩)
      refine bodyPost_ret (results_tmp2 rfl _ _ _) rfl ?_
      exact readPost_no HE.out (by decide) (Below.refl _ _)
    · have HSH0 := Lib.hid (show shortB b = false by rw [HSH.out]; exact decide_eq_false hs)
      have HQ1 := Lib.hid (show ¬ (b.length : Int) - 2 < (n : Int) by omega)
      have q1 : ¬ (b.length : Int) - 2 < (n : Int) := by omega
      have q2 : 2 + n ≤ b.length := by omega
      have q3 : 2 + n ≤ ca := by have := HC.out; omega
      have HNEW := Lib.hid (fun A' c' => rdr_new (A' := A') (c' := c') HR.out q2 HC.out HM.out)
      rw [← HBD.out] at HNEW
      have hbn : (bodyL b).length ≤ b.length := body_len b
      have HBL := Lib.hid (body_lt HL.out)
      obtain ⟨n1, b1, x1, h1⟩ : ∃ n1 b1 x1, rdS (bodyL b) false = (n1, b1, x1) := ⟨_, _, _, rfl⟩
      obtain ⟨f11, f12, f13, f14⟩ := rdS_facts HBL.out h1
      have HB1 := Lib.hid (show readB b = rgL n1 b1 x1 [] by unfold readB; rw [h1])
      have HS1 := Lib.hid (fun W h => shortN (g := w.heap.size) (B := w.heap.size) W h (Nat.le_refl _) HBL.out (by omega) h1)
      have HF11 := Lib.hid f11
      have HF12 := Lib.hid f12
      have hb1n : b1.length ≤ b.length := by omega
      obtain ⟨R, hR⟩ : ∃ R, R = readB b := ⟨_, rfl⟩
      have HRB := Lib.hid hR
      rw [← hR] at HB1
      clear h1 f11 f12 f13 f14 hR hs
      go_enter Try.func15, Try.ntmps15
      go_wp2_with fail
      go_step3
      go_upto_region 5 with (go_at_call 34; (refine HG.out.mono ?_); rintro e W0 ⟨rfl, rfl⟩)
      have HZ := Lib.hid (HNEW.out (if ca = 2 then some ad else some ⟨ad.block, ad.off + 2, none⟩) (ca - 2) rfl (fun h => by rw [if_neg h]; rfl))
      generalize (if ca = 2 then some ad else some (⟨ad.block, ad.off + 2, none⟩ : Addr)) = A' at *
      have HBZ := Lib.hid (show Below w.heap.size w (w.alloc (Obj.cells #[.slice A' n (ca - 2), .bool false] 62)) from (Below.refl _ _).alloc (Nat.le_refl _) _)
      have HSZ := Lib.hid (show w.heap.size + 1 ≤ (w.alloc (Obj.cells #[.slice A' n (ca - 2), .bool false] 62)).heap.size by simp)
      generalize w.alloc (Obj.cells #[.slice A' n (ca - 2), .bool false] 62) = Z at *
      rw [decide_eq_false (show ¬ (b.length : Int) - 2 < (n : Int) by omega), show 2 + n - 2 = n by omega]
      obtain ⟨g, hg⟩ : ∃ g, g = w.heap.size := ⟨_, rfl⟩
      have HGW := Lib.hid hg
      rw [← hg] at HZ HBZ HSZ HS1 ⊢
      clear hg HNEW f64 q1 q2 q3 HG
      go_wp2_with fail
      go_step3
      go_wp2_with (go_at_call 35; (refine (HS1.out Z HZ.out).mono ?_); rintro e W3 ⟨rfl, hr3, ho3⟩; have HR3 := Lib.hid hr3; have HB3 := Lib.hid (show Below g w W3 from HBZ.out.trans (ho3.below (fun i hi => by omega) (by have := HSZ.out; omega))); clear hr3 ho3)
      clear HS1 HZ HBZ
      go_loopw [7, 8] (fun o i wr => ReadRel g b.length R w o i wr) (fun _ i _ => (intOf i).toNat)
      case atStart => exact ⟨n1, b1, x1, [], rfl, HB1.out, OwnP.nil_ _ _, HR3.out, HB3.out, by simp only [List.length_nil]; omega, HF12.out, HF11.out, fun p hp => by cases hp⟩
      case round =>
        rename World => wr
        obtain ⟨k, bb, xb, acc, rfl, hR, hop, hrd, hbe, hacc, hbb, hk, hok⟩ := hrel
        have HRE := Lib.hid hR
        have HP := Lib.hid hop
        have HRD := Lib.hid hrd
        have HBE := Lib.hid hbe
        have hbe' : g ≤ wr.heap.size := by have := hrd.lt; omega
        have HBB := Lib.hid hbb
        have HK := Lib.hid hk
        have HOK := Lib.hid hok
        clear hR hop hrd hbe hbb hk hok HB1 HR3 HB3 HF11 HF12
        cases k with
        | zero =>
          have HFIN := Lib.hid (show R = (acc, xb) from HRE.out)
          obtain ⟨cb, fb⟩ := HRD.out.cbad
          cases xb with
          | true =>
            have HE := Lib.hid (show (readE b : Int) = 4 by rw [readE_bad HSH0.out (l := acc) (by rw [← HRB.out]; exact HFIN.out)]; rfl)
            go_wp2_with fail
            try rw [Exit.noGoto_ret]
            refine bodyPost_ret (results_tmp2 rfl _ _ _) rfl ?_
            exact readPost_no HE.out (by decide) (by rw [← HGW.out]; exact HBE.out)
          | false =>
            have HRG := Lib.hid (show readB b = (acc, false) by rw [← HRB.out]; exact HFIN.out)
            have HEG := Lib.hid (readE_good HSH0.out HRG.out)
            obtain ⟨A8, c8, rfl, hc8, _, hrp⟩ := HP.out.rd
            have HLY := Lib.hid (lay_c A8 c8 acc wr hrp hc8 (by omega) (fun p hp => ⟨(HOK.out p hp).1, by have := (HOK.out p hp).2; omega⟩))
            have HLLN := Lib.hid (layR_le (l := acc) (fun p hp => (HOK.out p hp).1))
            have HCH := Lib.hid (show chkL acc ≤ 3 by unfold chkL; split <;> (try split) <;> omega)
            have HRG2 := Lib.hid (show Rd w g (some ad) (byt b) by rw [HGW.out]; exact HR.out)
            have HEQ := Lib.hid (fun W A c (hb : Below g w W) h => equal_c W.heap.size g A (some ad) c ca (layR acc) b W (layR_lt acc) HL.out h (HRG2.out.below hb) (by have := HLLN.out; omega) (by omega))
            have HGS := Lib.hid hbe'
            by_cases h0 : chkL acc = 0
            · have HLR := Lib.hid (show layR acc = layL acc by unfold layR; rw [if_pos h0])
              rw [h0] at HLY
              by_cases hq : layR acc = b
              · have HE := Lib.hid (show (readE b : Int) = 0 by rw [HEG.out, if_pos ⟨h0, by rw [← HLR.out]; exact hq⟩]; rfl)
                have HLL := Lib.hid (readL_good HRG.out (by have := HE.out; omega))
                have HQB := Lib.hid (show (layR acc == b) = true by rw [beq_iff_eq]; exact hq)
                rw [HQB.out] at HEQ
                clear h0 hq
                go_wp2_with (first
                  | (go_at_call 10; (refine HLY.out.mono ?_); rintro e W9 ⟨v9, rfl, ho, hb⟩; obtain ⟨A9, c9, rfl, _, _, r9⟩ := ho.rd; have HR9 := Lib.hid r9; have HB9 := Lib.hid (show Below g w W9 from HBE.out.trans (hb.mono HGS.out)); have HP9 := Lib.hid (HP.out.next hb); clear ho hb r9)
                  | (go_at_call 37; (refine (HEQ.out W9 A9 c9 HB9.out HR9.out).mono ?_); rintro e Wx ⟨rfl, nq, rfl⟩))
                try rw [Exit.noGoto_ret]
                refine bodyPost_ret (results_tmp2 rfl _ _ _) rfl ?_
                exact ⟨_, by rw [HE.out]; rfl, by rw [HLL.out]; exact own_base_le (OwnP.drewN HP9.out nq) (by rw [← HGW.out]; omega), by rw [← HGW.out]; exact belowDrewN nq HB9.out⟩
              · have HE := Lib.hid (show (readE b : Int) = 4 by rw [HEG.out, if_neg (fun h => hq (by rw [HLR.out]; exact h.2))]; rfl)
                have HQB := Lib.hid (show (layR acc == b) = false by rw [beq_eq_false_iff_ne]; exact hq)
                rw [HQB.out] at HEQ
                clear h0 hq
                go_wp2_with (first
                  | (go_at_call 10; (refine HLY.out.mono ?_); rintro e W9 ⟨v9, rfl, ho, hb⟩; obtain ⟨A9, c9, rfl, _, _, r9⟩ := ho.rd; have HR9 := Lib.hid r9; have HB9 := Lib.hid (show Below g w W9 from HBE.out.trans (hb.mono HGS.out)); clear ho hb r9)
                  | (go_at_call 37; (refine (HEQ.out W9 A9 c9 HB9.out HR9.out).mono ?_); rintro e Wx ⟨rfl, nq, rfl⟩))
                try rw [Exit.noGoto_ret]
                refine bodyPost_ret (results_tmp2 rfl _ _ _) rfl ?_
                exact readPost_no HE.out (by decide) (by rw [← HGW.out]; exact belowDrewN nq HB9.out)
            · have HE := Lib.hid (show (readE b : Int) = 4 by rw [HEG.out, if_neg (fun h => h0 h.1)]; rfl)
              have hq : decide (((chkL acc : Nat) : Int) = 0) = false := decide_eq_false (by omega)
              have hne : ((chkL acc : Nat) : Int) ≠ 0 := by omega
              clear HEG HEQ
              generalize chkL acc = e0 at *
              clear h0
              go_wp2_with (go_at_call 10; (refine HLY.out.mono ?_); rintro e W9 ⟨v9, rfl, ho, hb⟩; have HB9 := Lib.hid (show Below g w W9 from HBE.out.trans (hb.mono HGS.out)); clear ho hb)
              try rw [Exit.noGoto_ret]
              refine bodyPost_ret (results_tmp2 rfl _ _ _) rfl ?_
              exact readPost_no HE.out (by decide) (by rw [← HGW.out]; exact HB9.out)
        | succ j =>
          obtain ⟨l5, b5, x5, h5⟩ : ∃ l5 b5 x5, rsL bb xb = (l5, b5, x5) := ⟨_, _, _, rfl⟩
          obtain ⟨f1, f2, f3, f4⟩ := rsL_facts bb xb HBB.out
          have HSE := Lib.hid (series_c g g bb xb wr HRD.out (Nat.le_refl _) HBB.out (by omega))
          have HST := Lib.hid (HRE.out.trans (show rgL (j + 1) bb xb acc = _ by rw [rgL]))
          rw [h5] at f1 f2 f3 f4 HSE HST
          simp only at f1 f2 f3 f4
          have HOKN := Lib.hid (show ∀ p ∈ acc ++ l5, PcOk p ∧ p.s.size ≤ b.length from fun p hp => by
            rcases List.mem_append.1 hp with hp | hp
            · exact HOK.out p hp
            · exact ⟨(f1 p hp).1, by have := (f1 p hp).2; omega⟩)
          have HF3 := Lib.hid f3
          clear h5 f1 f3 f4 HRE HOK HBB
          go_upto_region 10 with (first
            | (go_at_call 36; (refine HSE.out.mono ?_); rintro e W5 ⟨v5, rfl, ho, hr, hon⟩; obtain ⟨A5, c5, rfl, _, _, r5⟩ := ho.rd; have HR5 := Lib.hid (show RdrAt W5 g g b5 x5 from hr); have HRP5 := Lib.hid (show RdP W5 W5.heap.size A5 l5 from r5); have HP5 := Lib.hid (HP.out.off hon (fun k hk => by omega)); have HB5 := Lib.hid (show Below g w W5 from HBE.out.trans (hon.below (fun i hi => by omega) hbe')); have HS5 := Lib.hid (show g + 1 ≤ W5.heap.size from HR5.out.lt); clear ho hr hon r5)
            | (at_builtin; go_loud (refine wpList_app _ rfl (.tmp 38) (.tmp 40) _ rfl (g + 1) 31 i0 (.agg zPc) 5 48 Try.underlying22 hi hz0 hz1 hz2 rfl (by decide) _ acc.length (pcs acc) rfl HP5.out _ A5 l5.length c5 (pcs l5) rfl (pcs_len l5) HRP5.out (pcs_oneCell _) (by omega) (by omega) HS5.out ?_; intro v6 W6 hap; have HB6 := Lib.hid (hap.below HP5.out HS5.out); have HP6 := Lib.hid (OwnP.app (l := acc) (m := l5) hap); have HR6 := Lib.hid (HR5.out.off (Nat.le_refl _) HB6.out); have HBN := Lib.hid (HB5.out.trans (HB6.out.mono (Nat.le_succ _))); clear hap)))
          obtain ⟨cb, fb⟩ := HR6.out.cbad
          cases x5 with
          | true =>
            have HFIN := Lib.hid (show R = (acc ++ l5, true) from HST.out)
            have HE := Lib.hid (show (readE b : Int) = 4 by rw [readE_bad HSH0.out (l := acc ++ l5) (by rw [← HRB.out]; exact HFIN.out)]; rfl)
            go_wp2_with fail
            try rw [Exit.noGoto_ret]
            refine bodyPost_ret (results_tmp2 rfl _ _ _) rfl ?_
            exact readPost_no HE.out (by decide) (by rw [← HGW.out]; exact HBN.out)
          | false =>
            have HSTF := Lib.hid (show R = rgL j b5 false (acc ++ l5) from HST.out)
            have fj : IntKind.u64.wrap (j : Int) = (j : Int) := by rw [IntKind.wrap_u64]; have := HK.out; omega
            go_wp2_with fail
            go_roundw
            case rel => exact ⟨j, b5, false, acc ++ l5, by go_num, HSTF.out, HP6.out, HR6.out, HBN.out, by rw [List.length_append]; omega, HF3.out, by have := HK.out; omega, HOKN.out⟩
            case measure => simp [intOf] <;> omega
end Go.Proofs.Ytlidfmbmlhaacaa
