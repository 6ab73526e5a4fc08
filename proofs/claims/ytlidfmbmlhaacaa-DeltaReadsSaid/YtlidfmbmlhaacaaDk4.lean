/- The reader: the pieces of a series are read. -/
import Derived.Test.YtlidfmbmlhaacaaDk2
import Derived.Test.YtlidfmbmlhaacaaDk3
import Derived.Test.YtlidfmbmlhaacaaDj1
import Derived.Laws.BytesArg
import Derived.WalkMore
namespace Go.Proofs.Ytlidfmbmlhaacaa
open Go.RowKit
set_option linter.unusedVariables false
set_option linter.unusedSimpArgs false
/-- bytes as a text -/
def strB (l : List Nat) : ByteArray := ⟨(l.map UInt8.ofNat).toArray⟩
section
variable {P : Program}
theorem run_convS (w : World) (src e dst : TypeId) (hs : P.underlying src = some (.slice e)) (he : P.underlying e = some (.int .u8)) (hd : P.underlying dst = some .string) (B : Nat) (A : Option Addr) (n c : Nat) (l : List Nat) (hr : Rd w B A (byt l)) (hn : n = l.length) :
    (convert src dst (.slice A n c)).run P w = .ok (.string (strB l)) w := by
  subst hn
  cases A with
  | none =>
    obtain rfl : l = [] := by
      cases l with
      | nil => rfl
      | cons a l => obtain ⟨ad, h, _⟩ := hr (by simp [byt]); cases h
    rw [run_convert_bytes_nil w src e hs he _ _ dst hd]
    rfl
  | some ad =>
    have hc : ∀ j v, (byt l)[j]? = some v → w.cell? (ad.add j) = some v := by
      intro j v hv
      have hne : byt l ≠ [] := by intro h0; rw [h0] at hv; cases hv
      obtain ⟨ad', e1, _, hc⟩ := hr hne
      injection e1 with e1
      subst e1
      exact hc j v hv
    have hl := run_loadCells_list (P := P) w ad (byt l) hc
    have e2 : byt l = (l.map fun (n : Nat) => (n : Int)).map (Value.int .u8) := by simp [byt]
    rw [e2, List.length_map, List.length_map] at hl
    rw [run_convert_bytes_string w src dst e _ _ c hs he hd, run_bytesToString w ad l.length c _ hl, foldl_push_bytes]
    congr 2
    apply ByteArray.ext
    apply Array.toList_inj.1
    simp [strB, ByteArray.empty, ByteArray.emptyWithCapacity, List.map_map]
    show List.map _ l = _
    exact List.map_congr_left (fun a _ => rfl)
theorem wpList_convS {ops : Array Oper} {rest : List Oper} {op : Oper} {a : Act} {w : World} {Q : Exit → Act → World → Prop} (hw : Region.wanted op (yielded ops a.tmps) = true) (src dst e : TypeId) (x : Operand) (ho : op.op = .convert src dst x)
    (hs : P.underlying src = some (.slice e)) (he : P.underlying e = some (.int .u8)) (hd : P.underlying dst = some .string) (B : Nat) (A : Option Addr) (n c : Nat) (hx : a.eval x = .slice A n c) (l : List Nat) (hr : Rd w B A (byt l)) (hn : n = l.length)
    (h : wpList P ops Q rest (a.put op.dst (.string (strB l))) w) : wpList P ops Q (op :: rest) a w :=
  wpList_valG hw _ (by
    unfold execOp
    simp only [ho, hx, Sem.run_bind, Sem.run_pure, Result.andThen_ok, run_convS w src e dst hs he hd B A n c l hr hn]) h
end
theorem shortN {g B : Nat} {b b1 : List Nat} {bad x1 : Bool} {n1 : Nat} (w : World) (hr : RdrAt w g B b bad) (hB : B ≤ g) (hl : ∀ c ∈ b, c < 256) (hn : b.length ≤ 10000000) (h : rdS b bad = (n1, b1, x1)) :
    Calls Try.prog 35 #[.pointer (some ⟨g, 0, none⟩)] w fun e w' => e = .returned (.int .u64 (n1 : Nat)) ∧ RdrAt w' g B b1 x1 ∧ Only (fun k => k = g) w w' := by
  have hh := rshortR_c g B b bad w hr hB hl hn
  rw [h] at hh
  exact hh
def BytesN (g B : Nat) (l b : List Nat) (x : Bool) (w : World) (e : Ending) (w' : World) : Prop := ∃ A' c', e = .returned (.slice A' l.length c') ∧ Rd w' B A' (byt l) ∧ RdrAt w' g B b x ∧ Only (fun k => k = g) w w'
theorem bytesN {g B n : Nat} {b b1 l1 : List Nat} {bad x1 : Bool} (w : World) (hr : RdrAt w g B b bad) (hB : B ≤ g) (hn : b.length ≤ 10000000) (h0 : n < 18446744073709551616) (h : rdB n b bad = (l1, b1, x1)) :
    Calls Try.prog 52 #[.pointer (some ⟨g, 0, none⟩), .int .u64 (n : Nat)] w (BytesN g B l1 b1 x1 w) := by
  have hh := rbytes_c g B n b bad w hr hB hn h0
  rw [h] at hh
  exact hh
theorem OwnP.off {w w' : World} {base : Nat} {v : Value} {l : List Pc} {S : Nat → Prop} (h : OwnP w base v l) (ho : Only S w w') (hS : ∀ k, S k → k < base) : OwnP w' base v l :=
  own_keep h ho (fun g hg hs => by
    have h1 := own_base h g hg
    have h2 := hS g hs
    omega)
theorem OwnP.alloc {w : World} {base : Nat} {v : Value} {l : List Pc} (h : OwnP w base v l) (o : Obj) : OwnP (w.alloc o) base v l := World.ownsRow.alloc h o
theorem OwnP.nil_ (w : World) (base : Nat) : OwnP w base (.slice none 0 0) [] := ⟨rfl, .inl ⟨rfl, rfl⟩⟩
theorem OwnP.app {w w' : World} {base : Nat} {v v' : Value} {l m : List Pc} (h : Apped w base 31 5 v w' v' (l.length + m.length) (pcs l ++ pcs m)) : OwnP w' base v' (l ++ m) := by
  have := h.own
  unfold OwnP
  rw [List.length_append, pcs_app]
  exact this
theorem RdrAt.off {w w' : World} {g B : Nat} {b : List Nat} {bad : Bool} (h : RdrAt w g B b bad) (hB : B ≤ g) (hb : Below (g + 1) w w') : RdrAt w' g B b bad := by
  obtain ⟨A, c, h1, h2, h3, h4⟩ := h
  exact ⟨A, c, h1.below hb (Nat.lt_succ_self _), h2.below ⟨hb.os, hb.tape, hb.output, hb.size, fun k hk => hb.block k (by omega)⟩, h3, h4⟩
theorem RdrAt.lt {w : World} {g B : Nat} {b : List Nat} {bad : Bool} (h : RdrAt w g B b bad) : g < w.heap.size := by
  obtain ⟨A, c, h1, _⟩ := h; exact h1.lt
theorem RdrAt.cbad {w : World} {g B : Nat} {b : List Nat} {bad : Bool} (h : RdrAt w g B b bad) : w.cell? ⟨g, 1, none⟩ = some (.bool bad) ∧ w.frozen? ⟨g, 1, none⟩ = false := by
  obtain ⟨A, c, h1, _⟩ := h; exact ⟨h1.cell 1, h1.free 1⟩
theorem RdrAt.setBad {w : World} {g B : Nat} {b : List Nat} {bad : Bool} (h : RdrAt w g B b bad) (hB : B ≤ g) (x : Bool) : RdrAt (w.setCell ⟨g, 1, none⟩ (.bool x)) g B b x ∧ Only (fun k => k = g) w (w.setCell ⟨g, 1, none⟩ (.bool x)) := by
  obtain ⟨A, c, h1, h2, h3, h4⟩ := h
  have hO : Only (fun k => k = g) w (w.setCell ⟨g, 1, none⟩ (.bool x)) := (Only.refl (fun k => k = g) w).setCell (p := ⟨g, 1, none⟩) (fun _ => show g = g from rfl) _
  refine ⟨⟨A, c, h1.set_ 1 (.bool x), fun hne => ?_, h3, h4⟩, hO⟩
  obtain ⟨ad, rfl, hab, hcell⟩ := h2 hne
  have hnb : ad.block ≠ g := by omega
  exact ⟨ad, rfl, hab, fun j v hv => hO.cell (hcell j v hv) (by rw [add_block]; exact hnb)⟩
def SerPost (g B : Nat) (R : List Pc × List Nat × Bool) (w : World) (e : Ending) (w' : World) : Prop := ∃ v, e = .returned v ∧ OwnP w' w.heap.size v R.1 ∧ RdrAt w' g B R.2.1 R.2.2 ∧ Only (fun k => k = g) w w'
def SerRel (g B N : Nat) (S : ByteArray) (R : List Pc × List Nat × Bool) (w : World) (o tv sv vv i : Value) (wr : World) : Prop :=
  ∃ (k : Nat) (bb : List Nat) (xb : Bool) (t step v : Int) (acc : List Pc), i = .int .u64 k ∧ tv = .int .i64 t ∧ sv = .int .i64 step ∧ vv = .int .i64 v ∧ R = rpL S k bb xb t step v acc ∧ OwnP wr w.heap.size o acc ∧ RdrAt wr g B bb xb ∧ Only (fun k => k = g) w wr ∧
    acc.length + bb.length ≤ N ∧ (∀ c ∈ bb, c < 256) ∧ k < 18446744073709551616 ∧ (-9223372036854775808 ≤ t ∧ t ≤ 9223372036854775807) ∧ (-9223372036854775808 ≤ step ∧ step ≤ 9223372036854775807) ∧ (-9223372036854775808 ≤ v ∧ v ≤ 9223372036854775807)
set_option maxRecDepth 100000 in
set_option maxHeartbeats 4000000 in
theorem series_c (g B : Nat) (b : List Nat) (bad : Bool) (w : World) (hr : RdrAt w g B b bad) (hB : B ≤ g) (hl : ∀ c ∈ b, c < 256) (hn : b.length ≤ 10000000) :
    Calls Try.prog 36 #[.pointer (some ⟨g, 0, none⟩)] w (SerPost g B (rsL b bad) w) := by
  obtain ⟨i0, hi, hz0, hz1, hz2⟩ := piece_parts
  obtain ⟨n1, b1, x1, h1⟩ : ∃ n1 b1 x1, rdS b bad = (n1, b1, x1) := ⟨_, _, _, rfl⟩
  obtain ⟨l2, b2, x2, h2⟩ : ∃ l2 b2 x2, rdB n1 b1 x1 = (l2, b2, x2) := ⟨_, _, _, rfl⟩
  obtain ⟨n3, b3, x3, h3⟩ : ∃ n3 b3 x3, rdS b2 x2 = (n3, b3, x3) := ⟨_, _, _, rfl⟩
  obtain ⟨f11, f12, f13, f14⟩ := rdS_facts hl h1
  obtain ⟨f21, f22, f23, f24, f25⟩ := rdB_facts f12 h2
  obtain ⟨f31, f32, f33, f34⟩ := rdS_facts f23 h3
  have HEQ := Lib.hid (rsL_eq b bad h1 h2 h3)
  have HS1 := Lib.hid (shortN w hr hB hl hn h1)
  have HS2 := Lib.hid (fun W h => bytesN W h hB (by omega) f11 h2)
  have HS3 := Lib.hid (fun W h => shortN W h hB f23 (by omega) h3)
  have HBG := Lib.hid hB
  have HGW := Lib.hid hr.lt
  have HF32 := Lib.hid f32
  have HF31 := Lib.hid f31
  have h3l : b3.length ≤ b.length := by omega
  obtain ⟨R, hR⟩ : ∃ R, R = rsL b bad := ⟨_, rfl⟩
  rw [← hR] at HEQ ⊢
  clear hR hr hl h1 h2 h3 f11 f12 f13 f14 f21 f22 f23 f24 f25 f32 f33 f34 hB
  generalize b.length = N at *
  have HEQ2 := Lib.hid (show R = rpL (strB l2) n3 b3 x3 0 0 0 [] from HEQ.out)
  clear HEQ
  go_enter Try.func36, Try.ntmps36
  go_wp2_with fail
  go_step3
  go_upto_region 2 with (first
    | (go_at_call 35; go_loud ((refine HS1.out.mono ?_); rintro e W1 ⟨rfl, hr1, ho1⟩; have HR1 := Lib.hid hr1; have HO1 := Lib.hid ho1; clear hr1 ho1))
    | (go_at_call 52; (refine (HS2.out W1 HR1.out).mono ?_); rintro e W2 ⟨A2, c2, rfl, hr2, hrr2, ho2⟩; have HD2 := Lib.hid hr2; have HR2 := Lib.hid hrr2; have HO2 := Lib.hid (HO1.out.trans ho2); clear hr2 hrr2 ho2)
    | (refine wpList_convS rfl 32 9 5 (.tmp 17) rfl Try.underlying32 Try.underlying5 Try.underlying9 B A2 l2.length c2 rfl l2 HD2.out rfl ?_))
  generalize strB l2 = S at *
  clear HS1 HS2 HR1 HO1 HD2
  go_wp2_with fail
  go_step3
  go_wp2_with (go_at_call 35; (refine (HS3.out W2 HR2.out).mono ?_); rintro e W3 ⟨rfl, hr3, ho3⟩; have HR3 := Lib.hid hr3; have HO3 := Lib.hid (HO2.out.trans ho3); clear hr3 ho3)
  clear HS3 HR2 HO2
  go_loopw [4, 5, 6, 7, 8] (fun o tv sv vv i wr => SerRel g B N S R w o tv sv vv i wr) (fun _ _ _ _ i _ => (intOf i).toNat)
  case atStart => exact ⟨n3, b3, x3, 0, 0, 0, [], rfl, rfl, rfl, rfl, HEQ2.out, OwnP.nil_ _ _, HR3.out, HO3.out, by simp only [List.length_nil]; omega, HF32.out, HF31.out, by omega, by omega, by omega⟩
  case round =>
    rename World => wr
    obtain ⟨k, bb, xb, t, step, v, acc, rfl, rfl, rfl, rfl, hR, hop, hrd, hon, hacc, hbb, hk, ht, hst, hv⟩ := hrel
    have HRE := Lib.hid hR
    have HP := Lib.hid hop
    have HRD := Lib.hid hrd
    have HON := Lib.hid hon
    have HBB := Lib.hid hbb
    have HK := Lib.hid hk
    have HSZ := Lib.hid hon.size
    clear hR hop hrd hon hbb hk HEQ2 HR3 HO3 HF31 HF32
    cases k with
    | zero =>
      have HFIN := Lib.hid (show R = (acc, bb, xb) from HRE.out)
      go_wp2_with fail
      rw [Exit.noGoto_ret]
      go_ret
      exact ⟨u4, rfl, by rw [HFIN.out]; exact HP.out, by rw [HFIN.out]; exact HRD.out, HON.out⟩
    | succ j =>
      obtain ⟨m1, e1, y1, h1⟩ : ∃ m1 e1 y1, rdS bb xb = (m1, e1, y1) := ⟨_, _, _, rfl⟩
      obtain ⟨m2, e2, y2, h2⟩ : ∃ m2 e2 y2, rdS e1 y1 = (m2, e2, y2) := ⟨_, _, _, rfl⟩
      obtain ⟨m3, e3, y3, h3⟩ : ∃ m3 e3 y3, rdS e2 y2 = (m3, e3, y3) := ⟨_, _, _, rfl⟩
      obtain ⟨l4, e4, y4, h4⟩ : ∃ l4 e4 y4, rdB 2 e3 y3 = (l4, e4, y4) := ⟨_, _, _, rfl⟩
      obtain ⟨f11, f12, f13, f14⟩ := rdS_facts HBB.out h1
      obtain ⟨f21, f22, f23, f24⟩ := rdS_facts f12 h2
      obtain ⟨f31, f32, f33, f34⟩ := rdS_facts f22 h3
      obtain ⟨f41, f42, f43, f44, f45⟩ := rdB_facts f32 h4
      have HS1 := Lib.hid (shortN wr HRD.out HBG.out HBB.out (by omega) h1)
      have HS2 := Lib.hid (fun W h => shortN W h HBG.out f12 (by omega) h2)
      have HS3 := Lib.hid (fun W h => shortN W h HBG.out f22 (by omega) h3)
      have HS4 := Lib.hid (fun W h => bytesN W h HBG.out (by omega) (show 2 < 18446744073709551616 by decide) h4)
      have HST := Lib.hid (HRE.out.trans (rpL_step S j bb xb t step v acc h1 h2 h3 h4))
      obtain ⟨d1, hd1⟩ : ∃ d1, d1 = zag m1 := ⟨_, rfl⟩
      obtain ⟨d2, hd2⟩ : ∃ d2, d2 = zag m2 := ⟨_, rfl⟩
      have HZ1 := Lib.hid (fun W => zag_c m1 W f11)
      have HZ2 := Lib.hid (fun W => zag_c m2 W f21)
      have hdb1 : -9223372036854775808 ≤ d1 ∧ d1 ≤ 9223372036854775807 := by rw [hd1]; exact ⟨zag_lo _ f11, zag_hi _ f11⟩
      have hdb2 : -9223372036854775808 ≤ d2 ∧ d2 ≤ 9223372036854775807 := by rw [hd2]; exact ⟨zag_lo _ f21, zag_hi _ f21⟩
      rw [← hd1] at HZ1
      rw [← hd2] at HZ2
      rw [← hd1, ← hd2] at HST
      have HGT := Lib.hid (fun W A c (h : Rd W B A (byt l4)) => get_c B A c l4 2 W h f41 (by omega) (by decide) (by decide))
      have HN := Lib.hid (show y4 = false → l4.length = 2 ∧ e4.length + 2 ≤ bb.length ∧ m3 < 18446744073709551616 ∧ (∀ c ∈ e4, c < 256) ∧ number l4 < 65536 from fun hx => by
        obtain ⟨a1, a2, a3⟩ := f45 hx
        exact ⟨a2, by omega, f31, f43, num2_lt f41 (by omega)⟩)
      clear h1 h2 h3 h4 f11 f12 f13 f14 f21 f22 f23 f24 f31 f32 f33 f34 f41 f42 f43 f44 f45 hd1 hd2 HRE HBB
      go_upto_region 8 with (first
        | (go_at_call 35; (refine HS1.out.mono ?_); rintro e W4 ⟨rfl, hr, ho⟩; have HR4 := Lib.hid hr; have HO4 := Lib.hid (HON.out.trans ho); have HP4 := Lib.hid (HP.out.off ho (fun k hk => by have := HGW.out; omega)); clear hr ho)
        | (go_at_call 53; (refine (HZ1.out W4).mono ?_); rintro e Wz ⟨rfl, rfl⟩))
      clear HS1 HZ1 HRD HON HP HSZ
      go_upto_region 9 with (first
        | (go_at_call 35; (refine (HS2.out W4 HR4.out).mono ?_); rintro e W5 ⟨rfl, hr, ho⟩; have HR5 := Lib.hid hr; have HO5 := Lib.hid (HO4.out.trans ho); have HP5 := Lib.hid (HP4.out.off ho (fun k hk => by have := HGW.out; omega)); clear hr ho)
        | (go_at_call 53; (refine (HZ2.out W5).mono ?_); rintro e Wz ⟨rfl, rfl⟩))
      clear HS2 HZ2 HR4 HO4 HP4
      go_upto_region 10 with (go_at_call 35; (refine (HS3.out W5 HR5.out).mono ?_); rintro e W6 ⟨rfl, hr, ho⟩; have HR6 := Lib.hid hr; have HO6 := Lib.hid (HO5.out.trans ho); have HP6 := Lib.hid (HP5.out.off ho (fun k hk => by have := HGW.out; omega)); clear hr ho)
      clear HS3 HR5 HO5 HP5
      go_upto_region 11 with (first
        | (go_at_call 52; (refine (HS4.out W6 HR6.out).mono ?_); rintro e W7 ⟨A7, c7, rfl, hd, hr, ho⟩; have HD7 := Lib.hid hd; have HR7 := Lib.hid hr; have HO7 := Lib.hid (HO6.out.trans ho); have HP7 := Lib.hid (HP6.out.off ho (fun k hk => by have := HGW.out; omega)); clear hd hr ho)
        | (go_at_call 34; (refine (HGT.out W7 A7 c7 HD7.out).mono ?_); rintro e Wz ⟨rfl, rfl⟩))
      clear HS4 HGT HD7 HR6 HO6 HP6
      obtain ⟨cb, fb⟩ := HR7.out.cbad
      cases y4 with
      | true =>
        have HFIN := Lib.hid (show R = (acc, e4, true) from HST.out)
        have HSB := Lib.hid (HR7.out.setBad HBG.out true)
        clear HN HST
        go_wp2_with fail
        rw [Exit.noGoto_ret]
        go_ret
        exact ⟨u4, rfl, by rw [HFIN.out]; exact HP7.out.off HSB.out.2 (fun k hk => by have := HGW.out; omega), by rw [HFIN.out]; exact HSB.out.1, HO7.out.trans HSB.out.2⟩
      | false =>
        obtain ⟨hl4, he4, hm3, hb4, hnum⟩ := HN.out rfl
        have HB4 := Lib.hid hb4
        have HM3 := Lib.hid hm3
        have HSTF := Lib.hid (show R = rpL S j e4 false (wrap64 (t + wrap64 (step + d1))) (wrap64 (step + d1)) (wrap64 (v + d2)) (acc ++ [⟨S, wrap64 (t + wrap64 (step + d1)), wrap64 (v + d2), m3, number l4⟩]) by
          simp only [wrap_w]
          exact HST.out)
        have hge : getErr l4.length 2 = 0 := by rw [hl4]; rfl
        have hgn : getNum l4 2 = number l4 := by unfold getNum; rw [if_pos hge]; rw [show (2 : Int).toNat = l4.length by rw [hl4]; rfl, List.take_length]
        rw [hge, hgn]
        generalize number l4 = nn at *
        have f16 : IntKind.u16.wrap (nn : Int) = (nn : Int) := by simp [IntKind.wrap, IntKind.signed, IntKind.bits]; omega
        have hacc2 : acc.length + 1 + e4.length ≤ N := by omega
        have fj : IntKind.u64.wrap (j : Int) = (j : Int) := by rw [IntKind.wrap_u64]; have := HK.out; omega
        clear HN HST hl4 hb4 hm3 hge hgn
        go_wp2_with (at_builtin; refine wpList_app _ rfl (.tmp 59) (.tmp 68) _ rfl w.heap.size 31 i0 (.agg zPc) 5 48 Try.underlying22 hi hz0 hz1 hz2 rfl (by decide) _ acc.length (pcs acc) rfl (HP7.out.alloc _) _ (some ⟨W7.heap.size, 0, none⟩) 1 1 (pcs [⟨S, wrap64 (t + wrap64 (step + d1)), wrap64 (v + d2), m3, nn⟩]) rfl rfl (by exact rd_new W7 (pcs [⟨S, wrap64 (t + wrap64 (step + d1)), wrap64 (v + d2), m3, nn⟩]) _ (0, 0)) (pcs_oneCell _) (by omega) (by omega) (by have := HO7.out.size; simp; omega) ?_; intro v1 w2 hap)
        go_roundw
        case rel =>
          have hsz := HO7.out.size
          have hg8 := HGW.out
          have hbw := hap.below (HP7.out.alloc _) (by simp; omega)
          have hbx : Below w.heap.size W7 w2 := ((Below.refl _ _).alloc hsz _).trans hbw
          have HPN := OwnP.app (l := acc) (m := [⟨S, wrap64 (t + wrap64 (step + d1)), wrap64 (v + d2), m3, nn⟩]) hap
          have HRN := HR7.out.off HBG.out (hbx.mono (by omega))
          have HON : Only (fun k => k = g) w w2 := ⟨hbx.os.trans HO7.out.os, hbx.tape.trans HO7.out.tape, hbx.output.trans HO7.out.output, Nat.le_trans HO7.out.size hbx.size, fun i hi hn => (hbx.block i hi).trans (HO7.out.block i hi hn)⟩
          exact ⟨j, e4, false, _, _, _, _, by go_num, rfl, rfl, rfl, HSTF.out, HPN, HRN, HON, by rw [List.length_append]; simp only [List.length_cons, List.length_nil]; omega, HB4.out, by have := HK.out; omega, ⟨wrap64_lo _, wrap64_hi _⟩, ⟨wrap64_lo _, wrap64_hi _⟩, ⟨wrap64_lo _, wrap64_hi _⟩⟩
        case measure => simp [intOf] <;> omega
end Go.Proofs.Ytlidfmbmlhaacaa
