/- Contracts: the two Heads. -/
import Derived.Test.YtcmahmlcoodfoaaFra0
namespace Go.Proofs.Ytcmahmlcoodfoaa
open Go.RowKit Go.Great
set_option linter.unusedVariables false
theorem own_base_le {w : World} {base base' : Nat} {e : TypeId} {size n : Nat} {v : Value} {xs : List Value} (h : w.ownsRow base e size v n xs) (hb : base' ≤ base) : w.ownsRow base' e size v n xs := by
  refine ⟨h.1, ?_⟩
  rcases h.2 with h0 | ⟨g, cap, cur, h1, h2, h3⟩
  · exact .inl h0
  · exact .inr ⟨g, cap, cur, h1, Nat.le_trans hb h2, h3⟩
theorem OwnB.base {w : World} {base base' : Nat} {v : Value} {l : List Nat} (h : OwnB w base v l) (hb : base' ≤ base) : OwnB w base' v l := own_base_le h hb
theorem OwnB.next {w w' : World} {base : Nat} {v : Value} {l : List Nat} (h : OwnB w base v l) (hb : Below w.heap.size w w') : OwnB w' base v l := own_keep (S := fun _ => False) h (Only.of_below hb) (fun _ _ h => h)
theorem tail2 (n : Nat) (k : Nat) (h : 1 ≤ k) (h8 : k ≤ 8) : tailOf n (k : Int) = form n k := by
  unfold tailOf
  rw [if_neg (by omega), Int.toNat_natCast]
theorem put_k (B : Nat) (A : Option Addr) (ca : Nat) (l : List Nat) (n k : Nat) (w : World) (hr : Rd w B A (byt l)) (hn : n < 2 ^ 64) (h1 : l.length ≤ 10000000) (hk : 1 ≤ k) (hk8 : k ≤ 8) :
    Calls Try.prog 30 #[.slice A l.length ca, .int .u64 n, .int .i64 k] w (Gives (l ++ form n k) w) := by
  have h := put_c B A ca l n k w hr hn (by omega) (by omega) h1
  rw [tail2 n k hk hk8] at h
  exact h
theorem run_one (w : World) (c : Nat) {o : Oper} {a : Act} (x : Operand) (ho : o.op = .buildSlice 35 1 #[(0, x)]) (hx : a.eval x = .int .u8 (c : Nat)) :
    (execOp a.eval o).run Try.prog w = .ok (.value (.slice (some ⟨w.heap.size, 0, none⟩) 1 1)) (w.alloc (.cells (byt [c]).toArray 5)) := by
  obtain ⟨i0, hi, hz0, hz1, hz2⟩ := info_parts byteInfo
  have e1 : (#[(0, x)].map fun (p : Nat × Operand) => (p.1, a.eval p.2)).toList = (([Value.int .u8 (c : Nat)].zipIdx 0).map fun x => (x.2, x.1)) := by
    simp [hx]
  have h1 := run_buildSlice (P := Try.prog) w 35 5 1 (#[(0, x)].map fun (p : Nat × Operand) => (p.1, a.eval p.2)) (byt [c]).toArray i0 _ Try.underlying35 hi hz0 (by rw [hz1]; decide) (by rw [hz1]; decide) (by
    rw [hz1]
    refine (congrArg _ e1).trans ?_
    exact (Great.fill_flat [Value.int .u8 (c : Nat)] _ (fun v hv => by rw [List.mem_singleton.1 hv]; rfl) (by simp)))
  unfold execOp
  simp only [ho, Sem.run_bind, h1, Result.andThen_ok]
  rfl
theorem cell_ext {Z : World} {a : Addr} {v : Value} (h : Z.cell? a = some v) : ∀ x : Ext Z, x.wd.cell? a = some v := fun x => x.cell h
theorem wrap64_u (n : Nat) (h : n < 2 ^ 64) : IntKind.u64.wrap (n : Int) = (n : Int) := by simp [IntKind.wrap, IntKind.signed, IntKind.bits]; omega
/-- what each loud slot of a Head holds -/
def headG (x : Fr) : Tmp → List Nat := fun k => if k = 6 then [x.k] else if k = 10 then [x.k] ++ form x.f 2 else [x.k] ++ form x.f 2 ++ form x.t 2
set_option maxRecDepth 100000 in
set_option maxHeartbeats 1000000 in
theorem head_c (x : Fr) (v : Value) (w : World) (hx : FrOk x) :
    Calls Try.prog 26 #[.agg (frV x v)] w (Gives (hdF x) w) := by
  go_enter Try.func26, Try.ntmps26
  go_upto_region 1 with (refine wpList_boxTo rfl 43 (.tmp 0) rfl (some 1) rfl w.heap.size rfl (frV x v) rfl ?_)
  obtain ⟨Z, hZ⟩ : ∃ Z, Z = w.alloc (.cells (frV x v) 43) := ⟨_, rfl⟩
  have hf : FrAt Z w.heap.size x v := FrAt.of hx (by rw [hZ]; exact Blk.new _ _ _)
  have hb : Below w.heap.size w Z := by rw [hZ]; exact (Below.refl _ _).alloc (Nat.le_refl _) _
  rw [← hZ]
  clear hZ
  have HF := Lib.hid hf
  have HB := Lib.hid hb
  have HX := Lib.hid hx
  have c0 := cell_ext hf.c0
  have c1 := cell_ext hf.c1
  have c2 := cell_ext hf.c2
  have w1 := wrap64_u x.f (by have := hx.f; omega)
  have w2 := wrap64_u x.t (by have := hx.t; omega)
  clear hf hb hx
  refine wp_region_loud Z [6, 10, 14, 3] (fun k u w => OwnB w Z.heap.size u (headG x k)) (by kernel_rfl) (by kernel_rfl) (by kernel_rfl) (by kernel_rfl) (fun _ _ _ _ h hb => OwnB.next h hb) (Below.refl _ _).drew ?_
  have hG6 : headG x 6 = [x.k] := rfl
  have hG10 : headG x 10 = [x.k] ++ form x.f 2 := rfl
  have hG14 : headG x 14 = [x.k] ++ form x.f 2 ++ form x.t 2 := rfl
  repeat (first
    | (refine wpLoud_plain (by kernel_rfl) rfl rfl ?_; intro K hK; go_big_quiet_op; go_big_quiet_on)
    | (refine wpLoud_make (by kernel_rfl) (fun _ _ h => by cases h) (by kernel_rfl) 6 rfl (by kernel_rfl) (fun y => ⟨_, _, run_one y.wd x.k (.tmp 5) rfl rfl, (Below.refl _ _).alloc (Nat.le_refl _) _, by rw [hG6]; exact OwnB.new y.wd _ [x.k] y.2.size (by simp [maxLen])⟩) _ (by simp only [Act.put, List.setIfInBounds_toArray, List.set_cons_succ, List.set_cons_zero]; rfl) ?_)
    | (refine wpLoud_call 10 rfl [6] tok 30 (fun g => #[g 6, .int .u64 (x.f : Nat), .int .i64 2]) (by kernel_rfl) (fun _ _ h => by cases h) (by kernel_rfl) (fun g w => by kernel_rfl) (fun g y hg => by
        have h6 : OwnB y.wd Z.heap.size (g 6) [x.k] := hg 6 (by simp)
        obtain ⟨A6, c6, e6, _, _, r6⟩ := h6.rd
        show Calls _ _ #[g 6, _, _] _ _
        rw [e6]
        refine (put_k _ A6 c6 [x.k] x.f 2 _ r6 (by have := HX.out.f; omega) (by simp) (by decide) (by decide)).mono ?_
        rintro e w' ⟨u, rfl, ho, hb⟩
        exact ⟨u, rfl, hb, ho.base y.2.size⟩) _ (by simp only [Act.put, List.setIfInBounds_toArray, List.set_cons_succ, List.set_cons_zero]; rfl) ?_)
    | (refine wpLoud_call 14 rfl [10] tok 30 (fun g => #[g 10, .int .u64 (x.t : Nat), .int .i64 2]) (by kernel_rfl) (fun _ _ h => by cases h) (by kernel_rfl) (fun g w => by kernel_rfl) (fun g y hg => by
        have h6 : OwnB y.wd Z.heap.size (g 10) ([x.k] ++ form x.f 2) := hg 10 (by simp)
        obtain ⟨A6, c6, e6, _, _, r6⟩ := h6.rd
        show Calls _ _ #[g 10, _, _] _ _
        rw [e6]
        refine (put_k _ A6 c6 ([x.k] ++ form x.f 2) x.t 2 _ r6 (by have := HX.out.t; omega) (by simp [form_len]) (by decide) (by decide)).mono ?_
        rintro e w' ⟨u, rfl, ho, hb⟩
        exact ⟨u, rfl, hb, ho.base y.2.size⟩) _ (by simp only [Act.put, List.setIfInBounds_toArray, List.set_cons_succ, List.set_cons_zero]; rfl) ?_)
    | (refine wpLoud_move (by kernel_rfl) 14 3 (.inl rfl) rfl (by kernel_rfl) (by kernel_rfl) (by kernel_rfl) (fun u w h => h) _ (by simp only [Act.put, List.setIfInBounds_toArray, List.set_cons_succ, List.set_cons_zero]; rfl) ?_))
  refine wpLoud_end [3] (by kernel_rfl) ?_
  intro g y hg
  have h3 : OwnB y.wd Z.heap.size (g 3) ([x.k] ++ form x.f 2 ++ form x.t 2) := hg 3 (by simp)
  obtain ⟨A3, c3, e3, _, _, r3⟩ := h3.rd
  have HF2 := Lib.hid (HF.out.ext y)
  have HR3 := Lib.hid r3
  have HBY := Lib.hid y.bel
  generalize y.wd = Y at *
  simp only [fill, Act.put, List.setIfInBounds_toArray, List.set_cons_succ, List.set_cons_zero]
  rw [e3]
  generalize g 6 = g6
  generalize g 10 = g10
  generalize g 14 = g14
  have d3 := HF2.out.c3
  clear hg h3 r3 c0 c1 c2 w1 w2
  go_wp2_with (go_at_call 30; ((refine (put_k _ A3 c3 ([x.k] ++ form x.f 2 ++ form x.t 2) x.i 8 _ HR3.out HX.out.i (by simp [form_len]) (by decide) (by decide)).mono ?_); rintro e w' ⟨u, rfl, ho, hb⟩; have HO := Lib.hid ho; have HBB := Lib.hid hb; clear ho hb))
  go_ret
  exact ⟨u, rfl, HO.out.base (Nat.le_trans HB.out.size HBY.out.size), (HB.out.trans (HBY.out.mono HB.out.size)).trans (HBB.out.mono (Nat.le_trans HB.out.size HBY.out.size))⟩
/-- what each loud slot of the document's Head holds -/
def rheadG (x : Fr) : Tmp → List Nat := fun k => if k = 6 then [x.k] else form x.f 2
set_option maxRecDepth 100000 in
set_option maxHeartbeats 1000000 in
theorem rhead_c (x : Fr) (v : Value) (w : World) (hx : FrOk x) :
    Calls Try.prog 27 #[.agg (frV x v)] w (Gives (hdF x) w) := by
  obtain ⟨i0, hi, hz0, hz1, hz2⟩ := info_parts byteInfo
  go_enter Try.func27, Try.ntmps27
  go_upto_region 1 with (refine wpList_boxTo rfl 43 (.tmp 0) rfl (some 1) rfl w.heap.size rfl (frV x v) rfl ?_)
  obtain ⟨Z, hZ⟩ : ∃ Z, Z = w.alloc (.cells (frV x v) 43) := ⟨_, rfl⟩
  have hf : FrAt Z w.heap.size x v := FrAt.of hx (by rw [hZ]; exact Blk.new _ _ _)
  have hb : Below w.heap.size w Z := by rw [hZ]; exact (Below.refl _ _).alloc (Nat.le_refl _) _
  rw [← hZ]
  clear hZ
  have HF := Lib.hid hf
  have HB := Lib.hid hb
  have HX := Lib.hid hx
  have c0 := cell_ext hf.c0
  have c1 := cell_ext hf.c1
  have w1 := wrap64_u x.f (by have := hx.f; omega)
  have w2 := wrap64_u x.t (by have := hx.t; omega)
  clear hf hb hx
  refine wp_region_loudTail 7 Z [6, 10] (fun k u w => OwnB w Z.heap.size u (rheadG x k)) (by kernel_rfl) (by kernel_rfl) (by kernel_rfl) (by kernel_rfl) (fun _ _ _ _ h hb => OwnB.next h hb) (Below.refl _ _).drew ?_
  simp only [List.take_succ_cons, List.take_zero, List.drop_succ_cons, List.drop_zero]
  repeat (first
    | (refine wpLoud_plain (by kernel_rfl) rfl rfl ?_; intro K hK; go_big_quiet_op; go_big_quiet_on)
    | (refine wpLoud_make (by kernel_rfl) (fun _ _ h => by cases h) (by kernel_rfl) 6 rfl (by kernel_rfl) (fun y => ⟨_, _, run_one y.wd x.k (.tmp 5) rfl rfl, (Below.refl _ _).alloc (Nat.le_refl _) _, OwnB.new y.wd _ [x.k] y.2.size (by simp [maxLen])⟩) _ (by simp only [Act.put, List.setIfInBounds_toArray, List.set_cons_succ, List.set_cons_zero]; rfl) ?_)
    | (refine wpLoud_call 10 rfl [] tok 32 (fun g => #[.int .u64 (x.f : Nat), .int .i64 2]) (by kernel_rfl) (fun _ _ h => by cases h) (by kernel_rfl) (fun g w => by kernel_rfl) (fun g y hg => by
        refine (rform_c x.f 2 _ (by have := HX.out.f; omega) (by decide)).mono ?_
        rintro e w' ⟨u, rfl, ho, hb⟩
        exact ⟨u, rfl, hb, ho.base y.2.size⟩) _ (by simp only [Act.put, List.setIfInBounds_toArray, List.set_cons_succ, List.set_cons_zero]; rfl) ?_))
  refine wpLoud_end [6, 10] (by kernel_rfl) ?_
  intro g y hg
  have h6 : OwnB y.wd Z.heap.size (g 6) [x.k] := hg 6 (by simp)
  have h10 : OwnB y.wd Z.heap.size (g 10) (form x.f 2) := hg 10 (by simp)
  obtain ⟨A1, k1, e1, _, _, r1⟩ := h10.rd
  have HO6 := Lib.hid h6
  have HR1 := Lib.hid r1
  have HF2 := Lib.hid (HF.out.ext y)
  have HBY := Lib.hid y.bel
  generalize y.wd = Y at *
  simp only [fill, Act.put, List.setIfInBounds_toArray, List.set_cons_succ, List.set_cons_zero]
  rw [e1]
  generalize g 6 = g6 at *
  clear hg h6 h10 r1 c0 c1 w1 e1
  have H2 := Lib.hid (form_len x.f 2)
  have H4 := Lib.hid (form_len x.t 2)
  have H8 := Lib.hid (form_len x.i 8)
  have HFM := Lib.hid (show ∀ W, Calls Try.prog 32 #[.int .u64 (x.t : Nat), .int .i64 2] W (Gives (form x.t 2) W) from fun W => rform_c x.t 2 W (by have := HX.out.t; omega) (by decide))
  have HFI := Lib.hid (show ∀ W, Calls Try.prog 32 #[.int .u64 (x.i : Nat), .int .i64 8] W (Gives (form x.i 8) W) from fun W => rform_c x.i 8 W HX.out.i (by decide))
  go_wp2_with (first
    | (at_builtin; refine wpList_app _ rfl (.tmp 6) (.tmp 10) _ rfl Z.heap.size 5 i0 (.int .u8 0) 1 1 Try.underlying35 hi hz0 hz1 hz2 rfl (by decide) _ 1 (byt [x.k]) rfl (by exact HO6.out) Y.heap.size A1 (form x.f 2).length k1 (byt (form x.f 2)) rfl (by simp [byt_len]) (by exact HR1.out) (byt_one _) (by simp [form_len]) (by simp [form_len]) (by exact HBY.out.size) ?_; intro v3 w3 hap; have HO3 := Lib.hid (show OwnB w3 Z.heap.size v3 ([x.k] ++ form x.f 2) from OwnB.app hap); have HB3 := Lib.hid (show Below Z.heap.size Z w3 from HBY.out.trans (hap.below HO6.out HBY.out.size)); have d2 := (HF.out.below HB3.out HF.out.lt (Nat.le_refl _)).c2; clear hap)
    | (go_at_call 32; (with_reducible refine (HFM.out _).mono ?_); rintro e w4 ⟨v4, rfl, ho4, hb4⟩; have HO34 := Lib.hid (HO3.out.next hb4); obtain ⟨A4, k4, rfl, _, _, r4⟩ := ho4.rd; have HR4 := Lib.hid r4; have HB4 := Lib.hid (show Below Z.heap.size Z w4 from HB3.out.trans (hb4.mono HB3.out.size)); clear ho4 hb4 r4)
    | (at_builtin; refine wpList_app _ rfl (.tmp 12) (.tmp 16) _ rfl Z.heap.size 5 i0 (.int .u8 0) 1 1 Try.underlying35 hi hz0 hz1 hz2 rfl (by decide) _ ([x.k] ++ form x.f 2).length (byt ([x.k] ++ form x.f 2)) rfl (by exact HO34.out) w4.heap.size A4 (form x.t 2).length k4 (byt (form x.t 2)) rfl (by simp [byt_len]) (by exact HR4.out) (byt_one _) (by simp [form_len]) (by simp [form_len]) (by exact HB4.out.size) ?_; intro v5 w5 hap; have HO5 := Lib.hid (show OwnB w5 Z.heap.size v5 ([x.k] ++ form x.f 2 ++ form x.t 2) from OwnB.app hap); have HB5 := Lib.hid (show Below Z.heap.size Z w5 from HB4.out.trans (hap.below HO34.out HB4.out.size)); have d3 := (HF.out.below HB5.out HF.out.lt (Nat.le_refl _)).c3; clear hap)
    | (go_at_call 32; (with_reducible refine (HFI.out _).mono ?_); rintro e w6 ⟨v6, rfl, ho6, hb6⟩; have HO56 := Lib.hid (HO5.out.next hb6); obtain ⟨A6, k6, rfl, _, _, r6⟩ := ho6.rd; have HR6 := Lib.hid r6; have HB6 := Lib.hid (show Below Z.heap.size Z w6 from HB5.out.trans (hb6.mono HB5.out.size)); clear ho6 hb6 r6)
    | (at_builtin; refine wpList_app _ rfl (.tmp 18) (.tmp 21) _ rfl Z.heap.size 5 i0 (.int .u8 0) 1 1 Try.underlying35 hi hz0 hz1 hz2 rfl (by decide) _ ([x.k] ++ form x.f 2 ++ form x.t 2).length (byt ([x.k] ++ form x.f 2 ++ form x.t 2)) rfl (by exact HO56.out) w6.heap.size A6 (form x.i 8).length k6 (byt (form x.i 8)) rfl (by simp [byt_len]) (by exact HR6.out) (byt_one _) (by simp [form_len]) (by simp [form_len]) (by exact HB6.out.size) ?_; intro v7 w7 hap; have HO7 := Lib.hid (show OwnB w7 Z.heap.size v7 (hdF x) from OwnB.app hap); have HB7 := Lib.hid (show Below Z.heap.size Z w7 from HB6.out.trans (hap.below HO56.out HB6.out.size)); clear hap))
  go_ret
  exact ⟨v7, rfl, HO7.out.base HB.out.size, HB.out.trans (HB7.out.mono HB.out.size)⟩
end Go.Proofs.Ytcmahmlcoodfoaa
