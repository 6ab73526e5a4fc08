/- Contract: the document's stream laid over a row. -/
import Derived.Test.YtfblpkjablgafaaDoorCb3
import Derived.Test.YtfblpkjablgafaaDoorCaN
namespace Go.Proofs.YtfblpkjablgafaaDoor
open Go.RowKit
set_option linter.unusedVariables false
set_option linter.unusedSimpArgs false
theorem rd_cell {w : World} {B : Nat} {ad : Addr} {l : List Nat} (h : Rd w B (some ad) (byt l)) (i : Nat) (hi : i < l.length) : w.cell? (ad.add i) = some (.int .u8 (l.getD i 0 : Nat)) := by
  obtain ⟨a1, e1, _, hc⟩ := h.byte hi
  injection e1 with e1
  subst e1
  exact hc
/-- two rows of bytes of the call's own, apart -/
structure TwoB (w : World) (base : Nat) (vx vy : Value) (xs ys : List Nat) : Prop where
  ox : OwnB w base vx xs
  oy : OwnB w base vy ys
  ne : ∀ g, vx.ownBlock = some g → vy.ownBlock ≠ some g
theorem TwoB.next {w w' : World} {base : Nat} {vx vy : Value} {xs ys : List Nat} (h : TwoB w base vx vy xs ys) (hb : Below w.heap.size w w') : TwoB w' base vx vy xs ys := ⟨h.ox.next hb, h.oy.next hb, h.ne⟩
theorem TwoB.nil_ (w : World) (base : Nat) : TwoB w base (.slice none 0 0) (.slice none 0 0) [] [] := ⟨OwnB.nil_ _ _, OwnB.nil_ _ _, fun g h => by cases h⟩
theorem TwoB.app {w w' : World} {base : Nat} {vx vy v' : Value} {xs ys : List Nat} {c : Nat} (h : TwoB w base vx vy xs ys) (hap : Apped w base 5 1 vx w' v' (xs.length + 1) (byt xs ++ [.int .u8 (c : Int)])) : TwoB w' base v' vy (xs ++ [c]) ys :=
  ⟨OwnB.snoc hap, own_keep h.oy (hap.only (S := fun k => vx.ownBlock = some k) (fun g hg => hg)) (fun g hg hs => h.ne g hs hg), fun g h1 h2 => by
    rcases hap.lies with e | e
    · rw [e] at h1; exact h.ne g h1 h2
    · rw [e] at h1
      injection h1 with h1
      have := own_lt h.oy g h2
      omega⟩
theorem TwoB.fresh {w w' : World} {base : Nat} {vx vy v' : Value} {xs ys zs : List Nat} (h : TwoB w base vx vy xs ys) (hB : base ≤ w.heap.size) (ho : OwnB w' w.heap.size v' zs) (hb : Below w.heap.size w w') : TwoB w' base vx v' xs zs :=
  ⟨h.ox.next hb, own_base_le ho hB, fun g h1 h2 => by
    have a := own_lt h.ox g h1
    have b := own_base ho g h2
    omega⟩
theorem Rbx.begin2 (w : World) (k nonce : List Nat) : Rbx w ((w.alloc (Obj.cells (vb k) 22)).alloc (Obj.cells (vb nonce) 24)) k nonce :=
  ⟨((Below.refl _ _).alloc (Nat.le_refl _) _).alloc (by simp) _, (Blk.new w _ _).alloc _, heap2 w _ _, by simp⟩
set_option maxRecDepth 100000 in
set_option maxHeartbeats 8000000 in
theorem rxor_c (B : Nat) (A : Option Addr) (ca : Nat) (k nonce : List Nat) (n : Nat) (b : List Nat) (w : World) (hk : k.length = 32) (hkl : ∀ c ∈ k, c < 256) (hn : n < 4294967296) (hc : nonce.length = 12) (hcl : ∀ c ∈ nonce, c < 256)
    (hr : Rd w B A (byt b)) (hB : B ≤ w.heap.size) (hbl : ∀ c ∈ b, c < 256) (hlen : b.length ≤ 10000000) :
    Calls Tryd.prog 21 #[.agg (vb k), .agg (vb nonce), .int .u32 n, .slice A b.length ca] w (Gives (xorL k nonce n b) w) := by
  obtain ⟨i0, hib, hz0, hz1, hz2⟩ := info_parts byteInfo
  have HR := Lib.hid hr
  have HBL := Lib.hid hbl
  have HST := Lib.hid (fun m (hm : m < 4294967296) W => rblock_c k m nonce W hk hkl hm hc hcl)
  have HIK := Lib.hid (show (Tryd.prog.info? 22).map (·.size) = some (vb k).size by rw [show (vb k).size = k.length by simp [vb, byt], hk]; kernel_rfl)
  have HIN := Lib.hid (show (Tryd.prog.info? 24).map (·.size) = some (vb nonce).size by rw [show (vb nonce).size = nonce.length by simp [vb, byt], hc]; kernel_rfl)
  clear hkl hcl hr hbl hk hc
  go_enter Tryd.func21, Tryd.ntmps21
  go_upto_region 2 with (first
    | (refine Go.Great.wpList_boxTo rfl 22 (.tmp 0) rfl (some 4) rfl w.heap.size rfl (vb k) rfl ?_)
    | (refine Go.Great.wpList_boxTo rfl 24 (.tmp 1) rfl (some 5) rfl (w.heap.size + 1) (by simp) (vb nonce) rfl ?_))
  have hs0 := Rbx.begin2 w k nonce
  generalize (w.alloc (Obj.cells (vb k) 22)).alloc (Obj.cells (vb nonce) 24) = Z at *
  have HS := Lib.hid hs0
  clear hs0
  go_wp2_with fail
  go_loopw [2, 9, 10, 11, 38] (fun nv v9 v10 i v38 wr => ∃ (m : Nat) (bs : List Nat), m ≤ b.length ∧ i = .int .i64 m ∧ nv = .int .u32 (((n + (m + 63) / 64) % 4294967296 : Nat) : Int) ∧ Rbx w wr k nonce ∧ (m % 64 ≠ 0 → bs = blkL k ((n + m / 64) % 4294967296) nonce) ∧ TwoB wr (w.heap.size + 1 + 1) v9 v10 ((List.range m).map (xorB k nonce n b)) bs ∧ isTok v38 = false) (fun _ _ _ i _ _ => b.length - (intOf i).toNat)
  case atStart => exact ⟨0, [], by omega, rfl, by rw [show (n + (0 + 63) / 64) % 4294967296 = n by omega], HS.out, fun h => absurd rfl h, TwoB.nil_ _ _, by rfl⟩
  case round =>
    rename World => wr
    obtain ⟨m, bs, hm, rfl, rfl, hs, hbm, htw, htk⟩ := hrel
    have HT := Lib.hid hs
    have HTW := Lib.hid htw
    have HTK := Lib.hid htk
    clear hs htw htk HS
    by_cases hlt : m < b.length
    · have p1 : (m : Int) < (b.length : Int) := by omega
      have HLT := Lib.hid (show ((List.range m).map (xorB k nonce n b)).length = m by simp)
      have HSN := Lib.hid (show (List.range (m + 1)).map (xorB k nonce n b) = (List.range m).map (xorB k nonce n b) ++ [xorB k nonce n b m] by rw [List.range_succ, List.map_append]; rfl)
      have hxb : xorB k nonce n b m = b.getD m 0 ^^^ (blkL k ((n + m / 64) % 4294967296) nonce).getD (m % 64) 0 := rfl
      have hbc := getD_lt HBL.out m
      have HRB := Lib.hid (HR.out.below (HT.out.bel.mono hB))
      obtain ⟨ad, rfl, _, _⟩ := HRB.out.byte (k := m) hlt
      obtain ⟨N, hN⟩ : ∃ N, N = (n + (m + 63) / 64) % 4294967296 := ⟨_, rfl⟩
      rw [← hN]
      have hN2 : N < 4294967296 := by omega
      obtain ⟨bl, hbl⟩ : ∃ bl, bl = blkL k ((n + m / 64) % 4294967296) nonce := ⟨_, rfl⟩
      have HB64 := Lib.hid (show bl.length = 64 by rw [hbl]; exact blkL_len _ _ _)
      have HB2 := Lib.hid (show ∀ c ∈ bl, c < 256 by rw [hbl]; exact blkL_lt _ _ _)
      have HBN := Lib.hid (show (m + 1) % 64 ≠ 0 → bl = blkL k ((n + (m + 1) / 64) % 4294967296) nonce from fun h => by rw [hbl, show (n + (m + 1) / 64) = n + m / 64 by omega])
      obtain ⟨r, hr⟩ : ∃ r, r = m % 64 := ⟨_, rfl⟩
      have hr2 : r < 64 := by omega
      have q1 : (r : Int) < 64 := by omega
      have t1 : (m : Int) % 64 = (r : Int) := by omega
      have t2 : (m : Int).tmod 64 = (r : Int) := by rw [Int.tmod_eq_emod_of_nonneg (by omega)]; omega
      rw [← hbl, ← hr] at hxb
      have x0 := getD_lt HB2.out r
      have f1 : bits BinOp.xor .u8 ((b.getD m 0 : Nat) : Int) ((bl.getD r 0 : Nat) : Int) = ((b.getD m 0 ^^^ bl.getD r 0 : Nat) : Int) := u8_xor_nat _ _ hbc x0
      have HXB := Lib.hid hxb
      have HCB := Lib.hid (fun W (h : Rd W B (some ad) (byt b)) => rd_cell h m hlt)
      have HCK := Lib.hid (fun W Bk a (h : Rd W Bk (some a) (byt bl)) => rd_cell h r (by rw [HB64.out]; exact hr2))
      clear hxb
      generalize b.getD m 0 = c at *
      generalize bl.getD r 0 = x at *
      generalize xorB k nonce n b m = y at *
      rw [← HXB.out] at f1
      generalize (List.range m).map (xorB k nonce n b) = L at *
      by_cases h0 : r = 0
      · subst h0
        have hN3 : (n + m / 64) % 4294967296 = N := by omega
        obtain ⟨N', hN'⟩ : ∃ N', N' = (n + (m + 1 + 63) / 64) % 4294967296 := ⟨_, rfl⟩
        have HNN := Lib.hid hN'
        have f0 : IntKind.u32.wrap ((N : Int) + 1) = (N' : Int) := by rw [wrap32]; omega
        have HCA := Lib.hid (HST.out N hN2)
        rw [← hN3, ← hbl, hN3] at HCA
        have t3 : (m : Int) % 64 = 0 := by omega
        have t4 : (m : Int).tmod 64 = 0 := by rw [t2]; rfl
        clear hN hN3 hN' hbm hr hbl t1 t2
        go_upto_region 8 with (first
          | (refine wpList_load_row rfl 22 (.tmp 4) rfl w.heap.size rfl 22 (vb k) (0, 0) _ HT.out.kA Tryd.underlying22 rfl HIK.out ?_)
          | (refine wpList_load_row rfl 24 (.tmp 5) rfl (w.heap.size + 1) rfl 24 (vb nonce) (0, 0) _ HT.out.nA Tryd.underlying24 rfl HIN.out ?_)
          | (go_at_call 22; (refine (HCA.out _).mono ?_); rintro e ws ⟨v10, rfl, ho, hb⟩; have HTW8 := Lib.hid (HTW.out.fresh HT.out.sz ho hb); have HT8 := Lib.hid (HT.out.next (hb.mono HT.out.sz)); have HRW := Lib.hid (HRB.out.below (hb.mono (by have := HT.out.bel.size; omega))); obtain ⟨A10, c10, rfl, _, _, r10⟩ := ho.rd; obtain ⟨ad10, rfl, _, _⟩ := r10.byte (k := 0) (by rw [HB64.out]; decide); rw [HB64.out] at HTW8 ⊢; have HK10 := Lib.hid r10; clear hb ho r10))
        clear HTW HT HRB
        have cb := cell_ext (HCB.out ws HRW.out)
        have ck := cell_ext (show ws.cell? ad10 = some (.int .u8 (x : Nat)) from by have h := HCK.out ws ws.heap.size ad10 HK10.out; rwa [show ad10.add 0 = ad10 from by simp [Addr.add]] at h)
        refine wp_region_loudTail 12 ws [38] (fun _ u W => OwnB W ws.heap.size u [y]) (by kernel_rfl) (by kernel_rfl) (by kernel_rfl) (by have h := HTK.out; exact congrArg (fun b => !b && true) h) (fun _ _ _ _ h hb => OwnB.next h hb) (Below.refl _ _).drew ?_
        simp only [List.take_succ_cons, List.take_zero, List.drop_succ_cons, List.drop_zero]
        repeat (first
          | (refine wpLoud_plain rfl rfl rfl ?_; intro K hK; go_big_quiet_op; go_big_quiet_on)
          | (refine wpLoud_make rfl (fun _ _ h => by cases h) rfl 38 rfl rfl (fun z => ⟨_, _, run_one z.wd y (.tmp 37) rfl rfl, (Below.refl _ _).alloc (Nat.le_refl _) _, OwnB.new z.wd _ [y] z.2.size (by simp [maxLen])⟩) _ (by simp only [Act.put, List.setIfInBounds_toArray, List.set_cons_succ, List.set_cons_zero]; rfl) ?_))
        refine wpLoud_end [38] (by rfl) ?_
        intro g z hg
        have h9 : OwnB z.wd ws.heap.size (g 38) [y] := hg 38 (by simp)
        obtain ⟨A9, k9, e9, _, _, r9⟩ := h9.rd
        have HR9 := Lib.hid r9
        have HT9 := Lib.hid (HT8.out.next (z.bel.mono HT8.out.sz))
        have HW9 := Lib.hid (HTW8.out.next z.bel)
        generalize z.wd = Y2 at *
        simp only [fill, Act.put, List.setIfInBounds_toArray, List.set_cons_succ, List.set_cons_zero]
        rw [e9]
        clear hg h9 r9 e9 cb ck
        go_wp2_with (at_builtin; refine wpList_app _ rfl (.tmp 27) (.tmp 38) _ rfl (w.heap.size + 1 + 1) 5 i0 (.int .u8 0) 1 1 Tryd.underlying26 hib hz0 hz1 hz2 rfl (by decide) _ L.length (byt L) rfl HW9.out.ox _ A9 1 k9 (byt [y]) rfl rfl HR9.out (byt_one _) (by rw [HLT.out]; omega) (by rw [HLT.out]; omega) (by have := HT9.out.sz; omega) ?_; intro v5 w5 hap; have HTW5 := Lib.hid (TwoB.app HW9.out hap); have HT5 := Lib.hid (HT9.out.next (hap.below HW9.out.ox (by have := HT9.out.sz; omega))); clear hap)
        go_roundw
        case rel => exact ⟨m + 1, bl, by omega, by go_num, by rw [← HNN.out], HT5.out, HBN.out, by rw [HSN.out]; exact HTW5.out, by rfl⟩
        case measure => simp only [intOf]; omega
      · have hbb := hbm (by omega)
        rw [← hbl] at hbb
        rw [hbb] at HTW
        clear hbb
        have t5 : ¬ (r : Int) = 0 := by omega
        have hN3 : N = (n + (m + 1 + 63) / 64) % 4294967296 := by omega
        have HNN := Lib.hid hN3
        have hrdy := HTW.out.oy.rd
        obtain ⟨A10, c10, rfl, _, _, r10⟩ := hrdy
        obtain ⟨ad10, rfl, _, _⟩ := r10.byte (k := 0) (by rw [HB64.out]; decide)
        rw [HB64.out] at HTW ⊢
        have HK10 := Lib.hid r10
        clear hN hN3 hbm hr hbl r10
        go_upto_region 8 with fail
        have HTW8 := Lib.hid HTW.out
        have HT8 := Lib.hid HT.out
        have HRW := Lib.hid HRB.out
        clear HTW HT HRB
        generalize wr = ws at *
        have cb := cell_ext (HCB.out ws HRW.out)
        have ck := cell_ext (HCK.out ws ws.heap.size ad10 HK10.out)
        refine wp_region_loudTail 12 ws [38] (fun _ u W => OwnB W ws.heap.size u [y]) (by kernel_rfl) (by kernel_rfl) (by kernel_rfl) (by have h := HTK.out; exact congrArg (fun b => !b && true) h) (fun _ _ _ _ h hb => OwnB.next h hb) (Below.refl _ _).drew ?_
        simp only [List.take_succ_cons, List.take_zero, List.drop_succ_cons, List.drop_zero]
        repeat (first
          | (refine wpLoud_plain rfl rfl rfl ?_; intro K hK; go_big_quiet_op; go_big_quiet_on)
          | (refine wpLoud_make rfl (fun _ _ h => by cases h) rfl 38 rfl rfl (fun z => ⟨_, _, run_one z.wd y (.tmp 37) rfl rfl, (Below.refl _ _).alloc (Nat.le_refl _) _, OwnB.new z.wd _ [y] z.2.size (by simp [maxLen])⟩) _ (by simp only [Act.put, List.setIfInBounds_toArray, List.set_cons_succ, List.set_cons_zero]; rfl) ?_))
        refine wpLoud_end [38] (by rfl) ?_
        intro g z hg
        have h9 : OwnB z.wd ws.heap.size (g 38) [y] := hg 38 (by simp)
        obtain ⟨A9, k9, e9, _, _, r9⟩ := h9.rd
        have HR9 := Lib.hid r9
        have HT9 := Lib.hid (HT8.out.next (z.bel.mono HT8.out.sz))
        have HW9 := Lib.hid (HTW8.out.next z.bel)
        generalize z.wd = Y2 at *
        simp only [fill, Act.put, List.setIfInBounds_toArray, List.set_cons_succ, List.set_cons_zero]
        rw [e9]
        clear hg h9 r9 e9 cb ck
        go_wp2_with (at_builtin; refine wpList_app _ rfl (.tmp 27) (.tmp 38) _ rfl (w.heap.size + 1 + 1) 5 i0 (.int .u8 0) 1 1 Tryd.underlying26 hib hz0 hz1 hz2 rfl (by decide) _ L.length (byt L) rfl HW9.out.ox _ A9 1 k9 (byt [y]) rfl rfl HR9.out (byt_one _) (by rw [HLT.out]; omega) (by rw [HLT.out]; omega) (by have := HT9.out.sz; omega) ?_; intro v5 w5 hap; have HTW5 := Lib.hid (TwoB.app HW9.out hap); have HT5 := Lib.hid (HT9.out.next (hap.below HW9.out.ox (by have := HT9.out.sz; omega))); clear hap)
        go_roundw
        case rel => exact ⟨m + 1, bl, by omega, by go_num, by rw [← HNN.out], HT5.out, HBN.out, by rw [HSN.out]; exact HTW5.out, by rfl⟩
        case measure => simp only [intOf]; omega
    · obtain rfl : m = b.length := by omega
      go_wp2_with fail
      refine bodyPost_ret (results_tmp rfl _ _ _) rfl ?_
      exact ⟨_, rfl, own_base_le HTW.out.ox (by omega), HT.out.bel⟩
end Go.Proofs.YtfblpkjablgafaaDoor
