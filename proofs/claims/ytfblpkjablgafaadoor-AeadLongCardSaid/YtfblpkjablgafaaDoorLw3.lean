/- AeadLong: the walk. -/
import Derived.Test.YtfblpkjablgafaaDoorLw2
import Derived.Laws.Append
namespace Go.Proofs.YtfblpkjablgafaaDoor
open Go.RowKit
set_option linter.unusedVariables false
set_option linter.unusedSimpArgs false
theorem run_appG (x : World) (g n : Nat) (h : Blk x g 5 (vb (List.replicate n 0))) (hn : 16 ≤ n) (hn2 : n ≤ 100000) {o : Oper} {ρ : Operand → Value} (s y : Operand)
    (ho : o.op = .call { callee := .builtin .append, args := #[s, y], argTypes := #[26, 26] }) (hs : ρ s = .slice (some ⟨g, 0, none⟩) n n) (hy : ρ y = .slice (some ⟨g, 0, none⟩) 16 n) :
    ∃ u w', (execOp ρ o).run Tryd.prog x = .ok (.value u) w' ∧ Below x.heap.size x w' ∧ ∃ A c, u = .slice A (n + 16) c := by
  obtain ⟨i0, hi, hz0, hz1, hz2⟩ := info_parts byteInfo
  have hc : ∀ l : List Nat, Rd x (g + 1) (some ⟨g, 0, none⟩) (byt l) → ∀ j v, (byt l)[j]? = some v → x.cell? ((⟨g, 0, none⟩ : Addr).add j) = some v := fun l hl j v hv => by
    obtain ⟨ad, e, _, hcc⟩ := hl (by intro h0; rw [h0] at hv; simp at hv)
    injection e with e
    subst e
    exact hcc j v hv
  have h1 := hc _ (rd_all h)
  have h2 := hc _ ((rd_all h).take_ 16)
  have hrun := run_append_grow (P := Tryd.prog) (w := x) 26 o.type 5 i0 (.int .u8 0) Tryd.underlying26 hi hz0 ⟨g, 0, none⟩ n n (byt (List.replicate n 0)) (by rw [byt_len, hz1]; simp) h1 ⟨g, 0, none⟩ 16 n (byt ((List.replicate n 0).take 16)) (by rw [byt_len, hz1]; simp; omega) h2 (by omega) (by omega)
    (by rw [hz2]; have := nextslicecap_le (need := n + 16) (old := n) (by omega); omega)
  obtain ⟨u, w', hrun2, hb, hu⟩ : ∃ u w', (Builtin.append_ #[26, 26] o.type #[.slice (some ⟨g, 0, none⟩) n n, .slice (some ⟨g, 0, none⟩) 16 n]).run Tryd.prog x = .ok u w' ∧ Below x.heap.size x w' ∧ ∃ A c, u = .slice A (n + 16) c :=
    ⟨_, _, hrun, ((Below.refl _ _).drew).alloc (Nat.le_refl _) _, _, _, rfl⟩
  refine ⟨u, w', ?_, hb, hu⟩
  unfold execOp
  simp only [ho, resolve, invoke, builtin, Sem.run_bind, Sem.run_pure, Result.andThen_ok, List.map_toArray, List.map_cons, List.map_nil, hs, hy, hrun2]
set_option maxRecDepth 100000 in
set_option maxHeartbeats 8000000 in
theorem aeadLong_w (k nonce : List Nat) (more : Nat) (w : World) (hk : k.length = 32) (hc : nonce.length = 12) (hm : more < 256) (hq : QuartersAt w) :
    Calls Tryd.prog 5 #[.agg (vb k), .agg (vb nonce), .int .u8 more] w fun e w' => e = .returned (.bool true) ∧ Below w.heap.size w w' := by
  have hbx := Kbx.begin w k nonce
  have HAW := Lib.hid (fun W (h : Below w.heap.size w W) => awake06_c W (hq.next h))
  have HIK := Lib.hid (keySz hk)
  have HIN := Lib.hid (nonSz hc)
  have HIK2 := Lib.hid (keyLn hk)
  have HIN2 := Lib.hid (nonLn hc)
  obtain ⟨n, hn⟩ : ∃ n, n = 4097 + more := ⟨_, rfl⟩
  have f1 : IntKind.i64.wrap (more : Int) = (more : Int) := IntWalk.i64_in _ (by omega)
  have f2 : (4097 : Int) + (more : Int) = (n : Int) := by omega
  have f3 : IntKind.i64.wrap (n : Int) = (n : Int) := IntWalk.i64_in _ (by omega)
  have hn1 : 4096 < n := by omega
  have hn2 : n ≤ 4400 := by omega
  clear hn hm hq
  have hmk := fun W => run_make_bytes n (by omega) W
  have n1 : (16 : Int) ≤ (n : Int) := by omega
  go_enter Tryd.func5, Tryd.ntmps5
  go_upto_region 1 with (first
    | (refine Go.Great.wpList_boxTo rfl 23 (.tmp 0) rfl (some 3) rfl w.heap.size rfl (vb k) rfl ?_)
    | (refine Go.Great.wpList_boxTo rfl 25 (.tmp 1) rfl (some 4) rfl (w.heap.size + 1) (by simp) (vb nonce) rfl ?_))
  generalize (w.alloc (Obj.cells (vb k) 23)).alloc (Obj.cells (vb nonce) 25) = Z at *
  have HB := Lib.hid hbx
  clear hbx
  go_upto_region 2 with fail
  obtain ⟨W1, hW1⟩ : ∃ W1, W1 = Z.alloc (.cells (vb (List.replicate n 0)) 5) := ⟨_, rfl⟩
  have HG1 := Lib.hid (show Blk W1 Z.heap.size 5 (vb (List.replicate n 0)) by rw [hW1]; exact Blk.new _ _ _)
  have HB1 := Lib.hid (show Kbx w W1 k nonce by rw [hW1]; exact HB.out.next ((Below.refl _ _).alloc HB.out.sz _))
  rw [← hW1]
  clear hW1 hmk HB
  generalize Z.heap.size = g at *
  go_upto_region 3 with (first
    | (refine wpList_load_row rfl 23 (.tmp 3) rfl w.heap.size rfl 23 (vb k) (0, 0) _ HB1.out.kA Tryd.underlying23 rfl HIK.out ?_)
    | (refine wpList_load_row rfl 25 (.tmp 4) rfl (w.heap.size + 1) rfl 25 (vb nonce) (0, 0) _ HB1.out.nA Tryd.underlying25 rfl HIN.out ?_)
    | (go_at_call 9; (refine (sealLong_c none (some ⟨g, 0, none⟩) 0 n 0 n k nonce W1 hn1).mono ?_); rintro e W2 ⟨rfl, hb⟩; have HG2 := Lib.hid (HG1.out.below hb HG1.out.lt); have HB2 := Lib.hid (HB1.out.next (hb.mono HB1.out.sz)); clear hb))
  clear HG1 HB1
  refine wp_region_loud W2 [29] (fun _ u _ => ∃ A c, u = .slice A (n + 16) c) (by kernel_rfl) (by kernel_rfl) (by kernel_rfl) (by kernel_rfl) (fun _ _ _ _ h _ => h) (Below.refl _ _).drew ?_
  repeat (first
    | (refine wpLoud_load rfl rfl 23 (.tmp 3) rfl w.heap.size 0 rfl (byt k) _ (fun y => range_all (HB2.out.kA.below y.bel HB2.out.kA.lt)) Tryd.underlying23 rfl HIK2.out _ (by simp only [Act.put, List.setIfInBounds_toArray, List.set_cons_succ, List.set_cons_zero]; rfl) ?_)
    | (refine wpLoud_load rfl rfl 25 (.tmp 4) rfl (w.heap.size + 1) 0 rfl (byt nonce) _ (fun y => range_all (HB2.out.nA.below y.bel HB2.out.nA.lt)) Tryd.underlying25 rfl HIN2.out _ (by simp only [Act.put, List.setIfInBounds_toArray, List.set_cons_succ, List.set_cons_zero]; rfl) ?_)
    | (refine wpLoud_make rfl (fun _ _ h => by cases h) rfl 29 rfl rfl (fun y => run_appG y.wd g n (HG2.out.below y.bel HG2.out.lt) (by omega) (by omega) (.tmp 26) (.tmp 28) rfl rfl rfl) _ (by simp only [Act.put, List.setIfInBounds_toArray, List.set_cons_succ, List.set_cons_zero]; rfl) ?_)
    | (refine wpLoud_call 30 rfl [29] (.tuple #[.slice none 0 0, .int .i64 3]) 10 (fun g => #[.agg (vb k), .agg (vb nonce), .slice none 0 0, g 29]) rfl (fun _ _ h => by cases h) rfl (fun g w => by kernel_rfl) (fun g y hg => by
        obtain ⟨A9, c9, e9⟩ := hg 29 (by simp)
        show Calls _ _ #[_, _, _, g 29] _ _
        rw [e9]
        refine (openLong_c none A9 0 c9 0 (n + 16) k nonce y.wd (by omega) (by omega)).mono ?_
        rintro e w' ⟨rfl, hb⟩
        exact ⟨_, rfl, hb, rfl⟩) _ (by simp only [Act.put, List.setIfInBounds_toArray, List.set_cons_succ, List.set_cons_zero]; rfl) ?_)
    | (refine wpLoud_plain rfl rfl rfl ?_; intro K hK; go_big_quiet_op; go_big_quiet_on))
  refine wpLoud_end [] (by rfl) ?_
  intro g9 z hg
  have HBY := Lib.hid (HB2.out.next (z.bel.mono HB2.out.sz))
  generalize z.wd = Y2 at *
  simp only [fill, Act.put, List.setIfInBounds_toArray, List.set_cons_succ, List.set_cons_zero]
  clear hg HB2 HG2
  go_wp2_with (go_at_call 7; (refine (HAW.out Y2 HBY.out.bel).mono ?_); rintro e W6 ⟨rfl, hb⟩; have HB6 := Lib.hid (HBY.out.bel.trans (hb.mono HBY.out.bel.size)); clear hb)
  go_ret
  exact ⟨rfl, HB6.out⟩
end Go.Proofs.YtfblpkjablgafaaDoor
