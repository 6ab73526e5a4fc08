/- Merged: Ch0 Ch1 Ch2 Ch3. -/
import Derived.Test.YthlmlmkabjppeaaDoorDrM
import Derived.Laws.StructEq
import Derived.Laws.Rows
import Derived.Laws.ResultCell
namespace Go.Proofs.YthlmlmkabjppeaaDoor
open Go.RowKit
set_option linter.unusedVariables false
set_option linter.unusedSimpArgs false
/-- a chain's cells -/
def chL (n : Nat) (k : List Nat) : List Value := .int .u64 (n : Nat) :: byt k
def chV (n : Nat) (k : List Nat) : Array Value := (chL n k).toArray
def zL : List Nat := List.replicate 32 0
theorem chV_size (n : Nat) (k : List Nat) (hk : k.length = 32) : (chV n k).size = 33 := by simp [chV, chL, byt_len, hk]
theorem zL_len : zL.length = 32 := rfl
theorem zL_lt : ∀ c ∈ zL, c < 256 := by intro c hc; rw [List.eq_of_mem_replicate hc]; decide
theorem zero_chain (w : World) : (zeroValue 52).run Tryd.prog w = .ok (.agg (chV 0 zL)) w := by kernel_rfl
theorem chainInfo : (Tryd.prog.info? 52).map (·.size) = some 33 := by kernel_rfl
def nextT : List Nat := [110, 101, 120, 116]
/-- the key after so many steps -/
def kj (k : List Nat) (n : Nat) : Nat → List Nat
  | 0 => k
  | j + 1 => drv (kj k n j) nextT (n + j)
theorem kj_len {k : List Nat} (hk : k.length = 32) (n j : Nat) : (kj k n j).length = 32 := by
  cases j with
  | zero => exact hk
  | succ j => exact drv_len _ _ _
theorem kj_lt {k : List Nat} (hk : ∀ c ∈ k, c < 256) (n j : Nat) : ∀ c ∈ kj k n j, c < 256 := by
  cases j with
  | zero => exact hk
  | succ j => exact drv_lt _ _ _
theorem kj_add (k : List Nat) (n a b : Nat) : kj k n (a + b) = kj (kj k n a) (n + a) b := by
  induction b with
  | zero => rfl
  | succ b ih =>
    show drv (kj k n (a + b)) nextT (n + (a + b)) = drv (kj (kj k n a) (n + a) b) nextT (n + a + b)
    rw [ih, Nat.add_assoc]
/-- where one comes to -/
def toN (n i : Nat) : Nat := if i < n ∨ 64 < i - n then 0 else if i = n ∨ i ≤ 4611686018427387904 then i else 0
def toK (n : Nat) (k : List Nat) (i : Nat) : List Nat := if i < n ∨ 64 < i - n then zL else if i = n ∨ i ≤ 4611686018427387904 then kj k n (i - n) else zL
def toE (n i : Nat) : Nat := if i < n then 13 else if 64 < i - n then 3 else if i = n ∨ i ≤ 4611686018427387904 then 0 else 12
theorem toK_len {k : List Nat} (hk : k.length = 32) (n i : Nat) : (toK n k i).length = 32 := by
  unfold toK
  split
  · rfl
  · split
    · exact kj_len hk _ _
    · rfl
theorem toK_lt {k : List Nat} (hk : ∀ c ∈ k, c < 256) (n i : Nat) : ∀ c ∈ toK n k i, c < 256 := by
  unfold toK
  split
  · exact zL_lt
  · split
    · exact kj_lt hk _ _
    · exact zL_lt
theorem toN_lt (n i : Nat) (hi : i < 2 ^ 64) : toN n i < 2 ^ 64 := by
  unfold toN
  split
  · decide
  · split
    · exact hi
    · decide
/-! '==' -/
theorem keyLits_u64 {P : Program} {e : TypeId} {D : Nat} (he : P.underlying e = some (.int .u64)) (x : Nat) (hx : x < 2 ^ 64) : P.keyLits (D + 1) e [.int .u64 (x : Int)] = some [Lit.int .u64 (x : Int)] := by
  have hw : (Lit.int .u64 (x : Int)).wf = true := WalkArith.wf_u64 ⟨by omega, by omega⟩
  simp only [Program.keyLits, he]
  rw [if_pos (by first | exact hw | exact ⟨trivial, hw⟩)]
def chLit (n : Nat) (k : List Nat) : List Lit := Lit.int .u64 (n : Int) :: k.map fun (c : Nat) => Lit.int .u8 (c : Int)
theorem keyLits_chain (x : Nat) (l : List Nat) (hx : x < 2 ^ 64) (hl : l.length = 32) (hs : ∀ c ∈ l, c < 256) :
    Tryd.prog.keyLits 3 52 (chL x l) = some (chLit x l) := by
  have hf : ∃ f0 f1 : Field, Tryd.prog.underlying 52 = some (.struct #[f0, f1]) ∧ f0.offset = 0 ∧ f1.offset = 1 ∧ f0.type = 33 ∧ f1.type = 47 ∧ (#[f0, f1].all (·.name != "_")) = true := ⟨_, _, Tryd.underlying52, rfl, rfl, rfl, rfl, by kernel_rfl⟩
  obtain ⟨f0, f1, hu, o0, o1, k0, k1, hn⟩ := hf
  have hC : Tryd.prog.cellsOf 52 = 33 := by kernel_rfl
  have hc0 : Tryd.prog.cellsOf 33 = 1 := by kernel_rfl
  have hc8 : Tryd.prog.cellsOf 5 = 1 := by kernel_rfl
  have hc1 : Tryd.prog.cellsOf 47 = 32 := by kernel_rfl
  have hstep : Tryd.prog.keyLits 3 52 (chL x l) = if (chL x l).length = Tryd.prog.cellsOf 52 ∧ (#[f0, f1].all (·.name != "_")) = true then ([f0, f1].mapM fun f => Tryd.prog.keyLits 2 f.type (((chL x l).drop f.offset).take (Tryd.prog.cellsOf f.type))).map List.flatten else none := by
    conv => lhs; unfold Program.keyLits
    rw [hu]
  have e0 : Tryd.prog.keyLits 2 f0.type (((chL x l).drop f0.offset).take (Tryd.prog.cellsOf f0.type)) = some [Lit.int .u64 (x : Int)] := by
    rw [k0, o0, hc0]
    exact keyLits_u64 (D := 1) Tryd.underlying33 x hx
  have e1 : Tryd.prog.keyLits 2 f1.type (((chL x l).drop f1.offset).take (Tryd.prog.cellsOf f1.type)) = some (l.map fun (c : Nat) => Lit.int .u8 (c : Int)) := by
    rw [k1, o1, hc1]
    have : ((chL x l).drop 1).take 32 = byt l := by
      show (byt l).take 32 = byt l
      rw [List.take_of_length_le (by rw [byt_len]; omega)]
    rw [this]
    exact keyLits_bytes (D := 0) Tryd.underlying47 Tryd.underlying5 hc1 hc8 l hl hs
  rw [hstep, if_pos ⟨by rw [hC]; simp [chL, byt_len, hl], hn⟩, List.mapM_cons, e0, List.mapM_cons, e1, List.mapM_nil]
  simp [chLit]
theorem chLit_inj {n m : Nat} {k l : List Nat} (h : chLit n k = chLit m l) : n = m ∧ k = l := by
  unfold chLit at h
  injection h with h1 h2
  injection h1 with _ h1
  exact ⟨by omega, lits_inj h2⟩
theorem run_equalIn_chain (n m : Nat) (k l : List Nat) (hn : n < 2 ^ 64) (hm : m < 2 ^ 64) (hk : k.length = 32) (hl : l.length = 32) (hs : ∀ c ∈ k, c < 256) (hs2 : ∀ c ∈ l, c < 256) (w : World) :
    (Op.equalIn 10000 52 (.agg (chV n k)) (.agg (chV m l))).run Tryd.prog w = .ok (decide (n = m ∧ k = l)) w := by
  have hkt : Tryd.prog.keyTypeAt 3 52 = true := by kernel_rfl
  have hC : Tryd.prog.cellsOf 52 = 33 := by kernel_rfl
  have hf : ∀ (n : Nat) (k : List Nat), k.length = 32 → (Value.agg (chV n k)).formed Tryd.prog 52 = true := fun n k h => by simp [Value.formed, Tryd.underlying52, hC, chV_size n k h]
  obtain ⟨r, hr, hiff⟩ := run_equalIn_deep (P := Tryd.prog) 9997 3 52 hkt w 3 3 (.agg (chV n k)) (.agg (chV m l)) _ _ (hf n k hk) (hf m l hl)
    (by simpa [Value.cells, chV] using keyLits_chain n k hn hk hs) (by simpa [Value.cells, chV] using keyLits_chain m l hm hl hs2)
  rw [show 9997 + 3 = 10000 from rfl] at hr
  rw [hr]
  congr 1
  by_cases h : n = m ∧ k = l
  · obtain ⟨rfl, rfl⟩ := h; rw [hiff.2 rfl]; simp
  · have : r = false := by
      cases r with
      | true => exact absurd (chLit_inj (hiff.1 rfl)) h
      | false => rfl
    rw [this, decide_eq_false h]
end Go.Proofs.YthlmlmkabjppeaaDoor
namespace Go.Proofs.YthlmlmkabjppeaaDoor
open Go.RowKit
set_option linter.unusedVariables false
set_option linter.unusedSimpArgs false
theorem split_list {k : List Nat} {n : Nat} (h : k.length = n + 1) : ∃ c l, k = c :: l ∧ l.length = n := by
  cases k with
  | nil => cases h
  | cons c l => exact ⟨c, l, rfl, by simpa using h⟩
theorem built_chain (m : Nat) (k : List Nat) (hk : k.length = 32) : Tryd.prog.built 52 [(0, .int .u64 (m : Nat)), (1, .agg (vb k))] = some (chV m k) := by
  obtain ⟨x0, k0, e0, h0⟩ := split_list hk
  subst e0
  obtain ⟨x1, k1, e1, h1⟩ := split_list h0
  subst e1
  obtain ⟨x2, k2, e2, h2⟩ := split_list h1
  subst e2
  obtain ⟨x3, k3, e3, h3⟩ := split_list h2
  subst e3
  obtain ⟨x4, k4, e4, h4⟩ := split_list h3
  subst e4
  obtain ⟨x5, k5, e5, h5⟩ := split_list h4
  subst e5
  obtain ⟨x6, k6, e6, h6⟩ := split_list h5
  subst e6
  obtain ⟨x7, k7, e7, h7⟩ := split_list h6
  subst e7
  obtain ⟨x8, k8, e8, h8⟩ := split_list h7
  subst e8
  obtain ⟨x9, k9, e9, h9⟩ := split_list h8
  subst e9
  obtain ⟨x10, k10, e10, h10⟩ := split_list h9
  subst e10
  obtain ⟨x11, k11, e11, h11⟩ := split_list h10
  subst e11
  obtain ⟨x12, k12, e12, h12⟩ := split_list h11
  subst e12
  obtain ⟨x13, k13, e13, h13⟩ := split_list h12
  subst e13
  obtain ⟨x14, k14, e14, h14⟩ := split_list h13
  subst e14
  obtain ⟨x15, k15, e15, h15⟩ := split_list h14
  subst e15
  obtain ⟨x16, k16, e16, h16⟩ := split_list h15
  subst e16
  obtain ⟨x17, k17, e17, h17⟩ := split_list h16
  subst e17
  obtain ⟨x18, k18, e18, h18⟩ := split_list h17
  subst e18
  obtain ⟨x19, k19, e19, h19⟩ := split_list h18
  subst e19
  obtain ⟨x20, k20, e20, h20⟩ := split_list h19
  subst e20
  obtain ⟨x21, k21, e21, h21⟩ := split_list h20
  subst e21
  obtain ⟨x22, k22, e22, h22⟩ := split_list h21
  subst e22
  obtain ⟨x23, k23, e23, h23⟩ := split_list h22
  subst e23
  obtain ⟨x24, k24, e24, h24⟩ := split_list h23
  subst e24
  obtain ⟨x25, k25, e25, h25⟩ := split_list h24
  subst e25
  obtain ⟨x26, k26, e26, h26⟩ := split_list h25
  subst e26
  obtain ⟨x27, k27, e27, h27⟩ := split_list h26
  subst e27
  obtain ⟨x28, k28, e28, h28⟩ := split_list h27
  subst e28
  obtain ⟨x29, k29, e29, h29⟩ := split_list h28
  subst e29
  obtain ⟨x30, k30, e30, h30⟩ := split_list h29
  subst e30
  obtain ⟨x31, k31, e31, h31⟩ := split_list h30
  subst e31
  cases k31 with
  | nil => kernel_rfl
  | cons _ _ => cases h31
theorem run_built (w : World) (t : TypeId) (parts : List (Nat × Value)) (cells : Array Value) (hf : Tryd.prog.built t parts = some cells) {o : Oper} {a : Act} (ps : Array (Nat × Operand)) (ho : o.op = .build t ps) (hp : (ps.map fun (i, x) => (i, a.eval x)).toList = parts) :
    (execOp a.eval o).run Tryd.prog w = .ok (.value (.agg cells)) w := by
  subst hp
  unfold execOp
  simp only [ho, Sem.run_bind, run_build w t _ cells hf, Result.andThen_ok]
  rfl
theorem built_zero : Tryd.prog.built 52 [] = some (chV 0 zL) := by kernel_rfl
/-- AT -/
theorem results_row_tmp {P : Program} {fn : Func} {p u : Tmp} {ty : TypeId} (h : fn.results = #[.cell p ty, .tmp u]) (tmps : Array Value) (w : World) (g : Nat) (t : TypeId) (cs : Array Value) (fr : Nat × Nat) (d : TypeDesc)
    (hp : tmps.getD p undef = .pointer (some ⟨g, 0, none⟩)) (hg : w.heap[g]? = some (.cells cs t fr))
    (hu : P.underlying ty = some d) (hd : (match d with | .struct _ | .array _ _ => true | _ => false) = true) (hi : (P.info? ty).map (·.size) = some cs.size) :
    (results fn tmps).run P w = .ok (.tuple #[.agg cs, tmps.getD u undef]) w := by
  rw [results_cell_tmp h, hp]
  simp [asAddr, run_loadVar_row w g t ty cs fr d hg hu hd hi, Result.andThen]
theorem chC0 {w : World} {g : Nat} {T : TypeId} {n : Nat} {k : List Nat} (h : Blk w g T (chV n k)) : w.cell? ⟨g, 0, none⟩ = some (.int .u64 (n : Nat)) := (h.cell 0).trans rfl
theorem chR1 {w : World} {g : Nat} {T : TypeId} {n : Nat} {k : List Nat} (h : Blk w g T (chV n k)) : w.rangeAt g 1 (byt k) := fun j u hu => by
  refine (h.cell _).trans ?_
  rw [Nat.add_comm]
  simpa [chV, chL] using hu
theorem chR0 {w : World} {g : Nat} {T : TypeId} {n : Nat} {k : List Nat} (h : Blk w g T (chV n k)) : w.rangeAt g 0 (chL n k) := fun j u hu => by
  rw [Nat.zero_add]
  refine (h.cell _).trans ?_
  simpa [chV] using hu
theorem wpList_loadC {ops : Array Oper} {rest : List Oper} {o : Oper} {a : Act} {w : World} {Q : Exit → Act → World → Prop} (hw : Region.wanted o (yielded ops a.tmps) = true) (x : Operand) (ho : o.op = .load 52 x) (g : Nat) (hx : a.eval x = .pointer (some ⟨g, 0, none⟩)) (n : Nat) (k : List Nat)
    (hc : Blk w g 52 (chV n k)) (hi : (Tryd.prog.info? 52).map (·.size) = some (chL n k).length)
    (h : wpList Tryd.prog ops Q rest (a.put o.dst (.agg (chV n k))) w) : wpList Tryd.prog ops Q (o :: rest) a w :=
  wpList_loadG hw 52 x ho g 0 hx (chL n k) _ (chR0 hc) Tryd.underlying52 rfl hi h
theorem chV_one (n : Nat) (k : List Nat) : (chV n k).all (·.oneCell') = true := by
  have h := vb_one k
  simp only [vb, chV, chL, List.all_toArray, List.all_cons] at h ⊢
  rw [h]; rfl
theorem chInfo (n : Nat) {k : List Nat} (hk : k.length = 32) : (Tryd.prog.info? 52).map (·.size) = some (chV n k).size := by rw [chV_size n k hk]; kernel_rfl
theorem next_bstr : (.string (ByteArray.mk #[110, 101, 120, 116]) : Value) = .string (bstr nextT) := by rfl
theorem nextT_lt : ∀ c ∈ nextT, c < 256 := by decide
set_option maxRecDepth 100000 in
set_option maxHeartbeats 8000000 in
theorem nextHi_c (n : Nat) (k : List Nat) (w : World) (hk : k.length = 32) (hn : n < 2 ^ 64) (hh : 4611686018427387904 ≤ n) :
    Calls Tryd.prog 32 #[.agg (chV n k)] w fun e w' => e = .returned (.tuple #[.agg (chV 0 zL), .int .i64 12]) ∧ Below w.heap.size w w' := by
  have zf := zero_chain
  have zs1 := chV_size 0 zL zL_len
  have zs2 : ¬ chV 0 zL = #[] := by intro h; have := congrArg Array.size h; rw [zs1] at this; cases this
  have csz := chV_size n k hk
  have d1 : decide ((4611686018427387904 : Int) ≤ (n : Int)) = true := decide_eq_true (by omega)
  obtain ⟨Z, hZ⟩ : ∃ Z, Z = (w.alloc (Obj.cells (chV n k) 52)).alloc (Obj.cells (chV 0 zL) 52) := ⟨_, rfl⟩
  have HZ := Lib.hid (show Below w.heap.size w Z by rw [hZ]; exact ((Below.refl _ _).alloc (Nat.le_refl _) _).alloc (by simp) _)
  have H1 := Lib.hid (show Blk Z w.heap.size 52 (chV n k) by rw [hZ]; exact (Blk.new w _ _).alloc _)
  have H2 := Lib.hid (show Blk Z (w.heap.size + 1) 52 (chV 0 zL) by
    have h1 := Blk.new (w.alloc (Obj.cells (chV n k) 52)) 52 (chV 0 zL)
    rw [show (w.alloc (Obj.cells (chV n k) 52)).heap.size = w.heap.size + 1 by simp] at h1
    rw [hZ]; exact h1)
  have HBD := Lib.hid built_zero
  have c0 := chC0 H1.out
  go_enter Tryd.func32, Tryd.ntmps32
  go_upto_region 1 with fail
  rw [← hZ]
  clear hZ
  go_wp2_with (first
    | (refine wpList_valG (by kernel_rfl) (.agg (chV 0 zL)) (run_built _ 52 [] _ HBD.out #[] rfl rfl) ?_)
    | (refine wpList_store_rowTo rfl 52 (.tmp 2) (.tmp 7) rfl rfl (w.heap.size + 1) (chV 0 zL) rfl rfl 52 (chV 0 zL) H2.out (chInfo 0 zL_len) rfl (chV_one _ _) ?_))
  first
    | rw [Exit.noGoto_ret]
    | skip
  refine bodyPost_ret (results_row_tmp rfl _ _ (w.heap.size + 1) 52 (chV 0 zL) (0, 0) _ rfl (setRow_heap _ _ (chV 0 zL) _ 52 (0, 0) H2.out) Tryd.underlying52 rfl (chInfo 0 zL_len)) rfl ?_
  exact ⟨rfl, below_row HZ.out (by omega) _⟩
set_option maxRecDepth 100000 in
set_option maxHeartbeats 8000000 in
theorem nextLo_c (n : Nat) (k : List Nat) (w : World) (hk : k.length = 32) (hkl : ∀ c ∈ k, c < 256) (hh : n < 4611686018427387904) (hR : RoundsAt w) :
    Calls Tryd.prog 32 #[.agg (chV n k)] w fun e w' => e = .returned (.tuple #[.agg (chV (n + 1) (drv k nextT n)), .int .i64 0]) ∧ Below w.heap.size w w' := by
  have zf := zero_chain
  have zs1 := chV_size 0 zL zL_len
  have zs2 : ¬ chV 0 zL = #[] := by intro h; have := congrArg Array.size h; rw [zs1] at this; cases this
  have csz := chV_size n k hk
  have d1 : decide ((4611686018427387904 : Int) ≤ (n : Int)) = false := decide_eq_false (by omega)
  have wr1 : IntKind.u64.wrap ((n : Int) + 1) = ((n + 1 : Nat) : Int) := by
    simp [IntKind.wrap, IntKind.signed, IntKind.bits]; omega
  have hdk := drv_len k nextT n
  have HDC := Lib.hid (fun W (h : RoundsAt W) => derive_c k nextT n W hk hkl nextT_lt (by decide) (by omega) h)
  have hBT := built_chain (n + 1) (drv k nextT n) hdk
  generalize drv k nextT n = DV at *
  obtain ⟨m, hm⟩ : ∃ m, m = n + 1 := ⟨_, rfl⟩
  rw [← hm] at hBT wr1
  rw [← hm]
  have HBD := Lib.hid hBT
  have HDK := Lib.hid hdk
  clear hBT hdk hm
  obtain ⟨Z, hZ⟩ : ∃ Z, Z = (w.alloc (Obj.cells (chV n k) 52)).alloc (Obj.cells (chV 0 zL) 52) := ⟨_, rfl⟩
  have HZ := Lib.hid (show Below w.heap.size w Z by rw [hZ]; exact ((Below.refl _ _).alloc (Nat.le_refl _) _).alloc (by simp) _)
  have H1 := Lib.hid (show Blk Z w.heap.size 52 (chV n k) by rw [hZ]; exact (Blk.new w _ _).alloc _)
  have H2 := Lib.hid (show Blk Z (w.heap.size + 1) 52 (chV 0 zL) by
    have h1 := Blk.new (w.alloc (Obj.cells (chV n k) 52)) 52 (chV 0 zL)
    rw [show (w.alloc (Obj.cells (chV n k) 52)).heap.size = w.heap.size + 1 by simp] at h1
    rw [hZ]; exact h1)
  have HROZ := Lib.hid (hR.next HZ.out)
  have HIL := Lib.hid (show (Tryd.prog.info? 47).map (·.size) = some (vb k).toList.length by rw [Array.length_toList, vb_size, hk]; kernel_rfl)
  have c0 := chC0 H1.out
  go_enter Tryd.func32, Tryd.ntmps32
  go_upto_region 1 with fail
  rw [← hZ]
  clear hZ
  go_upto_region 3 with fail
  have c0e := cell_ext c0
  refine wp_region_loudTail 9 Z [] (fun _ _ _ => True) (by kernel_rfl) (by kernel_rfl) (by kernel_rfl) (by kernel_rfl) (fun _ _ _ _ h hb => True.intro) (Below.refl _ _).drew ?_
  simp only [List.take_succ_cons, List.take_zero, List.drop_succ_cons, List.drop_zero]
  repeat (first
    | (refine wpLoud_loadB rfl rfl 47 (.tmp 11) rfl w.heap.size 1 rfl (vb k) _ (fun z => by exact chR1 (H1.out.below z.bel H1.out.lt)) Tryd.underlying47 rfl HIL.out _ (by simp only [Act.put, List.setIfInBounds_toArray, List.set_cons_succ, List.set_cons_zero]; rfl) ?_)
    | (refine wpLoud_call 15 rfl [] (.agg (vb DV)) 30 (fun g => #[.agg (vb k), .string (bstr nextT), .int .u64 (n : Nat)]) rfl (fun _ _ h => by cases h) rfl (fun g w => by kernel_rfl) (fun g z hg => by
        refine (HDC.out z.wd (HROZ.out.next z.bel)).mono ?_
        rintro e w' ⟨rfl, hb⟩
        exact ⟨_, rfl, hb, rfl⟩) _ (by simp only [Act.put, List.setIfInBounds_toArray, List.set_cons_succ, List.set_cons_zero]; rfl) ?_)
    | (refine wpLoud_val rfl rfl (fun _ _ h => by cases h) (.agg (chV m DV)) (fun z => run_built _ 52 _ _ HBD.out #[(0, .tmp 10), (1, .tmp 15)] rfl (by kernel_rfl)) _ (by simp only [Act.put, List.setIfInBounds_toArray, List.set_cons_succ, List.set_cons_zero]; rfl) ?_)
    | (refine wpLoud_plain rfl rfl rfl ?_; intro K hK; go_big_quiet_op; go_big_quiet_on))
  refine wpLoud_end [] (by rfl) ?_
  intro g z hg
  have HBZ := Lib.hid (HZ.out.trans (z.bel.mono HZ.out.size))
  have H2Z := Lib.hid (H2.out.below z.bel H2.out.lt)
  generalize z.wd = Y2 at *
  simp only [fill, Act.put, List.setIfInBounds_toArray, List.set_cons_succ, List.set_cons_zero]
  go_wp2_with (first
    | (refine wpList_store_rowTo rfl 52 (.tmp 2) (.tmp 16) rfl rfl (w.heap.size + 1) (chV m DV) rfl rfl 52 (chV 0 zL) H2Z.out (chInfo m HDK.out) (by rw [chV_size _ _ HDK.out]; rfl) (chV_one _ _) ?_))
  first
    | rw [Exit.noGoto_ret]
    | skip
  refine bodyPost_ret (results_row_tmp rfl _ _ (w.heap.size + 1) 52 (chV m DV) (0, 0) _ rfl (setRow_heap _ _ (chV 0 zL) _ 52 (0, 0) H2Z.out) Tryd.underlying52 rfl (chInfo m HDK.out)) rfl ?_
  exact ⟨rfl, below_row HBZ.out (by omega) _⟩
set_option maxRecDepth 100000 in
set_option maxHeartbeats 8000000 in
theorem rnext_c (n : Nat) (k : List Nat) (w : World) (hk : k.length = 32) (hkl : ∀ c ∈ k, c < 256) (hh : n < 4611686018427387904) :
    Calls Tryd.prog 36 #[.agg (chV n k)] w fun e w' => e = .returned (.agg (chV (n + 1) (drv k nextT n))) ∧ Below w.heap.size w w' := by
  have zf := zero_chain
  have zs1 := chV_size 0 zL zL_len
  have zs2 : ¬ chV 0 zL = #[] := by intro h; have := congrArg Array.size h; rw [zs1] at this; cases this
  have csz := chV_size n k hk
  have d1 : decide ((4611686018427387904 : Int) ≤ (n : Int)) = false := decide_eq_false (by omega)
  have wr1 : IntKind.u64.wrap ((n : Int) + 1) = ((n + 1 : Nat) : Int) := by
    simp [IntKind.wrap, IntKind.signed, IntKind.bits]; omega
  have hdk := drv_len k nextT n
  have HDC := Lib.hid (fun W => rderive_c k nextT n W hk hkl nextT_lt (by decide) (by omega))
  have hBT := built_chain (n + 1) (drv k nextT n) hdk
  generalize drv k nextT n = DV at *
  obtain ⟨m, hm⟩ : ∃ m, m = n + 1 := ⟨_, rfl⟩
  rw [← hm] at hBT wr1
  rw [← hm]
  have HBD := Lib.hid hBT
  have HDK := Lib.hid hdk
  clear hBT hdk hm
  obtain ⟨Z, hZ⟩ : ∃ Z, Z = (w.alloc (Obj.cells (chV n k) 52)).alloc (Obj.cells (chV 0 zL) 52) := ⟨_, rfl⟩
  have HZ := Lib.hid (show Below w.heap.size w Z by rw [hZ]; exact ((Below.refl _ _).alloc (Nat.le_refl _) _).alloc (by simp) _)
  have H1 := Lib.hid (show Blk Z w.heap.size 52 (chV n k) by rw [hZ]; exact (Blk.new w _ _).alloc _)
  have H2 := Lib.hid (show Blk Z (w.heap.size + 1) 52 (chV 0 zL) by
    have h1 := Blk.new (w.alloc (Obj.cells (chV n k) 52)) 52 (chV 0 zL)
    rw [show (w.alloc (Obj.cells (chV n k) 52)).heap.size = w.heap.size + 1 by simp] at h1
    rw [hZ]; exact h1)
  have HIL := Lib.hid (show (Tryd.prog.info? 47).map (·.size) = some (vb k).toList.length by rw [Array.length_toList, vb_size, hk]; kernel_rfl)
  have c0 := chC0 H1.out
  go_enter Tryd.func36, Tryd.ntmps36
  go_upto_region 1 with fail
  rw [← hZ]
  clear hZ
  have c0e := cell_ext c0
  refine wp_region_loudTail 9 Z [] (fun _ _ _ => True) (by kernel_rfl) (by kernel_rfl) (by kernel_rfl) (by kernel_rfl) (fun _ _ _ _ h hb => True.intro) (Below.refl _ _).drew ?_
  simp only [List.take_succ_cons, List.take_zero, List.drop_succ_cons, List.drop_zero]
  repeat (first
    | (refine wpLoud_loadB rfl rfl 47 (.tmp 6) rfl w.heap.size 1 rfl (vb k) _ (fun z => by exact chR1 (H1.out.below z.bel H1.out.lt)) Tryd.underlying47 rfl HIL.out _ (by simp only [Act.put, List.setIfInBounds_toArray, List.set_cons_succ, List.set_cons_zero]; rfl) ?_)
    | (refine wpLoud_call 10 rfl [] (.agg (vb DV)) 31 (fun g => #[.agg (vb k), .string (bstr nextT), .int .u64 (n : Nat)]) rfl (fun _ _ h => by cases h) rfl (fun g w => by kernel_rfl) (fun g z hg => by
        refine (HDC.out z.wd).mono ?_
        rintro e w' ⟨rfl, hb⟩
        exact ⟨_, rfl, hb, rfl⟩) _ (by simp only [Act.put, List.setIfInBounds_toArray, List.set_cons_succ, List.set_cons_zero]; rfl) ?_)
    | (refine wpLoud_val rfl rfl (fun _ _ h => by cases h) (.agg (chV m DV)) (fun z => run_built _ 52 _ _ HBD.out #[(0, .tmp 5), (1, .tmp 10)] rfl (by kernel_rfl)) _ (by simp only [Act.put, List.setIfInBounds_toArray, List.set_cons_succ, List.set_cons_zero]; rfl) ?_)
    | (refine wpLoud_plain rfl rfl rfl ?_; intro K hK; go_big_quiet_op; go_big_quiet_on))
  refine wpLoud_end [] (by rfl) ?_
  intro g z hg
  have HBZ := Lib.hid (HZ.out.trans (z.bel.mono HZ.out.size))
  have H2Z := Lib.hid (H2.out.below z.bel H2.out.lt)
  generalize z.wd = Y2 at *
  simp only [fill, Act.put, List.setIfInBounds_toArray, List.set_cons_succ, List.set_cons_zero]
  go_wp2_with (first
    | (refine wpList_store_rowTo rfl 52 (.tmp 2) (.tmp 11) rfl rfl (w.heap.size + 1) (chV m DV) rfl rfl 52 (chV 0 zL) H2Z.out (chInfo m HDK.out) (by rw [chV_size _ _ HDK.out]; rfl) (chV_one _ _) ?_))
  first
    | rw [Exit.noGoto_ret]
    | skip
  refine bodyPost_ret (results_cell_row rfl _ _ (w.heap.size + 1) 52 (chV m DV) (0, 0) _ rfl (setRow_heap _ _ (chV 0 zL) _ 52 (0, 0) H2Z.out) Tryd.underlying52 rfl (chInfo m HDK.out)) rfl ?_
  exact ⟨rfl, below_row HBZ.out (by omega) _⟩
end Go.Proofs.YthlmlmkabjppeaaDoor
namespace Go.Proofs.YthlmlmkabjppeaaDoor
open Go.RowKit
set_option linter.unusedVariables false
set_option linter.unusedSimpArgs false
def cellN (w : World) (g : Nat) : Nat := match w.cell? ⟨g, 0, none⟩ with | some (.int _ x) => x.toNat | _ => 0
theorem cellN_blk {w : World} {g : Nat} {T : TypeId} {n : Nat} {k : List Nat} (h : Blk w g T (chV n k)) : cellN w g = n := by
  unfold cellN
  rw [chC0 h]
  simp
/-- what the loop keeps -/
def Goes (n : Nat) (k : List Nat) (i m : Nat) (K : List Nat) (v : Value) : Prop :=
  (v = .int .i64 0 ∧ ∃ j, m = n + j ∧ K = kj k n j ∧ n + j ≤ i ∧ (j = 0 ∨ n + j ≤ 4611686018427387904)) ∨ (v = .int .i64 12 ∧ m = 0 ∧ K = zL ∧ n < i ∧ 4611686018427387904 < i)
theorem toN_lo {n i : Nat} (h : i < n) : toN n i = 0 ∧ (∀ k, toK n k i = zL) ∧ toE n i = 13 := by
  unfold toN toK toE
  rw [if_pos (.inl h), if_pos h]
  exact ⟨rfl, fun k => by rw [if_pos (.inl h)], rfl⟩
theorem toN_hi {n i : Nat} (h1 : ¬ i < n) (h : 64 < i - n) : toN n i = 0 ∧ (∀ k, toK n k i = zL) ∧ toE n i = 3 := by
  unfold toN toK toE
  rw [if_pos (.inr h), if_neg h1, if_pos h]
  exact ⟨rfl, fun k => by rw [if_pos (.inr h)], rfl⟩
theorem toN_ok {n i j : Nat} (h : i = n + j) (hj : j ≤ 64) (hh : j = 0 ∨ n + j ≤ 4611686018427387904) : toN n i = n + j ∧ (∀ k, toK n k i = kj k n j) ∧ toE n i = 0 := by
  subst h
  have h0 : ¬ (n + j < n ∨ 64 < n + j - n) := by omega
  have h1 : n + j = n ∨ n + j ≤ 4611686018427387904 := by omega
  have h2 : ¬ (n + j < n) := by omega
  have h3 : ¬ (64 < n + j - n) := by omega
  unfold toN toK toE
  refine ⟨by rw [if_neg h0, if_pos h1], fun k => by rw [if_neg h0, if_pos h1, Nat.add_sub_cancel_left], by rw [if_neg h2, if_neg h3, if_pos h1]⟩
theorem toN_far {n i : Nat} (h1 : n < i) (h : ¬ 64 < i - n) (hh : 4611686018427387904 < i) : toN n i = 0 ∧ (∀ k, toK n k i = zL) ∧ toE n i = 12 := by
  have h0 : ¬ (i < n ∨ 64 < i - n) := by omega
  have h2 : ¬ (i = n ∨ i ≤ 4611686018427387904) := by omega
  have h3 : ¬ (i < n) := by omega
  unfold toN toK toE
  refine ⟨by rw [if_neg h0, if_neg h2], fun k => by rw [if_neg h0, if_neg h2], by rw [if_neg h3, if_neg h, if_neg h2]⟩
set_option maxRecDepth 100000 in
set_option maxHeartbeats 8000000 in
theorem to_c (n : Nat) (k : List Nat) (i : Nat) (w : World) (hk : k.length = 32) (hkl : ∀ c ∈ k, c < 256) (hn : n < 2 ^ 64) (hi : i < 2 ^ 64) (hR : RoundsAt w) :
    Calls Tryd.prog 33 #[.agg (chV n k), .int .u64 (i : Nat)] w fun e w' => e = .returned (.tuple #[.agg (chV (toN n i) (toK n k i)), .int .i64 (toE n i : Nat)]) ∧ Below w.heap.size w w' := by
  have zf := zero_chain
  have zs1 := chV_size 0 zL zL_len
  have zs2 : ¬ chV 0 zL = #[] := by intro h; have := congrArg Array.size h; rw [zs1] at this; cases this
  have csz := chV_size n k hk
  obtain ⟨Z, hZ⟩ : ∃ Z, Z = (w.alloc (Obj.cells (chV n k) 52)).alloc (Obj.cells (chV 0 zL) 52) := ⟨_, rfl⟩
  have HZ := Lib.hid (show Below w.heap.size w Z by rw [hZ]; exact ((Below.refl _ _).alloc (Nat.le_refl _) _).alloc (by simp) _)
  have H1 := Lib.hid (show Blk Z w.heap.size 52 (chV n k) by rw [hZ]; exact (Blk.new w _ _).alloc _)
  have H2 := Lib.hid (show Blk Z (w.heap.size + 1) 52 (chV 0 zL) by
    have h1 := Blk.new (w.alloc (Obj.cells (chV n k) 52)) 52 (chV 0 zL)
    rw [show (w.alloc (Obj.cells (chV n k) 52)).heap.size = w.heap.size + 1 by simp] at h1
    rw [hZ]; exact h1)
  have HBD := Lib.hid built_zero
  have HROW := Lib.hid hR
  clear hR
  by_cases h1 : i < n
  · have HTO := Lib.hid (toN_lo h1)
    have c0 := chC0 H1.out
    have q1 : (i : Int) < (n : Int) := by omega
    go_enter Tryd.func33, Tryd.ntmps33
    go_upto_region 1 with fail
    rw [← hZ]
    clear hZ
    go_wp2_with (first
      | (refine wpList_valG (by kernel_rfl) (.agg (chV 0 zL)) (run_built _ 52 [] _ HBD.out #[] rfl rfl) ?_)
      | (refine wpList_store_rowTo rfl 52 (.tmp 4) (.tmp 12) rfl rfl (w.heap.size + 1) (chV 0 zL) rfl rfl 52 (chV 0 zL) H2.out (chInfo 0 zL_len) rfl (chV_one _ _) ?_))
    first
      | rw [Exit.noGoto_ret]
      | skip
    refine bodyPost_ret (results_row_tmp rfl _ _ (w.heap.size + 1) 52 (chV 0 zL) (0, 0) _ rfl (setRow_heap _ _ (chV 0 zL) _ 52 (0, 0) H2.out) Tryd.underlying52 rfl (chInfo 0 zL_len)) rfl ?_
    exact ⟨by rw [HTO.out.1, HTO.out.2.1 k, HTO.out.2.2]; rfl, below_row HZ.out (by omega) _⟩
  have q1 : ¬ (i : Int) < (n : Int) := by omega
  have wr1 : IntKind.u64.wrap ((i : Int) - (n : Int)) = ((i - n : Nat) : Int) := by simp [IntKind.wrap, IntKind.signed, IntKind.bits]; omega
  by_cases h2 : 64 < i - n
  · have HTO := Lib.hid (toN_hi h1 h2)
    have c0 := chC0 H1.out
    have q2 : (64 : Int) < ((i - n : Nat) : Int) := by omega
    go_enter Tryd.func33, Tryd.ntmps33
    go_upto_region 1 with fail
    rw [← hZ]
    clear hZ
    go_wp2_with (first
      | (refine wpList_valG (by kernel_rfl) (.agg (chV 0 zL)) (run_built _ 52 [] _ HBD.out #[] rfl rfl) ?_)
      | (refine wpList_store_rowTo rfl 52 (.tmp 4) (.tmp 19) rfl rfl (w.heap.size + 1) (chV 0 zL) rfl rfl 52 (chV 0 zL) H2.out (chInfo 0 zL_len) rfl (chV_one _ _) ?_))
    first
      | rw [Exit.noGoto_ret]
      | skip
    refine bodyPost_ret (results_row_tmp rfl _ _ (w.heap.size + 1) 52 (chV 0 zL) (0, 0) _ rfl (setRow_heap _ _ (chV 0 zL) _ 52 (0, 0) H2.out) Tryd.underlying52 rfl (chInfo 0 zL_len)) rfl ?_
    exact ⟨by rw [HTO.out.1, HTO.out.2.1 k, HTO.out.2.2]; rfl, below_row HZ.out (by omega) _⟩
  · have q2 : ¬ (64 : Int) < ((i - n : Nat) : Int) := by omega
    have c0 := chC0 H1.out
    go_enter Tryd.func33, Tryd.ntmps33
    go_upto_region 1 with fail
    rw [← hZ]
    clear hZ
    go_wp2_with fail
    go_loopw [6] (fun ve wr => ∃ m K, Blk wr w.heap.size 52 (chV m K) ∧ Blk wr (w.heap.size + 1) 52 (chV 0 zL) ∧ Below w.heap.size w wr ∧ K.length = 32 ∧ (∀ c ∈ K, c < 256) ∧ Goes n k i m K ve) (fun ve wr => if intOf ve = 0 then i + 1 - cellN wr w.heap.size else 0)
    case atStart => exact ⟨n, k, H1.out, H2.out, HZ.out, hk, hkl, .inl ⟨rfl, 0, rfl, rfl, by omega, .inl rfl⟩⟩
    case round =>
      rename World => wr
      obtain ⟨m, K, hb1, hb2, hb, hkk, hkkl, hg⟩ := hrel
      have H1r := Lib.hid hb1
      have H2r := Lib.hid hb2
      have HB := Lib.hid hb
      have HKK := Lib.hid hkk
      have c0r := chC0 hb1
      have HIM := Lib.hid (show (Tryd.prog.info? 52).map (·.size) = some (chL m K).length by rw [show (chL m K).length = (chV m K).size by simp [chV], chV_size m K hkk]; kernel_rfl)
      have HMN := Lib.hid (show cellN wr w.heap.size = m from cellN_blk hb1)
      have HLO := Lib.hid (fun (h : m < 4611686018427387904) => nextLo_c m K wr hkk hkkl h (HROW.out.next hb))
      have HHI := Lib.hid (fun (h0 : m < 2 ^ 64) (h : 4611686018427387904 ≤ m) => nextHi_c m K wr hkk h0 h)
      have HKL2 := Lib.hid hkkl
      clear hb1 hb2 hb hkk hkkl
      rcases hg with ⟨rfl, j, hm, hK, hle, hok⟩ | ⟨rfl, rfl, rfl, hlt, hfar⟩
      · by_cases h3 : m < i
        · have q3 : (m : Int) < (i : Int) := by omega
          have HH := Lib.hid hm
          have HHK := Lib.hid hK
          by_cases h4 : m < 4611686018427387904
          · have HC := Lib.hid (HLO.out h4)
            have HDL := Lib.hid (drv_len K nextT m)
            have HDT := Lib.hid (drv_lt K nextT m)
            have HDS := Lib.hid (show drv K nextT m = kj k n (j + 1) by rw [hK, hm]; rfl)
            generalize drv K nextT m = DV at *
            obtain ⟨m1, hm1⟩ : ∃ m1, m1 = m + 1 := ⟨_, rfl⟩
            rw [← hm1] at HC
            have HM1 := Lib.hid hm1
            have H4 := Lib.hid h4
            clear hm1 hm hK hok hle h3 h4
            go_wp2_with (first
              | (refine wpList_loadG rfl 52 (.tmp 2) rfl w.heap.size 0 rfl (chL m K) _ (chR0 H1r.out) Tryd.underlying52 rfl HIM.out ?_)
              | (go_at_call 32; (refine HC.out.mono ?_); rintro e w4 ⟨rfl, hb4⟩; have HB4 := Lib.hid hb4; have H1x := Lib.hid (H1r.out.below hb4 H1r.out.lt); have H2x := Lib.hid (H2r.out.below hb4 H2r.out.lt); clear hb4)
              | (refine wpList_store_rowTo rfl 52 (.tmp 2) (.tmp 31) rfl rfl w.heap.size (chV m1 DV) rfl rfl 52 (chV m K) H1x.out (chInfo m1 HDL.out) (by rw [chV_size _ _ HDL.out, chV_size _ _ HKK.out]) (chV_one _ _) ?_))
            have hr1 : Blk (w4.setRow w.heap.size (chV m1 DV)) w.heap.size 52 (chV m1 DV) := setRow_heap _ _ (chV m K) _ 52 (0, 0) H1x.out
            refine ⟨⟨m1, DV, hr1, (setRow_other _ _ _ _ (by omega)).trans H2x.out, below_row (HB.out.trans (HB4.out.mono HB.out.size)) (Nat.le_refl _) _, HDL.out, HDT.out, .inl ⟨rfl, j + 1, by have := HM1.out; have := HH.out; omega, HDS.out, by have := HH.out; omega, .inr (by have := HH.out; have := H4.out; omega)⟩⟩, ?_⟩
            have e1 := cellN_blk hr1
            have e2 := HMN.out
            have e3 := HM1.out
            rw [e1, e2]
            simp only [intOf]
            simp
            omega
          · have hmlt : m < 2 ^ 64 := by omega
            have HC := Lib.hid (HHI.out hmlt (by omega))
            have hfar : 4611686018427387904 < i := by omega
            have hnlt : n < i := by omega
            clear hm hK hok hle
            go_wp2_with (first
              | (refine wpList_loadG rfl 52 (.tmp 2) rfl w.heap.size 0 rfl (chL m K) _ (chR0 H1r.out) Tryd.underlying52 rfl HIM.out ?_)
              | (go_at_call 32; (refine HC.out.mono ?_); rintro e w4 ⟨rfl, hb4⟩; have HB4 := Lib.hid hb4; have H1x := Lib.hid (H1r.out.below hb4 H1r.out.lt); have H2x := Lib.hid (H2r.out.below hb4 H2r.out.lt); clear hb4)
              | (refine wpList_store_rowTo rfl 52 (.tmp 2) (.tmp 31) rfl rfl w.heap.size (chV 0 zL) rfl rfl 52 (chV m K) H1x.out (chInfo 0 zL_len) (by rw [chV_size _ _ zL_len, chV_size _ _ HKK.out]) (chV_one _ _) ?_))
            have hr1 : Blk (w4.setRow w.heap.size (chV 0 zL)) w.heap.size 52 (chV 0 zL) := setRow_heap _ _ (chV m K) _ 52 (0, 0) H1x.out
            refine ⟨⟨0, zL, hr1, (setRow_other _ _ _ _ (by omega)).trans H2x.out, below_row (HB.out.trans (HB4.out.mono HB.out.size)) (Nat.le_refl _) _, zL_len, zL_lt, .inr ⟨rfl, rfl, rfl, hnlt, hfar⟩⟩, ?_⟩
            have e2 := HMN.out
            rw [e2]
            simp only [intOf]
            simp
            omega
        · have q3 : ¬ (m : Int) < (i : Int) := by omega
          have hij : i = n + j := by omega
          have HTO := Lib.hid (toN_ok hij (by omega) hok)
          have HH := Lib.hid (And.intro hm hK)
          clear hm hK hok hle hij
          go_wp2_with (first
            | (refine wpList_loadG rfl 52 (.tmp 2) rfl w.heap.size 0 rfl (chL m K) _ (chR0 H1r.out) Tryd.underlying52 rfl HIM.out ?_)
            | (refine wpList_store_rowTo rfl 52 (.tmp 4) (.tmp 33) rfl rfl (w.heap.size + 1) (chV m K) rfl rfl 52 (chV 0 zL) H2r.out (chInfo m HKK.out) (by rw [chV_size _ _ HKK.out]; rfl) (chV_one _ _) ?_))
          first
            | rw [Exit.noGoto_ret]
            | skip
          refine bodyPost_ret (results_row_tmp rfl _ _ (w.heap.size + 1) 52 (chV m K) (0, 0) _ rfl (setRow_heap _ _ (chV 0 zL) _ 52 (0, 0) H2r.out) Tryd.underlying52 rfl (chInfo m HKK.out)) rfl ?_
          exact ⟨by rw [HTO.out.1, HTO.out.2.1 k, HTO.out.2.2, HH.out.1, HH.out.2]; rfl, below_row HB.out (by omega) _⟩
      · have HTO := Lib.hid (toN_far hlt h2 hfar)
        have q3 : (0 : Int) < (i : Int) := by omega
        go_wp2_with (first
          | (refine wpList_loadG rfl 52 (.tmp 2) rfl w.heap.size 0 rfl (chL 0 zL) _ (chR0 H1r.out) Tryd.underlying52 rfl HIM.out ?_)
          | (refine wpList_store_rowTo rfl 52 (.tmp 4) (.tmp 33) rfl rfl (w.heap.size + 1) (chV 0 zL) rfl rfl 52 (chV 0 zL) H2r.out (chInfo 0 zL_len) rfl (chV_one _ _) ?_))
        first
          | rw [Exit.noGoto_ret]
          | skip
        refine bodyPost_ret (results_row_tmp rfl _ _ (w.heap.size + 1) 52 (chV 0 zL) (0, 0) _ rfl (setRow_heap _ _ (chV 0 zL) _ 52 (0, 0) H2r.out) Tryd.underlying52 rfl (chInfo 0 zL_len)) rfl ?_
        exact ⟨by rw [HTO.out.1, HTO.out.2.1 k, HTO.out.2.2]; rfl, below_row HB.out (by omega) _⟩
set_option maxRecDepth 100000 in
set_option maxHeartbeats 8000000 in
theorem rto_c (n : Nat) (k : List Nat) (i : Nat) (w : World) (hk : k.length = 32) (hkl : ∀ c ∈ k, c < 256) (hn : n < 2 ^ 64) (hi : i < 2 ^ 64) :
    Calls Tryd.prog 34 #[.agg (chV n k), .int .u64 (i : Nat)] w fun e w' => e = .returned (.tuple #[.agg (chV (toN n i) (toK n k i)), .int .i64 (toE n i : Nat)]) ∧ Below w.heap.size w w' := by
  have zf := zero_chain
  have zs1 := chV_size 0 zL zL_len
  have zs2 : ¬ chV 0 zL = #[] := by intro h; have := congrArg Array.size h; rw [zs1] at this; cases this
  have csz := chV_size n k hk
  obtain ⟨Z, hZ⟩ : ∃ Z, Z = (w.alloc (Obj.cells (chV n k) 52)).alloc (Obj.cells (chV 0 zL) 52) := ⟨_, rfl⟩
  have HZ := Lib.hid (show Below w.heap.size w Z by rw [hZ]; exact ((Below.refl _ _).alloc (Nat.le_refl _) _).alloc (by simp) _)
  have H1 := Lib.hid (show Blk Z w.heap.size 52 (chV n k) by rw [hZ]; exact (Blk.new w _ _).alloc _)
  have H2 := Lib.hid (show Blk Z (w.heap.size + 1) 52 (chV 0 zL) by
    have h1 := Blk.new (w.alloc (Obj.cells (chV n k) 52)) 52 (chV 0 zL)
    rw [show (w.alloc (Obj.cells (chV n k) 52)).heap.size = w.heap.size + 1 by simp] at h1
    rw [hZ]; exact h1)
  have HBD := Lib.hid built_zero
  by_cases h1 : i < n
  · have HTO := Lib.hid (toN_lo h1)
    have c0 := chC0 H1.out
    have q1 : (i : Int) < (n : Int) := by omega
    go_enter Tryd.func34, Tryd.ntmps34
    go_upto_region 1 with fail
    rw [← hZ]
    clear hZ
    go_wp2_with (first
      | (refine wpList_valG (by kernel_rfl) (.agg (chV 0 zL)) (run_built _ 52 [] _ HBD.out #[] rfl rfl) ?_)
      | (refine wpList_store_rowTo rfl 52 (.tmp 4) (.tmp 10) rfl rfl (w.heap.size + 1) (chV 0 zL) rfl rfl 52 (chV 0 zL) H2.out (chInfo 0 zL_len) rfl (chV_one _ _) ?_))
    first
      | rw [Exit.noGoto_ret]
      | skip
    refine bodyPost_ret (results_row_tmp rfl _ _ (w.heap.size + 1) 52 (chV 0 zL) (0, 0) _ rfl (setRow_heap _ _ (chV 0 zL) _ 52 (0, 0) H2.out) Tryd.underlying52 rfl (chInfo 0 zL_len)) rfl ?_
    exact ⟨by rw [HTO.out.1, HTO.out.2.1 k, HTO.out.2.2]; rfl, below_row HZ.out (by omega) _⟩
  have q1 : ¬ (i : Int) < (n : Int) := by omega
  have wr1 : IntKind.u64.wrap ((i : Int) - (n : Int)) = ((i - n : Nat) : Int) := by simp [IntKind.wrap, IntKind.signed, IntKind.bits]; omega
  by_cases h2 : 64 < i - n
  · have HTO := Lib.hid (toN_hi h1 h2)
    have c0 := chC0 H1.out
    have q2 : (64 : Int) < ((i - n : Nat) : Int) := by omega
    go_enter Tryd.func34, Tryd.ntmps34
    go_upto_region 1 with fail
    rw [← hZ]
    clear hZ
    go_wp2_with (first
      | (refine wpList_valG (by kernel_rfl) (.agg (chV 0 zL)) (run_built _ 52 [] _ HBD.out #[] rfl rfl) ?_)
      | (refine wpList_store_rowTo rfl 52 (.tmp 4) (.tmp 16) rfl rfl (w.heap.size + 1) (chV 0 zL) rfl rfl 52 (chV 0 zL) H2.out (chInfo 0 zL_len) rfl (chV_one _ _) ?_))
    first
      | rw [Exit.noGoto_ret]
      | skip
    refine bodyPost_ret (results_row_tmp rfl _ _ (w.heap.size + 1) 52 (chV 0 zL) (0, 0) _ rfl (setRow_heap _ _ (chV 0 zL) _ 52 (0, 0) H2.out) Tryd.underlying52 rfl (chInfo 0 zL_len)) rfl ?_
    exact ⟨by rw [HTO.out.1, HTO.out.2.1 k, HTO.out.2.2]; rfl, below_row HZ.out (by omega) _⟩
  · have q2 : ¬ (64 : Int) < ((i - n : Nat) : Int) := by omega
    have c0 := chC0 H1.out
    go_enter Tryd.func34, Tryd.ntmps34
    go_upto_region 1 with fail
    rw [← hZ]
    clear hZ
    go_wp2_with fail
    go_loopw [26] (fun _ wr => ∃ m K, Blk wr w.heap.size 52 (chV m K) ∧ Blk wr (w.heap.size + 1) 52 (chV 0 zL) ∧ Below w.heap.size w wr ∧ K.length = 32 ∧ (∀ c ∈ K, c < 256) ∧ (∃ j, m = n + j ∧ K = kj k n j ∧ n + j ≤ i ∧ (j = 0 ∨ n + j ≤ 4611686018427387904))) (fun _ wr => i + 1 - cellN wr w.heap.size)
    case atStart => exact ⟨n, k, H1.out, H2.out, HZ.out, hk, hkl, ⟨0, rfl, rfl, by omega, .inl rfl⟩⟩
    case round =>
      rename World => wr
      obtain ⟨m, K, hb1, hb2, hb, hkk, hkkl, j, hm, hK, hle, hok⟩ := hrel
      have H1r := Lib.hid hb1
      have H2r := Lib.hid hb2
      have HB := Lib.hid hb
      have HKK := Lib.hid hkk
      have c0r := chC0 hb1
      have HIM := Lib.hid (show (Tryd.prog.info? 52).map (·.size) = some (chL m K).length by rw [show (chL m K).length = (chV m K).size by simp [chV], chV_size m K hkk]; kernel_rfl)
      have HMN := Lib.hid (show cellN wr w.heap.size = m from cellN_blk hb1)
      have HLO := Lib.hid (fun (h : m < 4611686018427387904) => rnext_c m K wr hkk hkkl h)
      have HKL2 := Lib.hid hkkl
      clear hb1 hb2 hb hkk hkkl
      by_cases h3 : m < i
      · have q3 : (m : Int) < (i : Int) := by omega
        have HH := Lib.hid hm
        have HHK := Lib.hid hK
        by_cases h4 : m < 4611686018427387904
        · have HC := Lib.hid (HLO.out h4)
          have d1 : decide ((4611686018427387904 : Int) ≤ (m : Int)) = false := decide_eq_false (by omega)
          have HDL := Lib.hid (drv_len K nextT m)
          have HDT := Lib.hid (drv_lt K nextT m)
          have HDS := Lib.hid (show drv K nextT m = kj k n (j + 1) by rw [hK, hm]; rfl)
          generalize drv K nextT m = DV at *
          obtain ⟨m1, hm1⟩ : ∃ m1, m1 = m + 1 := ⟨_, rfl⟩
          rw [← hm1] at HC
          have HM1 := Lib.hid hm1
          have H4 := Lib.hid h4
          clear hm1 hm hK hok hle h3 h4
          go_wp2_with (first
            | (refine wpList_loadG rfl 52 (.tmp 2) rfl w.heap.size 0 rfl (chL m K) _ (chR0 H1r.out) Tryd.underlying52 rfl HIM.out ?_)
            | (go_at_call 36; (refine HC.out.mono ?_); rintro e w4 ⟨rfl, hb4⟩; have HB4 := Lib.hid hb4; have H1x := Lib.hid (H1r.out.below hb4 H1r.out.lt); have H2x := Lib.hid (H2r.out.below hb4 H2r.out.lt); clear hb4)
            | (refine wpList_store_rowTo rfl 52 (.tmp 2) (.tmp 26) rfl rfl w.heap.size (chV m1 DV) rfl rfl 52 (chV m K) H1x.out (chInfo m1 HDL.out) (by rw [chV_size _ _ HDL.out, chV_size _ _ HKK.out]) (chV_one _ _) ?_))
          have hr1 : Blk (w4.setRow w.heap.size (chV m1 DV)) w.heap.size 52 (chV m1 DV) := setRow_heap _ _ (chV m K) _ 52 (0, 0) H1x.out
          refine ⟨⟨m1, DV, hr1, (setRow_other _ _ _ _ (by omega)).trans H2x.out, below_row (HB.out.trans (HB4.out.mono HB.out.size)) (Nat.le_refl _) _, HDL.out, HDT.out, ⟨j + 1, by have := HM1.out; have := HH.out; omega, HDS.out, by have := HH.out; omega, .inr (by have := HH.out; have := H4.out; omega)⟩⟩, ?_⟩
          have e1 := cellN_blk hr1
          have e2 := HMN.out
          have e3 := HM1.out
          rw [e1, e2]
          omega
        · have d1 : decide ((4611686018427387904 : Int) ≤ (m : Int)) = true := decide_eq_true (by omega)
          have HTO := Lib.hid (toN_far (n := n) (i := i) (by omega) h2 (by omega))
          clear hm hK hok hle h3 h4
          go_wp2_with (first
            | (refine wpList_valG (by kernel_rfl) (.agg (chV 0 zL)) (run_built _ 52 [] _ HBD.out #[] rfl rfl) ?_)
            | (refine wpList_store_rowTo rfl 52 (.tmp 4) (.tmp 24) rfl rfl (w.heap.size + 1) (chV 0 zL) rfl rfl 52 (chV 0 zL) H2r.out (chInfo 0 zL_len) rfl (chV_one _ _) ?_))
          first
            | rw [Exit.noGoto_ret]
            | skip
          refine bodyPost_ret (results_row_tmp rfl _ _ (w.heap.size + 1) 52 (chV 0 zL) (0, 0) _ rfl (setRow_heap _ _ (chV 0 zL) _ 52 (0, 0) H2r.out) Tryd.underlying52 rfl (chInfo 0 zL_len)) rfl ?_
          exact ⟨by rw [HTO.out.1, HTO.out.2.1 k, HTO.out.2.2]; rfl, below_row HB.out (by omega) _⟩
      · have q3 : ¬ (m : Int) < (i : Int) := by omega
        have hij : i = n + j := by omega
        have HTO := Lib.hid (toN_ok hij (by omega) hok)
        have HH := Lib.hid (And.intro hm hK)
        clear hm hK hok hle hij
        go_wp2_with (first
          | (refine wpList_loadG rfl 52 (.tmp 2) rfl w.heap.size 0 rfl (chL m K) _ (chR0 H1r.out) Tryd.underlying52 rfl HIM.out ?_)
          | (refine wpList_store_rowTo rfl 52 (.tmp 4) (.tmp 27) rfl rfl (w.heap.size + 1) (chV m K) rfl rfl 52 (chV 0 zL) H2r.out (chInfo m HKK.out) (by rw [chV_size _ _ HKK.out]; rfl) (chV_one _ _) ?_))
        first
          | rw [Exit.noGoto_ret]
          | skip
        refine bodyPost_ret (results_row_tmp rfl _ _ (w.heap.size + 1) 52 (chV m K) (0, 0) _ rfl (setRow_heap _ _ (chV 0 zL) _ 52 (0, 0) H2r.out) Tryd.underlying52 rfl (chInfo m HKK.out)) rfl ?_
        exact ⟨by rw [HTO.out.1, HTO.out.2.1 k, HTO.out.2.2, HH.out.1, HH.out.2]; rfl, below_row HB.out (by omega) _⟩
end Go.Proofs.YthlmlmkabjppeaaDoor
namespace Go.Proofs.YthlmlmkabjppeaaDoor
open Go.RowKit
set_option linter.unusedVariables false
set_option linter.unusedSimpArgs false
def k1L : List Nat := 1 :: List.replicate 31 0
theorem k1_len : k1L.length = 32 := rfl
theorem k1_lt : ∀ c ∈ k1L, c < 256 := by decide
theorem built_k1 : Tryd.prog.built 47 [(0, .int .u8 1)] = some (vb k1L) := by kernel_rfl
/-- a store of a chain into new memory -/
theorem new_chain (w : World) (m : Nat) (K : List Nat) : Blk ((w.alloc (Obj.cells (chV 0 zL) 52)).setRow w.heap.size (chV m K)) w.heap.size 52 (chV m K) ∧ Below w.heap.size w ((w.alloc (Obj.cells (chV 0 zL) 52)).setRow w.heap.size (chV m K)) :=
  ⟨setRow_heap _ _ _ _ _ (0, 0) (Blk.new w _ _), below_row ((Below.refl _ _).alloc (Nat.le_refl _) _) (Nat.le_refl _) _⟩
set_option maxRecDepth 100000 in
set_option maxHeartbeats 8000000 in
theorem awake20_c (w : World) (hR : RoundsAt w) :
    Calls Tryd.prog 35 #[] w fun e w' => e = .returned (.bool true) ∧ Below w.heap.size w w' := by
  have HRO := Lib.hid hR
  clear hR
  have zf := zero_chain
  have zs1 := chV_size 0 zL zL_len
  have zs2 : ¬ chV 0 zL = #[] := by intro h; have := congrArg Array.size h; rw [zs1] at this; cases this
  have HBK := Lib.hid built_k1
  have HBC := Lib.hid (built_chain 4 k1L k1_len)
  have HDL := Lib.hid (drv_len k1L nextT 4)
  have HDT := Lib.hid (drv_lt k1L nextT 4)
  have ht4 : toN 4 4 = 4 ∧ (∀ k, toK 4 k 4 = k) ∧ toE 4 4 = 0 := toN_ok (j := 0) rfl (by decide) (.inl rfl)
  have ht5 : toN 4 5 = 5 ∧ (∀ k, toK 4 k 5 = drv k nextT 4) ∧ toE 4 5 = 0 := toN_ok (j := 1) rfl (by decide) (.inr (by decide))
  have HT4 := Lib.hid (fun W (h : RoundsAt W) => (to_c 4 k1L 4 W k1_len k1_lt (by decide) (by decide) h))
  have HT5 := Lib.hid (fun W (h : RoundsAt W) => (to_c 4 k1L 5 W k1_len k1_lt (by decide) (by decide) h))
  have HNX := Lib.hid (fun W (h : RoundsAt W) => (nextLo_c 4 k1L W k1_len k1_lt (by decide) h))
  rw [ht4.1, ht4.2.1, ht4.2.2] at HT4
  rw [ht5.1, ht5.2.1, ht5.2.2] at HT5
  have k1len := k1_len
  have k1lt := k1_lt
  generalize drv k1L nextT 4 = DV at *
  generalize k1L = K1 at *
  have HE1 := fun w => run_equalIn_chain 4 4 K1 K1 (by decide) (by decide) k1len k1len k1lt k1lt w
  have HE2 := fun w => run_equalIn_chain 5 5 DV DV (by decide) (by decide) HDL.out HDL.out HDT.out HDT.out w
  have HE3 := fun w => run_equalIn_chain 5 4 DV K1 (by decide) (by decide) HDL.out k1len HDT.out k1lt w
  simp only [and_self, decide_true] at HE1 HE2
  simp only [show ¬ (5 = 4 ∧ DV = K1) from fun h => absurd h.1 (by decide), decide_false] at HE3
  have HKL := Lib.hid k1len
  have HKT := Lib.hid k1lt
  have HIM := Lib.hid (show (Tryd.prog.info? 52).map (·.size) = some (chL 4 K1).length by rw [show (chL 4 K1).length = (chV 4 K1).size by simp [chV], chV_size 4 K1 HKL.out]; kernel_rfl)
  have HIN := Lib.hid (show (Tryd.prog.info? 52).map (·.size) = some (chL 5 DV).length by rw [show (chL 5 DV).length = (chV 5 DV).size by simp [chV], chV_size 5 DV HDL.out]; kernel_rfl)
  clear k1len k1lt ht4 ht5
  go_enter Tryd.func35, Tryd.ntmps35
  go_upto_region 2 with (first
    | (refine wpList_valG (by kernel_rfl) (.agg (vb K1)) (run_built _ 47 _ _ HBK.out #[(0, .const (.int .u8 1))] rfl (by kernel_rfl)) ?_)
    | (refine wpList_valG (by kernel_rfl) (.agg (chV 4 K1)) (run_built _ 52 _ _ HBC.out #[(0, .const (.int .u64 4)), (1, .tmp 8)] rfl (by kernel_rfl)) ?_)
    | (refine wpList_store_rowTo rfl 52 (.tmp 1) (.tmp 9) rfl rfl w.heap.size (chV 4 K1) rfl rfl 52 (chV 0 zL) (by exact Blk.new _ _ _) (chInfo 4 HKL.out) (by rw [chV_size _ _ HKL.out]; rfl) (chV_one _ _) ?_; have hnc := new_chain w 4 K1; obtain ⟨Y0, hY0⟩ : ∃ Y, Y = (w.alloc (Obj.cells (chV 0 zL) 52)).setRow w.heap.size (chV 4 K1) := ⟨_, rfl⟩; rw [← hY0] at hnc; rw [← hY0]; have A0 := Lib.hid hnc.1; have B0 := Lib.hid hnc.2; clear hnc hY0))
  have HR0 := Lib.hid (HRO.out.next B0.out)
  go_upto_region 3 with (first
    | (refine wpList_loadC rfl (.tmp 1) rfl w.heap.size rfl 4 K1 A0.out HIM.out ?_)
    | (go_at_call 33; (refine (HT4.out _ HR0.out).mono ?_); rintro e w1 ⟨rfl, hb⟩; have A1p := Lib.hid (A0.out.below hb A0.out.lt); have B1p := Lib.hid (B0.out.trans (hb.mono B0.out.size)); clear hb)
    | (refine wpList_store_rowTo rfl 52 (.tmp 2) (.tmp 13) rfl rfl w1.heap.size (chV 4 K1) rfl rfl 52 (chV 0 zL) (by exact Blk.new _ _ _) (chInfo 4 HKL.out) (by rw [chV_size _ _ HKL.out]; rfl) (chV_one _ _) ?_; have hnc := new_chain w1 4 K1; obtain ⟨Y1, hY1⟩ : ∃ Y, Y = (w1.alloc (Obj.cells (chV 0 zL) 52)).setRow w1.heap.size (chV 4 K1) := ⟨_, rfl⟩; rw [← hY1] at hnc; rw [← hY1]; have C1 := Lib.hid hnc.1; have A1 := Lib.hid (A1p.out.below hnc.2 A1p.out.lt); have B1 := Lib.hid (B1p.out.trans (hnc.2.mono B1p.out.size)); clear hnc hY1))
  have HR1 := Lib.hid (HRO.out.next B1.out)
  go_upto_region 4 with (first
    | (refine wpList_loadC rfl (.tmp 1) rfl w.heap.size rfl 4 K1 A1.out HIM.out ?_)
    | (go_at_call 33; (refine (HT5.out _ HR1.out).mono ?_); rintro e w2 ⟨rfl, hb⟩; have A2p := Lib.hid (A1.out.below hb A1.out.lt); have C2p := Lib.hid (C1.out.below hb C1.out.lt); have B2p := Lib.hid (B1.out.trans (hb.mono B1.out.size)); clear hb)
    | (refine wpList_store_rowTo rfl 52 (.tmp 4) (.tmp 18) rfl rfl w2.heap.size (chV 5 DV) rfl rfl 52 (chV 0 zL) (by exact Blk.new _ _ _) (chInfo 5 HDL.out) (by rw [chV_size _ _ HDL.out]; rfl) (chV_one _ _) ?_; have hnc := new_chain w2 5 DV; obtain ⟨Y2, hY2⟩ : ∃ Y, Y = (w2.alloc (Obj.cells (chV 0 zL) 52)).setRow w2.heap.size (chV 5 DV) := ⟨_, rfl⟩; rw [← hY2] at hnc; rw [← hY2]; have D2 := Lib.hid hnc.1; have A2 := Lib.hid (A2p.out.below hnc.2 A2p.out.lt); have C2 := Lib.hid (C2p.out.below hnc.2 C2p.out.lt); have B2 := Lib.hid (B2p.out.trans (hnc.2.mono B2p.out.size)); clear hnc hY2))
  have HR2 := Lib.hid (HRO.out.next B2.out)
  go_upto_region 5 with (first
    | (refine wpList_loadC rfl (.tmp 1) rfl w.heap.size rfl 4 K1 A2.out HIM.out ?_)
    | (go_at_call 32; (refine (HNX.out _ HR2.out).mono ?_); rintro e w3 ⟨rfl, hb⟩; have A3p := Lib.hid (A2.out.below hb A2.out.lt); have C3p := Lib.hid (C2.out.below hb C2.out.lt); have D3p := Lib.hid (D2.out.below hb D2.out.lt); have B3p := Lib.hid (B2.out.trans (hb.mono B2.out.size)); clear hb)
    | (refine wpList_store_rowTo rfl 52 (.tmp 6) (.tmp 23) rfl rfl w3.heap.size (chV 5 DV) rfl rfl 52 (chV 0 zL) (by exact Blk.new _ _ _) (chInfo 5 HDL.out) (by rw [chV_size _ _ HDL.out]; rfl) (chV_one _ _) ?_; have hnc := new_chain w3 5 DV; obtain ⟨Y3, hY3⟩ : ∃ Y, Y = (w3.alloc (Obj.cells (chV 0 zL) 52)).setRow w3.heap.size (chV 5 DV) := ⟨_, rfl⟩; rw [← hY3] at hnc; rw [← hY3]; have E3 := Lib.hid hnc.1; have A3 := Lib.hid (A3p.out.below hnc.2 A3p.out.lt); have C3 := Lib.hid (C3p.out.below hnc.2 C3p.out.lt); have D3 := Lib.hid (D3p.out.below hnc.2 D3p.out.lt); have B3 := Lib.hid (B3p.out.trans (hnc.2.mono B3p.out.size)); clear hnc hY3))
  go_wp2_with (first
    | (refine wpList_loadC rfl (.tmp 1) rfl w.heap.size rfl 4 K1 A3.out HIM.out ?_)
    | (refine wpList_loadC rfl (.tmp 2) rfl w1.heap.size rfl 4 K1 C3.out HIM.out ?_)
    | (refine wpList_loadC rfl (.tmp 4) rfl w2.heap.size rfl 5 DV D3.out HIN.out ?_)
    | (refine wpList_loadC rfl (.tmp 6) rfl w3.heap.size rfl 5 DV E3.out HIN.out ?_))
  go_ret
  exact ⟨rfl, B3.out⟩
end Go.Proofs.YthlmlmkabjppeaaDoor
