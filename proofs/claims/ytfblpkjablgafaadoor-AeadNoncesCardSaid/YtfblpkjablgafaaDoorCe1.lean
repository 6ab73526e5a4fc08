/- Contracts: nonces. -/
import Derived.Test.YtfblpkjablgafaaDoorCc1
namespace Go.Proofs.YtfblpkjablgafaaDoor
open Go.RowKit
set_option linter.unusedVariables false
set_option linter.unusedSimpArgs false
theorem OwnB.rdAt {w : World} {base : Nat} {A : Option Addr} {n c : Nat} {l : List Nat} (h : OwnB w base (.slice A n c) l) : Rd w w.heap.size A (byt l) := by
  obtain ⟨A', c', e, _, _, h3⟩ := h.rd
  injection e with e1 e2 e3
  rw [e1]; exact h3
theorem results_row_tmp {P : Program} {fn : Func} {p u : Tmp} {ty : TypeId} (h : fn.results = #[.cell p ty, .tmp u]) (tmps : Array Value) (w : World) (g : Nat) (t : TypeId) (cs : Array Value) (fr : Nat × Nat) (d : TypeDesc)
    (hp : tmps.getD p undef = .pointer (some ⟨g, 0, none⟩)) (hg : w.heap[g]? = some (.cells cs t fr))
    (hu : P.underlying ty = some d) (hd : (match d with | .struct _ | .array _ _ => true | _ => false) = true) (hi : (P.info? ty).map (·.size) = some cs.size) :
    (results fn tmps).run P w = .ok (.tuple #[.agg cs, tmps.getD u undef]) w := by
  rw [results_cell_tmp h, hp]
  simp [asAddr, run_loadVar_row w g t ty cs fr d hg hu hd hi, Result.andThen]
def nonL (node count : Nat) : List Nat := form count 8 ++ (form node 2 ++ form 0 2)
theorem nonL_len (node count : Nat) : (nonL node count).length = 12 := by simp [nonL, form_len]
theorem nonL_lt (node count : Nat) : ∀ c ∈ nonL node count, c < 256 := fun c h => by
  simp only [nonL, List.mem_append] at h
  rcases h with h | h | h <;> exact form_lt _ _ c h
def zNl : List Nat := List.replicate 12 0
theorem zero_nonce (w : World) : (zeroValue 25).run Tryd.prog w = .ok (.agg (vb zNl)) w := by kernel_rfl
theorem zero_non12 (w : World) : (zeroValue 24).run Tryd.prog w = .ok (.agg (vb zNl)) w := by kernel_rfl
theorem built_nonce : Tryd.prog.built 25 [] = some (vb zNl) := by kernel_rfl
theorem nonSz {L : List Nat} (h : L.length = 12) : (Tryd.prog.info? 25).map (·.size) = some (vb L).size := by rw [vb_size, h]; kernel_rfl
theorem nonLn {L : List Nat} (h : L.length = 12) : (Tryd.prog.info? 25).map (·.size) = some (byt L).length := by rw [byt_len, h]; kernel_rfl
theorem n12Sz {L : List Nat} (h : L.length = 12) : (Tryd.prog.info? 24).map (·.size) = some (vb L).size := by rw [vb_size, h]; kernel_rfl
theorem tailOf2 (n : Nat) : tailOf n 2 = form n 2 := rfl
set_option maxRecDepth 100000 in
set_option maxHeartbeats 4000000 in
theorem nonceHi_c (node count : Nat) (w : World) (hc : count < 18446744073709551616) (h : 4611686018427387904 < count) :
    Calls Tryd.prog 15 #[.int .u16 node, .int .u64 count] w fun e w' => e = .returned (.tuple #[.agg (vb zNl), .int .i64 12]) ∧ Below w.heap.size w w' := by
  have zf := zero_nonce
  have zs1 : (vb zNl).size = 12 := by rfl
  have zs2 : ¬ vb zNl = #[] := by intro h; have := congrArg Array.size h; rw [zs1] at this; cases this
  have d1 : decide ((4611686018427387904 : Int) < (count : Int)) = true := decide_eq_true (by omega)
  obtain ⟨Z, hZ⟩ : ∃ Z, Z = w.alloc (Obj.cells (vb zNl) 25) := ⟨_, rfl⟩
  have HZ := Lib.hid (show Below w.heap.size w Z by rw [hZ]; exact (Below.refl _ _).alloc (Nat.le_refl _) _)
  have H1 := Lib.hid (show Blk Z w.heap.size 25 (vb zNl) by rw [hZ]; exact Blk.new w _ _)
  have HBD := Lib.hid built_nonce
  have HNS := Lib.hid (nonSz (L := zNl) rfl)
  clear h
  go_enter Tryd.func15, Tryd.ntmps15
  go_upto_region 1 with fail
  rw [← hZ]
  clear hZ
  go_wp2_with (first
    | (refine wpList_valG (by kernel_rfl) (.agg (vb zNl)) (run_built _ 25 [] _ HBD.out #[] rfl rfl) ?_)
    | (refine wpList_store_rowTo rfl 25 (.tmp 4) (.tmp 9) rfl rfl w.heap.size (vb zNl) rfl rfl 25 (vb zNl) H1.out HNS.out rfl (vb_one _) ?_))
  first
    | rw [Exit.noGoto_ret]
    | skip
  refine bodyPost_ret (results_row_tmp rfl _ _ w.heap.size 25 (vb zNl) (0, 0) _ rfl (setRow_heap _ _ (vb zNl) _ 25 (0, 0) H1.out) Tryd.underlying25 rfl HNS.out) rfl ?_
  exact ⟨rfl, below_row HZ.out (Nat.le_refl _) _⟩
set_option maxRecDepth 100000 in
set_option maxHeartbeats 4000000 in
theorem nonceLo_c (node count : Nat) (w : World) (hn : node < 65536) (h : count ≤ 4611686018427387904) :
    Calls Tryd.prog 15 #[.int .u16 node, .int .u64 count] w fun e w' => e = .returned (.tuple #[.agg (vb (nonL node count)), .int .i64 0]) ∧ Below w.heap.size w w' := by
  have zf := zero_nonce
  have zs1 : (vb zNl).size = 12 := by rfl
  have zs2 : ¬ vb zNl = #[] := by intro h; have := congrArg Array.size h; rw [zs1] at this; cases this
  have d1 : decide ((4611686018427387904 : Int) < (count : Int)) = false := decide_eq_false (by omega)
  have f1 : IntKind.u64.wrap (node : Int) = (node : Int) := by simp [IntKind.wrap, IntKind.signed, IntKind.bits]; omega
  obtain ⟨Z, hZ⟩ : ∃ Z, Z = w.alloc (Obj.cells (vb zNl) 25) := ⟨_, rfl⟩
  have HZ := Lib.hid (show Below w.heap.size w Z by rw [hZ]; exact (Below.refl _ _).alloc (Nat.le_refl _) _)
  have H1 := Lib.hid (show Blk Z w.heap.size 25 (vb zNl) by rw [hZ]; exact Blk.new w _ _)
  have HP1 := Lib.hid (show ∀ W, Calls Tryd.prog 25 #[.slice none 0 0, .int .u64 (count : Nat), .int .i64 8] W (Gives (form count 8) W) from fun W => by
    have h2 := put_c 0 none 0 [] count 8 W (rd_nil W 0 none) (by omega) (by decide) (by decide) (by decide)
    rw [List.nil_append] at h2; exact h2)
  have HP2 := Lib.hid (show ∀ W A c, Rd W W.heap.size A (byt (form count 8)) → Calls Tryd.prog 25 #[.slice A 8 c, .int .u64 (node : Nat), .int .i64 2] W (Gives (form count 8 ++ form node 2) W) from fun W A c h => by
    have h2 := put_c W.heap.size A c (form count 8) node 2 W h (by omega) (by decide) (by decide) (by rw [form_len]; decide)
    rw [form_len] at h2; exact h2)
  have HP3 := Lib.hid (show ∀ W A c, Rd W W.heap.size A (byt (form count 8 ++ form node 2)) → Calls Tryd.prog 25 #[.slice A 10 c, .int .u64 0, .int .i64 2] W (Gives (nonL node count) W) from fun W A c h => by
    have h2 := put_c W.heap.size A c (form count 8 ++ form node 2) 0 2 W h (by omega) (by decide) (by decide) (by simp [form_len])
    rw [show (form count 8 ++ form node 2).length = 10 by simp [form_len], tailOf2, List.append_assoc] at h2; exact h2)
  have HL1 := Lib.hid (show (form count 8).length = 8 by simp [form_len])
  have HL2 := Lib.hid (show (form count 8 ++ form node 2).length = 10 by simp [form_len])
  have HNL := Lib.hid (nonL_len node count)
  have HNS := Lib.hid (nonSz (nonL_len node count))
  have HNN := Lib.hid (nonLn (nonL_len node count))
  have HNZ := Lib.hid (show (vb zNl).size = (vb (nonL node count)).size by rw [vb_size, vb_size, nonL_len]; rfl)
  generalize form count 8 ++ form node 2 = y at *
  generalize form count 8 = x at *
  generalize nonL node count = z at *
  clear h hn
  go_enter Tryd.func15, Tryd.ntmps15
  go_upto_region 1 with fail
  rw [← hZ]
  clear hZ
  go_upto_region 4 with (first
    | (go_at_call 25; (with_reducible refine (HP1.out Z).mono ?_); rintro e W2 ⟨v2, rfl, ho, hb⟩; obtain ⟨A4, c4, rfl, _, _, r4⟩ := ho.rd; rw [HL1.out]; have HR4 := Lib.hid r4; have HB2 := Lib.hid hb; clear ho hb r4)
    | (go_at_call 25; (with_reducible refine (HP2.out W2 A4 c4 HR4.out).mono ?_); rintro e W3 ⟨v3, rfl, ho, hb⟩; obtain ⟨A5, c5, rfl, _, _, r5⟩ := ho.rd; rw [HL2.out]; have HR5 := Lib.hid r5; have HB3 := Lib.hid (HB2.out.trans (hb.mono HB2.out.size)); clear ho hb r5)
    | (go_at_call 25; (with_reducible refine (HP3.out W3 A5 c5 HR5.out).mono ?_); rintro e W4 ⟨v4, rfl, ho, hb⟩; obtain ⟨g, cap, rest, rfl, hg, hblk, hcap, _⟩ := ho.open_ (by intro h0; have h1 := HNL.out; rw [h0] at h1; cases h1); rw [HNL.out]; have HR6 := Lib.hid (range_of_rd ho.rdAt (by intro h0; have h1 := HNL.out; rw [h0] at h1; cases h1)); have HB4 := Lib.hid (HB3.out.trans (hb.mono HB3.out.size)); clear ho hb hblk))
  have H14 := Lib.hid (H1.out.below HB4.out H1.out.lt)
  have HW4 := Lib.hid (HZ.out.trans (HB4.out.mono HZ.out.size))
  have hAA := fun W => run_arrayAt (P := Tryd.prog) (w := W) 25 5 12 (some ⟨g, 0, none⟩) 12 cap Tryd.underlying25 (Nat.le_refl _)
  go_wp2_with (first
    | (refine wpList_loadG rfl 25 (.tmp 17) rfl g 0 rfl (byt z) _ HR6.out Tryd.underlying25 rfl HNN.out ?_)
    | (refine wpList_store_rowTo rfl 25 (.tmp 4) (.tmp 18) rfl rfl w.heap.size (vb z) rfl rfl 25 (vb zNl) H14.out HNS.out HNZ.out (vb_one _) ?_))
  first
    | rw [Exit.noGoto_ret]
    | skip
  refine bodyPost_ret (results_row_tmp rfl _ _ w.heap.size 25 (vb z) (0, 0) _ rfl (setRow_heap _ _ (vb zNl) _ 25 (0, 0) H14.out) Tryd.underlying25 rfl HNS.out) rfl ?_
  exact ⟨rfl, below_row HW4.out (Nat.le_refl _) _⟩
set_option maxRecDepth 100000 in
set_option maxHeartbeats 4000000 in
theorem countOf_c (l : List Nat) (w : World) (hl : l.length = 12) (hb : ∀ c ∈ l, c < 256) :
    Calls Tryd.prog 16 #[.agg (vb l)] w fun e w' => e = .returned (.tuple #[.int .u16 (number ((l.drop 8).take 2) : Nat), .int .u64 (number (l.take 8) : Nat)]) ∧ Below w.heap.size w w' := by
  have H1 := Lib.hid (Blk.new w 25 (vb l))
  have HZ := Lib.hid (show Below w.heap.size w (w.alloc (Obj.cells (vb l) 25)) from (Below.refl _ _).alloc (Nat.le_refl _) _)
  have HG1 := Lib.hid (show ∀ W, Blk W w.heap.size 25 (vb l) → Calls Tryd.prog 26 #[.slice (some ⟨w.heap.size, 0, none⟩) 12 12, .int .i64 8] W fun e w' => e = .returned (.tuple #[.int .u64 (number (l.take 8) : Nat), .int .i64 0]) ∧ W = w' from fun W h => by
    have h2 := get_c (w.heap.size + 1) (some ⟨w.heap.size, 0, none⟩) 12 l 8 W (rd_all h) hb (by omega) (by decide) (by decide)
    rw [hl, show getNum l 8 = number (l.take 8) by unfold getNum getErr; rw [hl]; rfl, show getErr 12 8 = 0 from rfl] at h2
    exact h2)
  have HG2 := Lib.hid (show ∀ W, Blk W w.heap.size 25 (vb l) → Calls Tryd.prog 26 #[.slice (some ⟨w.heap.size, 8, none⟩) 4 4, .int .i64 2] W fun e w' => e = .returned (.tuple #[.int .u64 (number ((l.drop 8).take 2) : Nat), .int .i64 0]) ∧ W = w' from fun W h => by
    have h3 : (l.drop 8).length = 4 := by rw [List.length_drop]; omega
    have h2 := get_c (w.heap.size + 1) (some ⟨w.heap.size, 8, none⟩) 4 (l.drop 8) 2 W (by have h5 := (rd_all h).drop_ 8; rw [Addr.add_mid] at h5; exact h5) (fun c hc => hb c (List.mem_of_mem_drop hc)) (by omega) (by decide) (by decide)
    rw [h3, show getNum (l.drop 8) 2 = number ((l.drop 8).take 2) by unfold getNum getErr; rw [h3]; rfl, show getErr 4 2 = 0 from rfl] at h2
    exact h2)
  have hw : number ((l.drop 8).take 2) < 65536 := by
    have h4 : ((l.drop 8).take 2).length = 2 := by rw [List.length_take, List.length_drop]; omega
    have := number_lt ((l.drop 8).take 2) (fun c hc => hb c (List.mem_of_mem_drop (List.mem_of_mem_take hc)))
    rw [h4] at this
    exact this
  generalize number ((l.drop 8).take 2) = n1 at *
  generalize number (l.take 8) = n2 at *
  have f1 : IntKind.u16.wrap (n1 : Int) = (n1 : Int) := by simp [IntKind.wrap, IntKind.signed, IntKind.bits]; omega
  have f2 : (n1 : Int) % 65536 = (n1 : Int) := by omega
  clear hw hb
  have hsz : (vb l).size = 12 := by rw [vb_size, hl]
  go_enter Tryd.func16, Tryd.ntmps16
  go_upto_region 1 with (first
    | (refine Go.Great.wpList_boxTo rfl 25 (.tmp 0) rfl (some 1) rfl w.heap.size rfl (vb l) rfl ?_))
  generalize w.alloc (Obj.cells (vb l) 25) = Z at *
  go_wp2_with (first
    | (go_at_call 26; (with_reducible refine (HG1.out Z H1.out).mono ?_); rintro e W2 ⟨rfl, rfl⟩)
    | (go_at_call 26; (with_reducible refine (HG2.out Z H1.out).mono ?_); rintro e W3 ⟨rfl, rfl⟩))
  go_ret2
  exact ⟨rfl, HZ.out⟩
end Go.Proofs.YtfblpkjablgafaaDoor
