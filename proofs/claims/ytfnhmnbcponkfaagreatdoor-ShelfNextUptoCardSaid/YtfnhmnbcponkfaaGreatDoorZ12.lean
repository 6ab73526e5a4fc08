/- Parts, one behind the other: Po1 Bk5 Bo0 Bx9 Bl8 Bo1 Bk2 Pa3 Bk3 OpGr Sf0 Sf1 Bpk. -/
import Derived.Test.YtfnhmnbcponkfaaGreatDoorZ11
set_option maxRecDepth 100000
set_option linter.unusedVariables false
set_option linter.unusedSimpArgs false
set_option maxHeartbeats 16000000
namespace Go.Proofs.YtfnhmnbcponkfaaGreatDoor
open Go.RowKit
theorem OwnP.allocM {w : World} {base : Nat} {v : Value} {l : List Pc} (h : OwnP w base v l) (o : Obj) : OwnP (w.alloc o) base v l := World.ownsRow.alloc h o
theorem OwnP.nilM (w : World) (base : Nat) : OwnP w base (.slice none 0 0) [] := ⟨rfl, .inl ⟨rfl, rfl⟩⟩
theorem OwnP.appM {w w' : World} {base : Nat} {v v' : Value} {l m : List Pc} (h : Apped w base 77 5 v w' v' (l.length + m.length) (pcs l ++ pcs m)) : OwnP w' base v' (l ++ m) := by
 have h1 := h.own
 unfold OwnP
 rw [jC, pcs_app]
 exact h1
theorem run_zero (w : World) {o : Oper} {ρ : Operand → Value} (ho : o.op = .buildSlice 31 0 #[]) :
  (execOp ρ o).run Tryz.prog w = .ok (.value (.slice (some ⟨w.heap.size, 0, none⟩) 0 0)) (w.alloc (.cells #[] 77)) := by
 obtain ⟨i, hi, hz, hs, _⟩ := piece_parts
 unfold execOp
 simp [ho, Instr.buildSlice, run_underlying Tryz.underlying31, sizeOf, typeInfo, hi, Instr.fill, newRow]
 rw [show (Array.range 0).map (fun _ : Nat => (default : Value)) = #[] from Array.eq_empty_of_size_eq_zero (by simp)]
theorem op_appP {o : Oper} {a : Act} {w w' : World} {t : TypeId} {s x : Operand} {v u r : Value} (ho : o.op = .call { callee := .builtin .append, args := #[s, x], argTypes := #[t, t] }) (hs : a.eval s = v) (hx : a.eval x = u) (hrun : (Builtin.append_ #[t, t] o.type #[v, u]).run Tryz.prog w = .ok r w') : (execOp a.eval o).run Tryz.prog w = .ok (.value r) w' := by
 unfold execOp
 simp only [ho, resolve, invoke, builtin, Sem.run_bind, Sem.run_pure, Result.andThen_ok, List.map_toArray, List.map_cons, List.map_nil, hs, hx, hrun]
theorem quiet_loadA {P : Program} {C : World → Prop} {a : Act} {o : Oper} {K : Act → Prop} (ty : TypeId) (x : Operand) (ho : o.op = .load ty x) (b : Addr) (hx : a.eval x = .pointer (some b))
  (l : List Value) (d : TypeDesc) (hC : ∀ w, C w → AtA w b l) (hu : P.underlying ty = some d) (hd : d.isRow = true) (hi : (P.info? ty).map (·.size) = some l.length)
  (a' : Act) (ha : a.put o.dst (.agg l.toArray) = a') (h : K a') : o.quiet P a C K :=
 ⟨.agg l.toArray, fun w hw' => by
  unfold Oper.quietAt execOp
  simp only [ho, hx, Instr.loadAt, Instr.sureAddr, Sem.run_bind, Sem.run_pure, Result.andThen_ok, run_loadVar_at w b ty l d (hC w hw') hu hd hi]
  exact ⟨rfl, rfl⟩, by rw [ha]; exact h⟩
theorem own_zero (w : World) (base : Nat) (h : base ≤ w.heap.size) : OwnP (w.alloc (.cells #[] 77)) base (.slice (some ⟨w.heap.size, 0, none⟩) 0 0) [] :=
 ⟨rfl, .inr ⟨w.heap.size, 0, #[], rfl, h, Blk.new w _ _, jD _, by decide, rfl, rfl⟩⟩
def Apart (ov : Value) (A : Option Addr) (xs : List Value) : Prop := ∀ ad, A = some ad → xs ≠ [] → some ad.block ≠ ov.ownBlock
theorem Rd.appended {W W' : World} {ov ov' : Value} {A : Option Addr} {xs : List Value} (h : Rd W W.heap.size A xs) (ha : Apart ov A xs) (hg : W.grownBy W' ov.ownBlock) (hl : ov'.ownBlock = ov.ownBlock ∨ ov'.ownBlock = some W.heap.size) : Rd W' W'.heap.size A xs ∧ Apart ov' A xs := by
 refine ⟨fun hne => ?_, fun ad e hne => ?_⟩
 ·obtain ⟨ad, e, hb, hat⟩ := h hne
  refine ⟨ad, e, jH hb hg.size, fun j u hu => ?_⟩
  rw [← hat j u hu]
  exact World.cell?_of_block (hg.block _ (by rw [add_block]; exact hb) (by rw [add_block]; exact ha ad e hne))
 ·rcases hl with h1 | h1
  ·rw [h1]; exact ha ad e hne
  ·rw [h1]
   obtain ⟨ad', e', hb, _⟩ := h hne
   rw [e] at e'
   injection e' with e'
   subst e'
   intro h2
   injection h2 with h2
   omega
theorem apart_new {W W' : World} {base b : Nat} {e e2 : TypeId} {sz n sz2 n2 : Nat} {ov v : Value} {xs ys : List Value} (ho : W.ownsRow base e sz ov n xs) (hv : W'.ownsRow b e2 sz2 v n2 ys) (hb : W.heap.size ≤ b) {A : Option Addr} {m c : Nat} (hA : v = .slice A m c) : Apart ov A ys := fun ad ea hne h => by
 have h1 := own_lt ho ad.block h.symm
 rcases hv.2 with ⟨e3, h0⟩ | ⟨g, cap, cur, e3, hg, _⟩
 ·rw [hA] at e3
  injection e3 with e3 _ _
  rw [ea] at e3
  cases e3
 ·rw [hA] at e3
  injection e3 with e3 _ _
  rw [ea] at e3
  injection e3 with e3
  subst e3
  simp only at h1
  omega
structure GsO (W : World) (ov : Value) (xs : List Value) (gs : List (List Pc)) : Prop where
 len : xs.length = gs.length
 at_ : ∀ i, i < gs.length → ∃ Ai ci, xs[i]? = some (.slice Ai (gs.getD i []).length ci) ∧ (gs.getD i []).length ≤ ci ∧ RdP W W.heap.size Ai (gs.getD i []) ∧ Apart ov Ai (pcs (gs.getD i []))
theorem GsO.nil_ (W : World) (ov : Value) : GsO W ov [] [] := ⟨rfl, fun i hi => by simp at hi⟩
theorem GsO.gv {W : World} {ov : Value} {xs : List Value} {gs : List (List Pc)} (h : GsO W ov xs gs) : GsV W xs gs := ⟨h.len, fun i hi => by
 obtain ⟨Ai, ci, h1, h2, h3, _⟩ := h.at_ i hi
 exact ⟨Ai, ci, h1, h2, h3⟩⟩
theorem GsO.next {W W' : World} {ov : Value} {xs : List Value} {gs : List (List Pc)} (h : GsO W ov xs gs) (hb : Below W.heap.size W W') : GsO W' ov xs gs := ⟨h.len, fun i hi => by
 obtain ⟨Ai, ci, h1, h2, h3, h4⟩ := h.at_ i hi
 exact ⟨Ai, ci, h1, h2, (Rd.below (show Rd W W.heap.size Ai (pcs _) from h3) hb).more hb.size, h4⟩⟩
theorem GsO.snoc {W W' : World} {ov ov' : Value} {xs : List Value} {gs : List (List Pc)} {A : Option Addr} {c : Nat} {g : List Pc} (h : GsO W ov xs gs) (hc : g.length ≤ c) (hr : RdP W W.heap.size A g) (ha : Apart ov A (pcs g)) (hg : W.grownBy W' ov.ownBlock) (hl : ov'.ownBlock = ov.ownBlock ∨ ov'.ownBlock = some W.heap.size) : GsO W' ov' (xs ++ [.slice A g.length c]) (gs ++ [g]) := by
 refine ⟨by simp [h.len], fun i hi => ?_⟩
 by_cases hlt : i < gs.length
 ·obtain ⟨Ai, ci, h1, h2, h3, h4⟩ := h.at_ i hlt
  have e : (gs ++ [g]).getD i [] = gs.getD i [] := by rw [jA, List.getElem?_append_left hlt, jA]
  rw [e]
  obtain ⟨h5, h6⟩ := Rd.appended h3 h4 hg hl
  exact ⟨Ai, ci, by rw [List.getElem?_append_left (by rw [h.len]; exact hlt)]; exact h1, h2, h5, h6⟩
 ·have hi' : i = gs.length := by simp at hi; omega
  subst hi'
  have e : (gs ++ [g]).getD gs.length [] = g := by rw [jA, List.getElem?_append_right (jD _)]; simp
  rw [e]
  obtain ⟨h5, h6⟩ := Rd.appended hr ha hg hl
  exact ⟨A, c, by rw [List.getElem?_append_right (by rw [h.len]; exact jD _)]; simp [h.len], hc, h5, h6⟩
theorem ls_of {W : World} {base : Nat} {v : Value} {xs : List Value} {gs : List (List Pc)} (ho : OwnG W base v xs) (hg : GsV W xs gs) : ∃ B c, v = .slice B gs.length c ∧ gs.length ≤ c ∧ LsAt W B gs := by
 obtain ⟨B, c, rfl, h1, h2, h3⟩ := gv_rd ho
 refine ⟨B, c, by rw [hg.1], by rw [← hg.1]; exact h1, fun i hi => ?_⟩
 obtain ⟨Ai, ci, q1, q2, q3⟩ := hg.2 i hi
 obtain ⟨ad, e1, e2, e3⟩ := h3 (by intro h0; rw [h0] at q1; simp at q1)
 exact ⟨ad, Ai, ci, e1, e2, e3 i _ q1, q2, q3⟩
structure BsO (W : World) (ov : Value) (us : List (List Value)) (bs : List Bxo) : Prop where
 len : us.length = bs.length
 at_ : ∀ i, i < bs.length → ∃ A c, us.getD i [] = bxL (bs.getD i bo0).t (bs.getD i bo0).ep (bs.getD i bo0).nn A (bs.getD i bo0).body.length c ∧ (bs.getD i bo0).body.length ≤ c ∧ Rd W W.heap.size A (byt (bs.getD i bo0).body) ∧ Apart ov A (byt (bs.getD i bo0).body)
 ok : ∀ b ∈ bs, BoOk b
theorem BsO.nil_ (W : World) (ov : Value) : BsO W ov [] [] := ⟨rfl, fun i hi => by simp at hi, fun b hb => by cases hb⟩
theorem BsO.bv {W : World} {ov : Value} {us : List (List Value)} {bs : List Bxo} (h : BsO W ov us bs) : BsV W us bs := ⟨h.len, fun i hi => by
 obtain ⟨A, c, h1, h2, h3, _⟩ := h.at_ i hi
 exact ⟨A, c, h1, h2, h3⟩, h.ok⟩
theorem BsO.next {W W' : World} {ov : Value} {us : List (List Value)} {bs : List Bxo} (h : BsO W ov us bs) (hb : Below W.heap.size W W') : BsO W' ov us bs := ⟨h.len, fun i hi => by
 obtain ⟨A, c, h1, h2, h3, h4⟩ := h.at_ i hi
 exact ⟨A, c, h1, h2, (h3.below hb).more hb.size, h4⟩, h.ok⟩
theorem BsO.snoc {W W' : World} {ov ov' : Value} {us : List (List Value)} {bs : List Bxo} {b : Bxo} {A : Option Addr} {c : Nat} (h : BsO W ov us bs) (hc : b.body.length ≤ c) (hr : Rd W W.heap.size A (byt b.body)) (ha : Apart ov A (byt b.body)) (hok : BoOk b) (hg : W.grownBy W' ov.ownBlock) (hl : ov'.ownBlock = ov.ownBlock ∨ ov'.ownBlock = some W.heap.size) : BsO W' ov' (us ++ [bxL b.t b.ep b.nn A b.body.length c]) (bs ++ [b]) := by
 refine ⟨by simp [h.len], fun i hi => ?_, fun x hx => ?_⟩
 ·by_cases hlt : i < bs.length
  ·obtain ⟨Ai, ci, h1, h2, h3, h4⟩ := h.at_ i hlt
   have e : (bs ++ [b]).getD i bo0 = bs.getD i bo0 := by rw [jA, List.getElem?_append_left hlt, jA]
   have e1 : (us ++ [bxL b.t b.ep b.nn A b.body.length c]).getD i [] = us.getD i [] := by rw [jA, List.getElem?_append_left (by rw [h.len]; exact hlt), jA]
   rw [e, e1]
   obtain ⟨h5, h6⟩ := Rd.appended h3 h4 hg hl
   exact ⟨Ai, ci, h1, h2, h5, h6⟩
  ·have hi' : i = bs.length := by simp at hi; omega
   subst hi'
   have e : (bs ++ [b]).getD bs.length bo0 = b := by rw [jA, List.getElem?_append_right (jD _)]; simp
   have e1 : (us ++ [bxL b.t b.ep b.nn A b.body.length c]).getD bs.length [] = bxL b.t b.ep b.nn A b.body.length c := by rw [← h.len, jA, List.getElem?_append_right (jD _)]; simp
   rw [e, e1]
   obtain ⟨h5, h6⟩ := Rd.appended hr ha hg hl
   exact ⟨A, c, rfl, hc, h5, h6⟩
 ·rcases List.mem_append.1 hx with h1 | h1
  ·exact h.ok x h1
  ·rw [List.mem_singleton.1 h1]; exact hok
structure Wbx (w W : World) (k nn key : List Nat) : Prop where
 kb : Kbx w W k nn
 r : Blk W (w.heap.size + 1 + 1) 45 (vb key)
theorem Wbx.next {w W W' : World} {k nn key : List Nat} (s : Wbx w W k nn key) (hb : Below W.heap.size W W') : Wbx w W' k nn key := ⟨s.kb.next (hb.mono s.kb.sz), s.r.below hb s.r.lt⟩
theorem Wbx.begin (w : World) (k nn key : List Nat) : Wbx w (((w.alloc (Obj.cells (vb k) 45)).alloc (Obj.cells (vb nn) 57)).alloc (Obj.cells (vb key) 45)) k nn key := by
 have h1 := Kbx.begin w k nn
 have h2 : Below ((w.alloc (Obj.cells (vb k) 45)).alloc (Obj.cells (vb nn) 57)).heap.size ((w.alloc (Obj.cells (vb k) 45)).alloc (Obj.cells (vb nn) 57)) (((w.alloc (Obj.cells (vb k) 45)).alloc (Obj.cells (vb nn) 57)).alloc (Obj.cells (vb key) 45)) := (jE _ _).alloc (jD _) _
 refine ⟨h1.next (h2.mono h1.sz), ?_⟩
 have h3 := Blk.new ((w.alloc (Obj.cells (vb k) 45)).alloc (Obj.cells (vb nn) 57)) 45 (vb key)
 simpa using h3
theorem Wbx.rd {w W : World} {k nn key : List Nat} (s : Wbx w W k nn key) : Rd W W.heap.size (some ⟨w.heap.size + 1 + 1, 0, none⟩) (byt key) := Rd.ups (rd_blk s.r (byt key) key.length (by show byt key = (byt key).take key.length; rw [List.take_of_length_le (by rw [byt_len]; exact jD _)])) s.r.lt
def z32 : List Nat := List.replicate 32 0
theorem zero_keyX (w : World) : (zeroValue 45).run Tryz.prog w = .ok (.agg (vb z32)) w := by kernel_rfl
def kmV (kf : Nat → Option (List Nat)) : Nat → Option (Array Value) := fun e => (kf e).map vb
theorem keysMapU : Tryz.prog.underlying 37 = some (.map 29 45) := Tryz.underlying37
theorem look_none {W : World} {kb n : Nat} {kf : Nat → Option (List Nat)} (h : KeysAt W kb n (kmV kf)) {e : Nat} (he : e < 4294967296) (hk : kf e = none) : (Instr.lookup 37 (.map (some kb)) (.int .u32 (e : Int)) true).run Tryz.prog W = .ok (.tuple #[.agg (vb z32), .bool false]) W := by
 have h1 := h.look keysMapU (zero_keyX W) he
 rw [show kmV kf e = none by unfold kmV; rw [hk]; rfl] at h1
 exact h1
theorem look_some {W : World} {kb n : Nat} {kf : Nat → Option (List Nat)} (h : KeysAt W kb n (kmV kf)) {e : Nat} (he : e < 4294967296) {k : List Nat} (hk : kf e = some k) : (Instr.lookup 37 (.map (some kb)) (.int .u32 (e : Int)) true).run Tryz.prog W = .ok (.tuple #[.agg (vb k), .bool true]) W := by
 have h1 := h.look keysMapU (zero_keyX W) he
 rw [show kmV kf e = some (vb k) by unfold kmV; rw [hk]; rfl] at h1
 exact h1
def OpenD (kf : Nat → Option (List Nat)) (bs : List Bxo) (w : World) (e : Ending) (w' : World) : Prop :=
 (((∃ b ∈ bs, kf b.ep = none) ∧ e = .returned (.tuple #[.slice none 0 0, .int .i64 11])) ∨ ((∀ b ∈ bs, kf b.ep ≠ none) ∧ ∃ v, e = .returned (.tuple #[v, .int .i64 0]) ∧ OwnP w' w.heap.size v (mergeL (bs.map (opB kf)).flatten))) ∧ Below w.heap.size w w'
structure OpnI (w : World) (ls : List (List Pc)) (xs : List Value) (wr : World) (ov : Value) : Prop where
 own : OwnG wr w.heap.size ov xs
 bel : Below w.heap.size w wr
 gv : GsO wr ov xs ls
theorem OpnI.next {w wr wr' : World} {ls : List (List Pc)} {xs : List Value} {ov : Value} (h : OpnI w ls xs wr ov) (hb : Below wr.heap.size wr wr') : OpnI w ls xs wr' ov :=
 ⟨h.own.next hb, h.bel.trans (hb.mono h.bel.size), h.gv.next hb⟩
theorem vb_all (l : List Nat) : (vb l).all (·.oneCell') = true := by
 unfold vb
 rw [List.all_toArray, List.all_eq_true]
 exact fun u hu => byt_one l u hu
theorem bopen_c (A : Option Addr) (cap : Nat) (bs : List Bxo) (kb n : Nat) (kf : Nat → Option (List Nat)) (w : World) (hr : RdX w A bs) (hl : bs.length ≤ 1000) (hkm : KeysAt w kb n (kmV kf)) (hok : ∀ b ∈ bs, OpOk kf b) (hq : QuartersAt w) :
  Calls Tryz.prog 22 #[.map (some kb), .slice A bs.length cap] w (OpenD kf bs w) := by
 obtain ⟨i0, hib, hz0, hz1, hz2⟩ := info_parts grpInfo
 have zf := zero_bx
 have zs1 : zBx.size = 15 := by rfl
 have zs2 : ¬ zBx = #[] := by intro h; have := congrArg Array.size h; rw [zs1] at this; cases this
 have zf2 := zero_keyX
 have zs3 : (vb z32).size = 32 := by rfl
 have zs4 : ¬ vb z32 = #[] := by intro h; have := congrArg Array.size h; rw [zs3] at this; cases this
 have HR := Li hr
 have HL := Li hl
 have HKM := Li hkm
 have HOK := Li hok
 have HQ := Li hq
 have HZK := Li (keySz (L := z32) rfl)
 clear hr hl hkm hok hq
 go_enter Tryz.func22, Tryz.ntmps22
 go_wp2_with fail
 go_loopw [6, 15] (fun av iv wr => ∃ k : Nat, k ≤ bs.length ∧ iv = .int .i64 (k : Nat) ∧ (∃ xs, OpnI w ((bs.take k).map (opB kf)) xs wr av) ∧ ∀ b ∈ bs.take k, kf b.ep ≠ none) (fun _ iv _ => bs.length - (intOf iv).toNat)
 case atStart => exact ⟨0, by omega, rfl, ⟨[], ⟨rfl, .inl ⟨rfl, rfl⟩⟩, jE _ _, GsO.nil_ _ _⟩, fun b hb => by simp at hb⟩
 case round =>
  rename World => wr
  rename_i av _
  obtain ⟨k, hk, rfl, ⟨xs, hI⟩, hall⟩ := hrel
  by_cases hlt : k < bs.length
  ·have q1 : (k : Int) < (bs.length : Int) := by omega
   obtain ⟨ad, Ai, ci, rfl, hab, hat, hci, hrb, hbo⟩ := (HR.out.next hI.bel).box hlt
   obtain ⟨b, hbe⟩ : ∃ b, b = bs.getD k bo0 := ⟨_, rfl⟩
   rw [← hbe] at hat hci hrb hbo
   have hbm : b ∈ bs := by rw [hbe, jA, jB hlt]; exact List.getElem_mem hlt
   have hop := HOK.out b hbm
   have htk0 : bs.take (k + 1) = bs.take k ++ [b] := by
    rw [List.take_add_one, jB hlt, hbe, jA, jB hlt]
    rfl
   have htk : (bs.take (k + 1)).map (opB kf) = (bs.take k).map (opB kf) ++ [opB kf b] := by rw [htk0, List.map_append]; rfl
   have hxl : xs.length ≤ 1000 := by
    rw [hI.gv.len, List.length_map, List.length_take]
    have := HL.out
    omega
   have m2 : (k : Int) ≤ 1000 := by have := HL.out; omega
   have HI := Li hI
   have HALL := Li hall
   have HTK0 := Li htk0
   have HTK := Li htk
   have HXL := Li hxl
   have HLT := Li hlt
   have HBM := Li hbm
   have HOP := Li hop
   obtain ⟨bt, be, bn, bd⟩ := b
   have HBO := Li hbo
   have HLN := Li (bxLn bt be (nn := bn) Ai bd.length ci hbo.nl)
   have HSZ := Li (bxSz bt be (nn := bn) Ai bd.length ci hbo.nl)
   have HZS := Li (show zBx.size = (bxV bt be bn Ai bd.length ci).size by rw [zBx_size]; unfold bxV; rw [List.size_toArray, bxL_len bt be Ai bd.length ci hbo.nl])
   have HAT := Li hat
   have HCI := Li hci
   have HRB := Li hrb
   have HEP := Li hbo.ep
   clear hI hall hlt hk hbm hop htk0 htk hxl hbo hat hci hrb hab hbe
   simp only at HAT HCI HRB HEP
   go_upto_region 5 with (first
    | (refine wpList_loadA rfl 61 (.tmp 17) rfl (ad.add (k * 15)) rfl (bxL bt be bn Ai bd.length ci) _ HAT.out Tryz.underlying61 rfl HLN.out ?_)
    | (refine wpList_store_rowTo rfl 61 (.tmp 8) (.tmp 18) rfl rfl wr.heap.size (bxV bt be bn Ai bd.length ci) rfl rfl 61 zBx (by exact heap_alloc_new _ _) HSZ.out HZS.out (bx_all _ _ _ _ _ _) ?_))
   obtain ⟨Y, hY⟩ : ∃ Y, Y = (wr.alloc (Obj.cells zBx 61)).setRow wr.heap.size (bxV bt be bn Ai bd.length ci) := ⟨_, rfl⟩
   have hnr := new_rowP wr 61 zBx (bxV bt be bn Ai bd.length ci)
   rw [← hY] at hnr ⊢
   have c1 : Y.cell? ⟨wr.heap.size, 1, none⟩ = some (.int .u32 (be : Int)) := (hnr.1.cell 1).trans rfl
   have HX1 := Li hnr.1
   have HI1 := Li (HI.out.next hnr.2)
   have HR1 := Li ((Rd.below HRB.out hnr.2).more hnr.2.size)
   clear hnr hY HI HRB HAT HLN HZS
   generalize wr.heap.size = g1 at *
   have hkm := HKM.out.next HI1.out.bel
   cases hkf : kf be with
   | none =>
    have hrun := look_none hkm HEP.out hkf
    have HN := Li hkf
    clear hkm hkf
    go_upto_region 6 with (refine wpList_store_rowTo rfl 45 (.tmp 9) (.tmp 24) rfl rfl Y.heap.size (vb z32) rfl rfl 45 (vb z32) (by exact heap_alloc_new _ _) HZK.out rfl (vb_all _) ?_)
    obtain ⟨Y2, hY2⟩ : ∃ Y2, Y2 = (Y.alloc (Obj.cells (vb z32) 45)).setRow Y.heap.size (vb z32) := ⟨_, rfl⟩
    have hnr := new_rowP Y 45 (vb z32) (vb z32)
    rw [← hY2] at hnr ⊢
    have HI2 := Li (HI1.out.next hnr.2)
    clear hnr hY2 HI1 HX1 HR1 c1 hrun
    generalize Y.heap.size = g2 at *
    go_wp2_with fail
    try rw [Exit.noGoto_ret]
    refine bodyPost_ret (results_tmp2 rfl _ _ _) rfl ?_
    exact ⟨.inl ⟨⟨_, HBM.out, HN.out⟩, rfl⟩, HI2.out.bel⟩
   | some kk =>
    have hrun := look_some hkm HEP.out hkf
    obtain ⟨hk1, hk2, hk3⟩ := HOP.out.key kk hkf
    have hob : opB kf ⟨bt, be, bn, bd⟩ = opP kk bt be bn bd := by unfold opB; simp only [hkf]
    have HN := Li (show kf be ≠ none by rw [hkf]; intro h; cases h)
    have HOB := Li hob
    have HKS := Li (keySz hk1)
    have HKZ := Li (show (vb z32).size = (vb kk).size by rw [vb_size, vb_size, hk1]; rfl)
    have HKL := Li (show (Tryz.prog.info? 45).map (·.size) = some (byt kk).length by rw [byt_len, hk1]; kernel_rfl)
    have HKO := Li (fun (W : World) (hr : Rd W W.heap.size Ai (byt bd)) (hqq : QuartersAt W) => show Calls Tryz.prog 37 #[.agg (vb kk), .agg (bxV bt be bn Ai bd.length ci)] W fun e w' => ∃ v, e = .returned (.tuple #[v, .int .i64 0]) ∧ OwnP w' W.heap.size v (opP kk bt be bn bd) ∧ Below W.heap.size W w' by
     have h := openBox_c kk bn bd bt be Ai ci W hk1 hk2 HBO.out.nl HBO.out.nb (by have := HOP.out.ts; simp only at this; omega) HEP.out hr HBO.out.bb HCI.out (by have := HOP.out.bs; simpa using this) hqq
     unfold OpenR at h
     simp only at hk3
     rw [hk3] at h
     exact h)
    clear hkm hkf hk1 hk2 hk3 hob
    go_upto_region 6 with (refine wpList_store_rowTo rfl 45 (.tmp 9) (.tmp 24) rfl rfl Y.heap.size (vb kk) rfl rfl 45 (vb z32) (by exact heap_alloc_new _ _) HKS.out HKZ.out (vb_all _) ?_)
    obtain ⟨Y2, hY2⟩ : ∃ Y2, Y2 = (Y.alloc (Obj.cells (vb z32) 45)).setRow Y.heap.size (vb kk) := ⟨_, rfl⟩
    have hnr := new_rowP Y 45 (vb z32) (vb kk)
    rw [← hY2] at hnr ⊢
    have HI2 := Li (HI1.out.next hnr.2)
    have HX2 := Li (HX1.out.below hnr.2 HX1.out.lt)
    have HK2 := Li hnr.1
    have HR2 := Li ((Rd.below HR1.out hnr.2).more hnr.2.size)
    clear hnr hY2 HI1 HX1 HR1 c1 hrun
    generalize Y.heap.size = g2 at *
    have HCO := Li (HKO.out Y2 HR2.out (HQ.out.next HI2.out.bel))
    clear HKO HR2
    go_upto_region 9 with (first
     | (refine wpList_load_row rfl 45 (.tmp 9) rfl g2 rfl 45 (vb kk) (0, 0) _ HK2.out Tryz.underlying45 rfl HKS.out ?_)
     | (refine wpList_load_row rfl 61 (.tmp 8) rfl g1 rfl 61 (bxV bt be bn Ai bd.length ci) (0, 0) _ HX2.out Tryz.underlying61 rfl HSZ.out ?_)
     | (go_at_call 37; (with_reducible refine HCO.out.mono ?_); rintro e W3 ⟨v3, rfl, ho, hb⟩; obtain ⟨A3, c3, rfl, hc3, _, r3⟩ := ho.rd; have HI3 := Li (HI2.out.next hb); have HR3 := Li (show RdP W3 W3.heap.size A3 (opP kk bt be bn bd) from r3); have HC3 := Li hc3; have HAP3 := Li (apart_new (v := .slice A3 (opP kk bt be bn bd).length c3) HI2.out.own ho (jD _) rfl); clear ho hb r3 hc3))
    rw [HOB.out] at HTK
    clear HI2 HX2 HK2 HCO
    generalize opP kk bt be bn bd = pl at *
    go_wp2_with (first
     | (refine wpList_l1 (.tmp 38) rfl A3 pl.length c3 rfl rfl ?_)
     | (at_builtin; refine wpList_app _ rfl (.tmp 37) (.tmp 39) _ rfl w.heap.size 31 i0 (.slice none 0 0) 1 24 Tryz.underlying22 hib hz0 hz1 hz2 rfl (by decide) _ _ xs rfl (HI3.out.own.alloc _) _ (some ⟨W3.heap.size, 0, none⟩) 1 1 [.slice A3 pl.length c3] rfl rfl (by exact rd_new W3 [.slice A3 pl.length c3] _ (0, 0)) (by intro u hu; rw [List.mem_singleton.1 hu]; rfl) (by have := HXL.out; omega) (by have := HXL.out; omega) (by have := HI3.out.bel.size; simp; omega) ?_
        intro v' w4 hap
        have HAP := Li hap
        clear hap))
    go_roundw
    case rel =>
     have hal : Below W3.heap.size W3 (W3.alloc (.cells #[.slice A3 pl.length c3] 31)) := (jE _ _).alloc (jD _) _
     have hbel : Below w.heap.size W3 w4 := ((jE _ _).alloc HI3.out.bel.size _).trans (HAP.out.below (HI3.out.own.alloc _) (by have := HI3.out.bel.size; simp; omega))
     refine ⟨k + 1, HLT.out, by go_num, ⟨xs ++ [.slice A3 pl.length c3], OwnG.snoc HAP.out, HI3.out.bel.trans hbel, ?_⟩, ?_⟩
     ·rw [HTK.out]
      exact GsO.snoc (HI3.out.gv.next hal) HC3.out ((Rd.below (show Rd W3 W3.heap.size A3 (pcs pl) from HR3.out) hal).more hal.size) HAP3.out HAP.out.grown HAP.out.lies
     ·rw [HTK0.out]
      intro b hb
      rcases List.mem_append.1 hb with h | h
      ·exact HALL.out b h
      ·rw [List.mem_singleton.1 h]; exact HN.out
    case measure => have := HLT.out; simp [intOf]; omega
  ·obtain rfl : k = bs.length := by omega
   rw [List.take_length] at hI hall
   obtain ⟨B, c, rfl, hcB, hls⟩ := ls_of hI.own hI.gv.gv
   have hml := merge_c B c (bs.map (opB kf)) wr hls hcB (by rw [List.length_map]; exact HL.out) (fun L hL => by
    obtain ⟨b, hb, rfl⟩ := List.mem_map.1 hL
    exact ⟨(HOK.out b hb).len, (HOK.out b hb).pcs⟩)
   have HML := Li hml
   have HB := Li hI.bel
   have HALL := Li hall
   clear hml hI hall hls hcB hlt hk
   generalize (bs.map (opB kf)).length = nl at *
   go_wp2_with (go_at_call 25; (with_reducible refine HML.out.mono ?_); rintro e W2 ⟨v, rfl, ho, hb⟩; have HO := Li (own_base_le ho HB.out.size); have HB2 := Li (HB.out.trans (hb.mono HB.out.size)); clear ho hb)
   refine bodyPost_ret (results_tmp2 rfl _ _ _) rfl ?_
   exact ⟨.inr ⟨HALL.out, _, rfl, HO.out⟩, HB2.out⟩
structure BsQ (W : World) (P : Nat → Prop) (us : List (List Value)) (bs : List Bxo) : Prop where
 len : us.length = bs.length
 at_ : ∀ i, i < bs.length → ∃ A c, us.getD i [] = bxL (bs.getD i bo0).t (bs.getD i bo0).ep (bs.getD i bo0).nn A (bs.getD i bo0).body.length c ∧ (bs.getD i bo0).body.length ≤ c ∧ Rd W W.heap.size A (byt (bs.getD i bo0).body) ∧ ∀ ad, A = some ad → byt (bs.getD i bo0).body ≠ [] → P ad.block
 ok : ∀ b ∈ bs, BoOk b
theorem BsQ.nil_ (W : World) (P : Nat → Prop) : BsQ W P [] [] := ⟨rfl, fun i hi => by simp at hi, fun b hb => by cases hb⟩
theorem BsQ.bv {W : World} {P : Nat → Prop} {us : List (List Value)} {bs : List Bxo} (h : BsQ W P us bs) : BsV W us bs := ⟨h.len, fun i hi => by
 obtain ⟨A, c, h1, h2, h3, _⟩ := h.at_ i hi
 exact ⟨A, c, h1, h2, h3⟩, h.ok⟩
theorem BsQ.next {W W' : World} {P : Nat → Prop} {us : List (List Value)} {bs : List Bxo} (h : BsQ W P us bs) (hb : Below W.heap.size W W') : BsQ W' P us bs := ⟨h.len, fun i hi => by
 obtain ⟨A, c, h1, h2, h3, h4⟩ := h.at_ i hi
 exact ⟨A, c, h1, h2, (h3.below hb).more hb.size, h4⟩, h.ok⟩
theorem BsQ.imp {W : World} {P P' : Nat → Prop} {us : List (List Value)} {bs : List Bxo} (h : BsQ W P us bs) (hp : ∀ b, b < W.heap.size → P b → P' b) : BsQ W P' us bs := ⟨h.len, fun i hi => by
 obtain ⟨A, c, h1, h2, h3, h4⟩ := h.at_ i hi
 refine ⟨A, c, h1, h2, h3, fun ad e hne => ?_⟩
 obtain ⟨ad', e', hb, _⟩ := h3 hne
 rw [e] at e'
 injection e' with e'
 subst e'
 exact hp _ hb (h4 ad e hne), h.ok⟩
theorem BsQ.grown {W W' : World} {o : Option Nat} {P : Nat → Prop} {us : List (List Value)} {bs : List Bxo} (h : BsQ W P us bs) (hg : W.grownBy W' o) (hp : ∀ b, P b → some b ≠ o) : BsQ W' P us bs := ⟨h.len, fun i hi => by
 obtain ⟨A, c, h1, h2, h3, h4⟩ := h.at_ i hi
 refine ⟨A, c, h1, h2, fun hne => ?_, h4⟩
 obtain ⟨ad, e, hb, hat⟩ := h3 hne
 refine ⟨ad, e, jH hb hg.size, fun j u hu => ?_⟩
 rw [← hat j u hu]
 exact World.cell?_of_block (hg.block _ (by rw [add_block]; exact hb) (by rw [add_block]; exact hp _ (h4 ad e hne))), h.ok⟩
theorem BsQ.snoc {W : World} {P : Nat → Prop} {us : List (List Value)} {bs : List Bxo} {b : Bxo} {A : Option Addr} {c : Nat} (h : BsQ W P us bs) (hc : b.body.length ≤ c) (hr : Rd W W.heap.size A (byt b.body)) (ha : ∀ ad, A = some ad → byt b.body ≠ [] → P ad.block) (hok : BoOk b) : BsQ W P (us ++ [bxL b.t b.ep b.nn A b.body.length c]) (bs ++ [b]) := by
 refine ⟨by simp [h.len], fun i hi => ?_, fun x hx => ?_⟩
 ·by_cases hlt : i < bs.length
  ·have e : (bs ++ [b]).getD i bo0 = bs.getD i bo0 := by rw [jA, List.getElem?_append_left hlt, jA]
   have e1 : (us ++ [bxL b.t b.ep b.nn A b.body.length c]).getD i [] = us.getD i [] := by rw [jA, List.getElem?_append_left (by rw [h.len]; exact hlt), jA]
   rw [e, e1]
   exact h.at_ i hlt
  ·have hi' : i = bs.length := by simp at hi; omega
   subst hi'
   have e : (bs ++ [b]).getD bs.length bo0 = b := by rw [jA, List.getElem?_append_right (jD _)]; simp
   have e1 : (us ++ [bxL b.t b.ep b.nn A b.body.length c]).getD bs.length [] = bxL b.t b.ep b.nn A b.body.length c := by rw [← h.len, jA, List.getElem?_append_right (jD _)]; simp
   rw [e, e1]
   exact ⟨A, c, rfl, hc, hr, ha⟩
 ·rcases List.mem_append.1 hx with h1 | h1
  ·exact h.ok x h1
  ·rw [List.mem_singleton.1 h1]; exact hok
theorem own_where {W : World} {base : Nat} {e : TypeId} {sz n : Nat} {v : Value} {xs : List Value} (h : W.ownsRow base e sz v n xs) {A : Option Addr} {m c : Nat} (hA : v = .slice A m c) : ∀ ad, A = some ad → v.ownBlock = some ad.block := fun ad ea => by
 rcases h.2 with ⟨e3, _⟩ | ⟨g, cap, cur, e3, _⟩
 ·rw [hA] at e3
  injection e3 with e3 _ _
  rw [ea] at e3
  cases e3
 ·rw [hA] at e3
  injection e3 with e3 _ _
  rw [ea] at e3
  injection e3 with e3
  subst e3
  rw [hA, ea]
  rfl
theorem own_new {W : World} {base : Nat} {e : TypeId} {sz n : Nat} {v : Value} {xs : List Value} (h : W.ownsRow base e sz v n xs) {A : Option Addr} {m c : Nat} (hA : v = .slice A m c) : ∀ ad, A = some ad → base ≤ ad.block := fun ad ea => own_base h _ (own_where h hA ad ea)
theorem bx_oneCell (t : ByteArray) (ep : Nat) (nn : List Nat) (A : Option Addr) (n c : Nat) : ∀ u ∈ bxL t ep nn A n c, u.oneCell' = true := by
 have h := bx_all t ep nn A n c
 unfold bxV at h
 rw [List.all_toArray, List.all_eq_true] at h
 exact h
theorem OwnX.alloc {w : World} {base : Nat} {v : Value} {us : List (List Value)} (h : OwnX w base v us) (o : Obj) : OwnX (w.alloc o) base v us := World.ownsRow.alloc h o
def AheadOf (p : Pc) (M : List Pc) (at_ : Nat) : Prop := ∀ j, j < at_ → okPair (M.getD j pc0) p = true
theorem ahead_cons {p q : Pc} {M : List Pc} {k : Nat} (h : AheadOf p (q :: M) (k + 1)) : okPair q p = true ∧ AheadOf p M k := ⟨h 0 (by omega), fun j hj => h (j + 1) (by omega)⟩
theorem ins_end {p : Pc} : ∀ {M : List Pc}, AheadOf p M M.length → insP p M = M ++ [p]
 | [], _ => rfl
 | q :: M, h => by
  obtain ⟨h1, h2⟩ := ahead_cons (M := M) (k := M.length) h
  have h3 : samePl q p = false := by
   cases hs : samePl q p with
   | false => rfl
   | true => rw [okPair_irr q p hs] at h1; cases h1
  rw [insP, h3, if_neg (by simp), if_pos h1, ins_end h2]
  rfl
theorem ins_mid {p : Pc} : ∀ {M : List Pc} {k : Nat}, k < M.length → AheadOf p M k → okPair (M.getD k pc0) p = false → samePl (M.getD k pc0) p = false → insP p M = M.take k ++ [p] ++ M.drop k
 | [], k, hk, _, _, _ => by simp at hk
 | q :: M, 0, _, _, h1, h2 => by
  rw [List.getD_cons_zero] at h1 h2
  rw [insP, h2, if_neg (by simp), h1, if_neg (by simp)]
  rfl
 | q :: M, k + 1, hk, h, h1, h2 => by
  obtain ⟨h3, h4⟩ := ahead_cons h
  rw [List.getD_cons_succ] at h1 h2
  have h5 : samePl q p = false := by
   cases hs : samePl q p with
   | false => rfl
   | true => rw [okPair_irr q p hs] at h3; cases h3
  rw [insP, h5, if_neg (by simp), if_pos h3, ins_mid (by simpa using hk) h4 h1 h2]
  rfl
theorem ins_same {p : Pc} : ∀ {M : List Pc} {k : Nat}, k < M.length → AheadOf p M k → samePl (M.getD k pc0) p = true → insP p M = if better p (M.getD k pc0) then M.set k p else M
 | [], k, hk, _, _ => by simp at hk
 | q :: M, 0, _, _, h2 => by
  rw [List.getD_cons_zero] at h2 ⊢
  rw [insP, if_pos h2]
  rfl
 | q :: M, k + 1, hk, h, h2 => by
  obtain ⟨h3, h4⟩ := ahead_cons h
  rw [List.getD_cons_succ] at h2 ⊢
  have h5 : samePl q p = false := by
   cases hs : samePl q p with
   | false => rfl
   | true => rw [okPair_irr q p hs] at h3; cases h3
  rw [insP, h5, if_neg (by simp), if_pos h3, ins_same (by simpa using hk) h4 h2]
  split <;> rfl
theorem better_abv (p q : Pc) : better p q = (abvB p.n p.d q.n q.d || ((p.n == q.n) && (p.d == q.d)) && decide (q.v < p.v)) := by
 rw [Bool.eq_iff_iff, better_iff]
 unfold abvB
 simp only [Bool.or_eq_true, Bool.and_eq_true, decide_eq_true_eq, beq_iff_eq]
 omega
theorem pcs_setP : ∀ (l : List Pc) (k : Nat) (p : Pc) (rest : List Value) (_ : k < l.length),
  (((((pcs l ++ rest).set (k * 5) (.string p.s)).set (k * 5 + 1) (.int .i64 p.t)).set (k * 5 + 2) (.int .i64 p.v)).set (k * 5 + 3) (.int .u64 (p.n : Int))).set (k * 5 + 4) (.int .u16 (p.d : Int)) = pcs (l.set k p) ++ rest
 | [], _, _, _, h => by simp at h
 | q :: l, 0, p, rest, _ => rfl
 | q :: l, k + 1, p, rest, h => by
  have ih := pcs_setP l k p rest (by simpa using h)
  have key : ∀ (X : List Value) (i : Nat) (u : Value), (pcL q ++ X).set ((k + 1) * 5 + i) u = pcL q ++ X.set (k * 5 + i) u := fun X i u => by
   rw [show (k + 1) * 5 + i = (pcL q).length + (k * 5 + i) by simp [pcL]; omega, List.set_append_right _ _ (by omega), Nat.add_sub_cancel_left]
  have k0 := key (pcs l ++ rest) 0 (.string p.s)
  rw [Nat.add_zero, Nat.add_zero] at k0
  rw [sS, pcs_cons, pcs_cons, List.append_assoc, k0, key, key, key, key, Nat.add_zero, ih, List.append_assoc]
theorem setCells_blk (T : TypeId) (g : Nat) : ∀ (vs : List Value) (o : Nat) (w : World) (cs : Array Value), Blk w g T cs → ∃ cs', cs' = (vs.zipIdx o).foldl (fun c x => c.setIfInBounds x.2 x.1) cs ∧ Blk (w.setCells g o vs) g T cs'
 | [], _, _, _, h => ⟨_, rfl, h⟩
 | v :: vs, o, w, cs, h => by
  rw [World.setCells]
  obtain ⟨cs', e, h2⟩ := setCells_blk T g vs (o + 1) _ _ (h.set_ o v)
  exact ⟨cs', e, h2⟩
theorem setCells_only (g : Nat) : ∀ (vs : List Value) (o : Nat) (w : World), Only (fun i => i = g) w (w.setCells g o vs)
 | [], _, w => Only.refl _ _
 | v :: vs, o, w => by
  rw [World.setCells]
  exact ((Only.refl (fun i => i = g) w).setCell (p := ⟨g, o, none⟩) (fun _ => rfl) v).trans (setCells_only g vs (o + 1) _)
theorem blk_setP {w : World} {g : Nat} {l : List Pc} {rest : List Value} (h : Blk w g 77 (pcs l ++ rest).toArray) (k : Nat) (hk : k < l.length) (p : Pc) : Blk (w.setCells g (k * 5) (pcL p)) g 77 (pcs (l.set k p) ++ rest).toArray := by
 obtain ⟨cs', e, h2⟩ := setCells_blk 77 g (pcL p) (k * 5) w _ h
 have e2 : cs' = (pcs (l.set k p) ++ rest).toArray := by
  rw [e, ← pcs_setP l k p rest hk]
  simp [pcL, List.zipIdx_cons]
 rw [← e2]
 exact h2
theorem wpQuiet_loadV {P : Program} {ops : Array Oper} {C : World → Prop} {Q : Act → Prop} {a : Act} {o : Oper} {rest : List Oper} (hw : Region.wanted o (yielded ops a.tmps) = true) (ty : TypeId) (x : Operand) (ho : o.op = .load ty x) (b off : Nat) (hx : a.eval x = .pointer (some ⟨b, off, none⟩))
  (cs : Array Value) (d : TypeDesc) (hC : ∀ w, C w → w.rangeAt b off cs.toList) (hu : P.underlying ty = some d) (hd : d.isRow = true) (hi : (P.info? ty).map (·.size) = some cs.toList.length)
  (a' : Act) (ha : a.put o.dst (.agg cs) = a') (h : wpQuiet P ops C Q rest a') : wpQuiet P ops C Q (o :: rest) a := by
 refine BigFrame.wpQuiet_want hw fun K hK => ⟨.agg cs, fun w hw' => ?_, ?_⟩
 ·unfold Oper.quietAt execOp
  simp only [ho, hx, Instr.loadAt, Instr.sureAddr, Sem.run_bind, Sem.run_pure, Result.andThen_ok, run_loadVar_mid w b off ty cs.toList d (hC w hw') hu hd hi, Array.toArray_toList]
  exact ⟨rfl, rfl⟩
 ·rw [ha]; exact hK _ h
theorem ext_rangeV {w0 : World} {b off : Nat} {cs : List Value} (h : w0.rangeAt b off cs) : ∀ w, (∃ x : Ext w0, w = x.wd) → w.rangeAt b off cs := by
 rintro _ ⟨x, rfl⟩ j u hu
 exact x.cell (h j u hu)
theorem tk5 {M : List Pc} {k : Nat} (h : k ≤ M.length) : (pcs (M.take k)).length = k * 5 := by
 rw [pcs_len, List.length_take, Nat.min_eq_left h]
theorem dr5 (M : List Pc) (k : Nat) : (pcs (M.drop k)).length = (M.length - k) * 5 := by
 rw [pcs_len, List.length_drop]
theorem app_takeN {w w' : World} {base : Nat} {v v' : Value} {M : List Pc} {k : Nat} (h : Apped w base 77 5 v w' v' (0 + k) ([] ++ pcs (M.take k))) (hk : k ≤ M.length) : OwnP w' base v' (M.take k) := by
 have h1 := h.own
 unfold OwnP
 rw [List.length_take, Nat.min_eq_left hk]
 rwa [Nat.zero_add, List.nil_append] at h1
theorem app_dropN {w w' : World} {base : Nat} {v v' : Value} {M L : List Pc} {k : Nat} (h : Apped w base 77 5 v w' v' (L.length + (M.length - k)) (pcs L ++ pcs (M.drop k))) : OwnP w' base v' (L ++ M.drop k) := by
 have h1 := h.own
 unfold OwnP
 rw [jC, List.length_drop, pcs_app]
 exact h1
theorem own_forms {w : World} {base : Nat} {v : Value} {l : List Pc} (h : OwnP w base v l) : (v = .slice none 0 0 ∧ l = []) ∨ ∃ g c, v = .slice (some ⟨g, 0, none⟩) l.length c ∧ base ≤ g ∧ l.length ≤ c ∧ c ≤ maxLen ∧ g < w.heap.size ∧ AtA w ⟨g, 0, none⟩ (pcs l) := by
 rcases h.2 with ⟨h1, h2⟩ | ⟨g, cap, cur, e, hb, hh, hn, hm, hc, ht⟩
 ·exact .inl ⟨h1, List.eq_nil_of_length_eq_zero h2⟩
 ·refine .inr ⟨g, cap, e, hb, hn, hm, (Array.getElem?_eq_some_iff.1 hh).1, fun j u hu => ?_⟩
  have hj : j < l.length * 5 := by
   rcases Nat.lt_or_ge j (l.length * 5) with h1 | h1
   ·exact h1
   ·rw [List.getElem?_eq_none (by rw [pcs_len]; exact h1)] at hu; cases hu
  rw [Addr.add_mid, Nat.zero_add]
  refine cellOf hh ?_
  rw [← ht, List.getElem?_take_of_lt hj] at hu
  simpa using hu
theorem blk_there {w : World} {g : Nat} {T : TypeId} {cs : Array Value} (h : Blk w g T cs) (o n : Nat) (ho : o + n ≤ cs.size) : w.there g o n := fun j hj => by
 have h' : w.heap[g]? = some (.cells cs T (0, 0)) := h
 refine ⟨?_, ?_⟩
 ·rw [h.cell, Array.getElem?_eq_getElem (by omega)]; rfl
 ·unfold World.frozen?; simp [h']
theorem own_set {w : World} {base g c k : Nat} {M : List Pc} {p : Pc} (h : OwnP w base (.slice (some ⟨g, 0, none⟩) M.length c) M) (hk : k < M.length) (hbs : base ≤ w.heap.size) :
  w.there g (k * 5) 5 ∧ OwnP (w.setCells g (k * 5) (pcL p)) base (.slice (some ⟨g, 0, none⟩) M.length c) (M.set k p) ∧ Below base w (w.setCells g (k * 5) (pcL p)) := by
 rcases h.2 with ⟨h1, h2⟩ | ⟨g', cap, cur, e, hb, hh, hn, hm, hc, ht⟩
 ·cases h1
 ·cases e
  have e1 : cur = (pcs M ++ cur.toList.drop (M.length * 5)).toArray := by
   rw [← ht, List.take_append_drop]
  have hB : Blk w g 77 (pcs M ++ cur.toList.drop (M.length * 5)).toArray := by
   rw [← e1]; exact hh
  have hS := blk_setP hB k hk p
  refine ⟨blk_there hB (k * 5) 5 (by simp [pcs_len]; omega), ⟨?_, .inr ⟨g, c, _, ?_, hb, hS, ?_, hm, ?_, ?_⟩⟩, (setCells_only g (pcL p) (k * 5) w).below (fun i hi => by rw [hi]; exact hb) hbs⟩
  ·rw [pcs_len]
  ·rw [List.length_set]
  ·rw [List.length_set]; exact hn
  ·rw [← hc, e1]; simp [pcs_len]
  ·rw [List.length_set]
   show List.take (M.length * 5) (pcs (M.set k p) ++ _) = _
   rw [List.take_left' (by rw [pcs_len, List.length_set])]
theorem AtA.timP {w : World} {a : Addr} {p : Pc} (h : AtA w a (pcL p)) : w.cell? ⟨a.block, a.off + 1, none⟩ = some (.int .i64 p.t) := h 1 _ rfl
theorem AtA.valP {w : World} {a : Addr} {p : Pc} (h : AtA w a (pcL p)) : w.cell? ⟨a.block, a.off + 2, none⟩ = some (.int .i64 p.v) := h 2 _ rfl
theorem AtA.idP {w : World} {a : Addr} {p : Pc} (h : AtA w a (pcL p)) : w.rangeAt a.block (a.off + 3) (idV p.n p.d).toList := fun j u hu => by
 match j with
 | 0 => rw [← hu]; exact h 3 _ rfl
 | 1 => rw [← hu]; exact h 4 _ rfl
 | n + 2 => simp [idV] at hu
theorem wpQuiet_loadO {P : Program} {ops : Array Oper} {C : World → Prop} {Q : Act → Prop} {a : Act} {o : Oper} {rest : List Oper} (ty : TypeId) (x : Operand) (ho : o.op = .load ty x) (b off : Nat) (hx : a.eval x = .pointer (some ⟨b, off, none⟩))
  (l : Array Value) (d : TypeDesc) (hC : ∀ w, C w → w.rangeAt b off l.toList) (hu : P.underlying ty = some d) (hd : d.isRow = true) (hi : (P.info? ty).map (·.size) = some l.size)
  (hw : Region.wanted o (yielded ops a.tmps) = true) (a' : Act) (ha : a.put o.dst (.agg l) = a') (h : wpQuiet P ops C Q rest a') : wpQuiet P ops C Q (o :: rest) a :=
 wpQuiet_loadV hw ty x ho b off hx l d hC hu hd hi a' ha h
theorem ahead_succ {p : Pc} {M : List Pc} {k : Nat} (h : AheadOf p M k) (h1 : okPair (M.getD k pc0) p = true) : AheadOf p M (k + 1) := fun j hj => by
 rcases Nat.lt_or_ge j k with h2 | h2
 ·exact h j h2
 ·rw [show j = k by omega]; exact h1
theorem rmerge_c (A : Option Addr) (cap : Nat) (l : List Pc) (w : World) (hr : RdP w w.heap.size A l) (hl : l.length ≤ 100000) (hk : ∀ p ∈ l, PcOk p ∧ p.s.size ≤ 9223372036854775807) :
  Calls Tryz.prog 19 #[.slice A l.length cap] w fun e w' => ∃ v, e = .returned v ∧ OwnP w' w.heap.size v (mergeL l) ∧ Below w.heap.size w w' := by
 obtain ⟨i0, hi, hz0, hz1, hz2⟩ := piece_parts
 have zf := zero_pc
 have zs1 : zPc.size = 5 := by rfl
 have zs2 : ¬ zPc = #[] := by intro h; have := congrArg Array.size h; rw [zs1] at this; cases this
 have HR := Li hr
 have HK := Li hk
 clear hr hk
 go_enter Tryz.func19, Tryz.ntmps19
 go_wp2_with fail
 go_loopw [3, 4] (fun ov iv wr => ∃ i : Nat, i ≤ l.length ∧ iv = .int .i64 (i : Nat) ∧ OwnP wr w.heap.size ov (mgTo [] (l.take i)) ∧ Below w.heap.size w wr) (fun _ iv _ => l.length - (intOf iv).toNat)
 case atStart => exact ⟨0, Nat.zero_le _, rfl, OwnP.nilM _ _, jE _ _⟩
 case round =>
  rename World => wr
  obtain ⟨i, hil, rfl, ho, hb⟩ := hrel
  by_cases hlt : i < l.length
  ·have q1 : (i : Int) < (l.length : Int) := by omega
   obtain ⟨al, rfl, hab, hat⟩ := (show RdP wr w.heap.size A l from Rd.below HR.out hb).open_ (by omega)
   obtain ⟨p, hpe⟩ : ∃ p, p = l.getD i pc0 := ⟨_, rfl⟩
   have hpa := hat.piece i hlt
   rw [← hpe] at hpa
   have hpL : p ∈ l := by rw [hpe, jA, jB hlt]; exact List.getElem_mem hlt
   obtain ⟨hpk, hps⟩ := HK.out p hpL
   have htk : mgTo [] (l.take (i + 1)) = if ckP p then insP p (mgTo [] (l.take i)) else mgTo [] (l.take i) := by rw [take_snocP l i hlt, mgTo_snoc, hpe]
   have hML : (mgTo [] (l.take i)).length ≤ i := by
    have := mgTo_len (l.take i) []
    rw [List.length_take] at this
    simp at this
    omega
   generalize mgTo [] (l.take i) = M at *
   have HPA := Li hpa
   have HO := Li ho
   have HB := Li hb
   have HIL := Li hlt
   have HRC := Li (fun W => rpcheck_c p W hps)
   clear hat hpe hpa hpL hpk hps ho hb hab
   go_upto_region 6 with (first
    | (refine wpList_loadA rfl 77 (.tmp 16) rfl (al.add (i * 5)) rfl (pcL p) _ HPA.out Tryz.underlying77 rfl (pcLn p) ?_)
    | (refine wpList_store_rowTo rfl 77 (.tmp 5) (.tmp 17) rfl rfl wr.heap.size (pcV p) rfl rfl 77 zPc (by exact heap_alloc_new _ _) (pcInfo p) rfl (pcV_one p) ?_))
   obtain ⟨Y, hY⟩ : ∃ Y, Y = (wr.alloc (Obj.cells zPc 77)).setRow wr.heap.size (pcV p) := ⟨_, rfl⟩
   have hnr := new_rowP wr 77 zPc (pcV p)
   rw [← hY] at hnr ⊢
   have HG0 := Li hnr.1
   have HBY := Li (HB.out.trans (hnr.2.mono HB.out.size))
   have HOY := Li (HO.out.next hnr.2)
   clear hnr hY HPA HO HB
   generalize wr.heap.size = g1 at *
   by_cases hck : ckP p = true
   ·rw [if_pos hck] at htk
    have HTK := Li htk
    rw [hck] at HRC
    clear htk hck hlt
    go_upto_region 7 with (first
     | (refine wpList_loadA rfl 77 (.tmp 5) rfl ⟨g1, 0, none⟩ rfl (pcL p) _ (atA_blk HG0.out) Tryz.underlying77 rfl (pcLn p) ?_)
     | (go_at_call 30; (refine (HRC.out Y).mono ?_); rintro e Y2 ⟨rfl, hb⟩; have HYY := Li hb; clear hb))
    have HG2 := Li (HG0.out.below HYY.out HG0.out.lt)
    have HB2 := Li (HBY.out.trans (HYY.out.mono HBY.out.size))
    have HO2 := Li (HOY.out.next HYY.out)
    clear HG0 HBY HOY HYY HRC
    rcases own_forms HO2.out with ⟨rfl, hM0⟩ | ⟨g, c, rfl, hgb, hnc, hcm, hgl, hat⟩
    ·-- nothing yet
     have HE := Li hM0
     subst hM0
     go_wp2_with fail
     go_loopw [6] (fun kv wq => kv = .int .i64 0 ∧ Below Y2.heap.size Y2 wq) (fun _ _ => 0)
     case atStart => exact ⟨rfl, jE _ _⟩
     case round =>
      rename World => wq
      obtain ⟨rfl, hbq⟩ := hrel
      go_upto_region 8 with fail
      go_quiet (fail)
      have hbz := belowDrewN nq hbq
      generalize wq.drewN nq = Yz at *
      go_upto_region 10 with fail
      go_quiet (fail)
      have hby := belowDrewN nq hbz
      generalize Yz.drewN nq = Yq at *
      have HG1 := Li (HG2.out.below hby HG2.out.lt)
      have HBQ := Li (HB2.out.trans (hby.mono HB2.out.size))
      clear hbq hbz hby
      have hi9 := HIL.out
      go_wp2_with (first
       | (at_builtin; refine wpList_app _ rfl (.tmp 113) (.tmp 116) _ rfl Yq.heap.size 77 i0 (.agg zPc) 5 48 Tryz.underlying31 hi hz0 hz1 hz2 rfl (by decide) _ 0 [] rfl (OwnP.nilM _ _) Yq.heap.size none 0 0 (pcs (([] : List Pc).take 0)) rfl rfl (by exact Rd.nil_ _ _ _) (pcs_oneCell _) (by omega) (by omega) (jD _) ?_
          intro v1 U1 hap
          have HU1 := Li (hap.below (OwnP.nilM _ _) (jD _))
          have HV1 := Li (app_takeN (M := []) hap (jD 0))
          clear hap)
       | (refine wpList_loadA rfl 77 (.tmp 5) rfl ⟨g1, 0, none⟩ rfl (pcL p) _ (atA_blk (HG1.out.below HU1.out HG1.out.lt)) Tryz.underlying77 rfl (pcLn p) ?_)
       | (refine wpList_valM rfl _ _ (run_onePc U1 p (.tmp 119) rfl (by kernel_rfl)) ?_)
       | (at_builtin; refine wpList_app _ rfl (.tmp 118) (.tmp 120) _ rfl Yq.heap.size 77 i0 (.agg zPc) 5 48 Tryz.underlying31 hi hz0 hz1 hz2 rfl (by decide) _ (([] : List Pc).take 0).length (pcs (([] : List Pc).take 0)) rfl (HV1.out.allocM _) _ (some ⟨U1.heap.size, 0, none⟩) 1 1 (pcs [p]) rfl rfl (by exact rd_new U1 (pcs [p]) 77 (0, 0)) (pcs_oneCell _) (by decide) (by decide) (by have := HU1.out.size; simp; omega) ?_
          intro v2 U2 hap
          have HU2 := Li ((HU1.out.alloc HU1.out.size _).trans (hap.below (HV1.out.allocM _) (by have := HU1.out.size; simp; omega)))
          have HV2 := Li (OwnP.appM (l := ([] : List Pc).take 0) (m := [p]) hap)
          clear hap)
       | (at_builtin; refine wpList_app _ rfl (.tmp 122) (.tmp 125) _ rfl Yq.heap.size 77 i0 (.agg zPc) 5 48 Tryz.underlying31 hi hz0 hz1 hz2 rfl (by decide) _ (([] : List Pc).take 0 ++ [p]).length (pcs (([] : List Pc).take 0 ++ [p])) rfl HV2.out Yq.heap.size none (0) 0 (pcs (([] : List Pc).drop 0)) rfl rfl (by exact Rd.nil_ _ _ _) (pcs_oneCell _) (by simp) (by simp) HU2.out.size ?_
          intro v3 U3 hap
          have HU3 := Li (HU2.out.trans (hap.below HV2.out HU2.out.size))
          have HV3 := Li (app_dropN (M := []) (k := 0) hap)
          clear hap))
      go_roundw
      case rel =>
       refine ⟨i + 1, by have := HIL.out; omega, by go_num, ?_, HBQ.out.trans (HU3.out.mono HBQ.out.size)⟩
       have h := own_base_le HV3.out HBQ.out.size
       rw [HTK.out]
       exact h
      case measure => have := HIL.out; simp [intOf]; omega
    ·obtain ⟨ad, had⟩ : ∃ ad : Addr, ad = ⟨g, 0, none⟩ := ⟨_, rfl⟩
     have HAD := Li had
     have hO := HO2.out
     have hga : ad.block < Y2.heap.size := by rw [had]; exact hgl
     rw [← had] at hO hat ⊢
     have HO3 := Li hO
     have HAT := Li hat
     have HGA := Li hga
     have hcI : (c : Int) ≤ 9223372036854775807 := by unfold maxLen at hcm; omega
     have hi9 := HIL.out
     clear HO2 hO hat had hgb hgl hga hcm
     go_wp2_with fail
     go_loopw [6] (fun kv wq => ∃ k : Nat, k ≤ M.length ∧ kv = .int .i64 (k : Nat) ∧ AheadOf p M k ∧ Below Y2.heap.size Y2 wq) (fun kv _ => M.length - (intOf kv).toNat)
     case atStart => exact ⟨0, Nat.zero_le _, rfl, fun j hj => absurd hj (Nat.not_lt_zero j), jE _ _⟩
     case round =>
      rename World => wq
      obtain ⟨k, hkl, rfl, hah, hbq⟩ := hrel
      by_cases hlt : k < M.length
      ·have q1 : (k : Int) < (M.length : Int) := by omega
       have r6 : (k : Int) ≤ (c : Int) := by omega
       have r7 : (k : Int) ≤ (M.length : Int) := by omega
       have r8 : (0 : Int) ≤ (k : Int) := by omega
       have r9 : decide ((k : Int) < 0) = false := jG (by omega)
       have rA : ¬ c = k := by omega
       have hqa := (show AtA wq (ad.add (k * 5)) (pcL (M.getD k pc0)) from (HAT.out.below hbq HGA.out).piece k hlt)
       have HIM := Li (fun h1 h2 => ins_mid hlt hah h1 h2)
       have HIS := Li (ins_same hlt hah)
       have HAS := Li (ahead_succ hah)
       have HQA := Li hqa
       have HPR := Li (show okPair (M.getD k pc0) p = (Op.bytesLess (M.getD k pc0).s.toList p.s.toList || ((M.getD k pc0).s.toList == p.s.toList && decide ((M.getD k pc0).t < p.t))) from rfl)
       have HSP := Li (show samePl (M.getD k pc0) p = (((M.getD k pc0).s.toList == p.s.toList) && ((M.getD k pc0).t == p.t)) from rfl)
       have HBQ0 := Li hbq
       have HLT := Li hlt
       clear hqa hah hbq hlt hkl
       generalize M.getD k pc0 = q at *
       have e0 := HQA.out.ser
       have e1 := HQA.out.timP
       have HPA := Li (atA_blk (HG2.out.below HBQ0.out HG2.out.lt))
       have e2 : wq.cell? ⟨g1, 0, none⟩ = some (.string p.s) := HPA.out.ser
       have e3 : wq.cell? ⟨g1, 1, none⟩ = some (.int .i64 p.t) := HPA.out.timP
       rcases (show Op.bytesLess q.s.toList p.s.toList = true ∨ Op.bytesLess q.s.toList p.s.toList = false by cases Op.bytesLess q.s.toList p.s.toList <;> simp) with hL | hL
       ·have HA1 := Li (HAS.out (by rw [HPR.out, hL]; rfl))
        go_upto_region 8 with fail
        go_quiet (fail)
        have HBZ := Li (HBQ0.out.trans (belowDrewN nq (jE _ _) |>.mono HBQ0.out.size))
        generalize wq.drewN nq = Yz at *
        go_wp2_with fail
        go_roundw
        case rel => exact ⟨k + 1, HLT.out, by go_num, HA1.out, HBZ.out⟩
        case measure => have := HLT.out; simp [intOf]; omega
       ·rcases (show (q.s.toList == p.s.toList) = true ∨ (q.s.toList == p.s.toList) = false by cases (q.s.toList == p.s.toList) <;> simp) with hS | hS
        ·by_cases hT : q.t < p.t
         ·have hT1 : decide (q.t < p.t) = true := jF hT
          have HA1 := Li (HAS.out (by rw [HPR.out, hL, hS, hT1]; rfl))
          clear hT
          go_upto_region 8 with fail
          go_quiet (fail)
          have HBZ := Li (HBQ0.out.trans (belowDrewN nq (jE _ _) |>.mono HBQ0.out.size))
          generalize wq.drewN nq = Yz at *
          go_wp2_with fail
          go_roundw
          case rel => exact ⟨k + 1, HLT.out, by go_num, HA1.out, HBZ.out⟩
          case measure => have := HLT.out; simp [intOf]; omega
         ·have hT1 : decide (q.t < p.t) = false := jG hT
          rcases (show (q.t == p.t) = true ∨ (q.t == p.t) = false by cases (q.t == p.t) <;> simp) with hQ | hQ
          ·have HI1 := Li (HIS.out (by rw [HSP.out, hS, hQ]; rfl))
           clear hT
           go_upto_region 8 with fail
           go_quiet (fail)
           have HQ5 := Li (show AtA (wq.drewN nq) (ad.add (k * 5)) (pcL q) from (HQA.out.below (belowDrewN nq (jE wq.heap.size wq)) (by rw [add_block]; exact jH HGA.out HBQ0.out.size)))
           have hbz := belowDrewN nq HBQ0.out
           clear e0 e1 e2 e3 HQA HPA
           generalize wq.drewN nq = Yz at *
           have hpz := atA_blk (HG2.out.below hbz HG2.out.lt)
           have e0 := HQ5.out.ser
           have e1 := HQ5.out.timP
           have e2 : Yz.cell? ⟨g1, 0, none⟩ = some (.string p.s) := hpz.ser
           have e3 : Yz.cell? ⟨g1, 1, none⟩ = some (.int .i64 p.t) := hpz.timP
           clear hpz
           go_upto_region 10 with fail
           go_quiet (fail)
           have hby := belowDrewN nq hbz
           have HQ6 := Li (show AtA (Yz.drewN nq) (ad.add (k * 5)) (pcL q) from (HQ5.out.below (belowDrewN nq (jE Yz.heap.size Yz)) (by rw [add_block]; exact jH HGA.out hbz.size)))
           clear e0 e1 e2 e3
           generalize Yz.drewN nq = Yq at *
           have HG1 := Li (HG2.out.below hby HG2.out.lt)
           have HBQ := Li (HB2.out.trans (hby.mono HB2.out.size))
           have HBY2 := Li hby
           have R1 := Li (ext_rangeV (rangeAt_id HG1.out))
           have R2 := Li (ext_rangeV HQ6.out.idP)
           have HII := Li (idLn p.n p.d)
           have HIQ := Li (idLn q.n q.d)
           have heq := fun W => run_eq_id p.n p.d q.n q.d W 9998
           have hab := fun W => rabove_c p.n p.d q.n q.d W
           have hpv := (atA_blk HG1.out).valP
           have c1 : ∀ x : Ext Yq, x.wd.cell? ⟨g1, 2, none⟩ = some (.int .i64 p.v) := fun x => x.cell hpv
           have hqv := HQ6.out.valP
           have c2 := fun x : Ext Yq => x.cell hqv
           clear hby hpv hqv
           have hBT := better_abv p q
           rcases (show abvB p.n p.d q.n q.d = true ∨ abvB p.n p.d q.n q.d = false by cases abvB p.n p.d q.n q.d <;> simp) with hA | hA
           ·rw [hA, Bool.true_or] at hBT
            simp only [hA] at hab
            have HAB := Li hab
            clear hab
            go_upto_region 11 with fail
            refine wp_region_class (Ext.wd (w0 := Yq)) (by kernel_rfl) (by kernel_rfl) (Ext.of (jE _ _).drew) ?_
            repeat (first
             | go_big_quiet_skip
             | (refine wpQuiet_loadO 75 (.tmp 81) rfl g1 3 rfl (idV p.n p.d) _ R1.out Tryz.underlying75 rfl HII.out rfl _ (by simp only [Act.put, sI, sS, sZ]; rfl) ?_)
             | (refine wpQuiet_loadO 75 (.tmp 86) rfl (ad.add (k * 5)).block ((ad.add (k * 5)).off + 3) rfl (idV q.n q.d) _ R2.out Tryz.underlying75 rfl HIQ.out rfl _ (by simp only [Act.put, sI, sS, sZ]; rfl) ?_)
             | (refine wpQuiet_loadO 75 (.tmp 90) rfl g1 3 rfl (idV p.n p.d) _ R1.out Tryz.underlying75 rfl HII.out rfl _ (by simp only [Act.put, sI, sS, sZ]; rfl) ?_)
             | (refine wpQuiet_loadO 75 (.tmp 95) rfl (ad.add (k * 5)).block ((ad.add (k * 5)).off + 3) rfl (idV q.n q.d) _ R2.out Tryz.underlying75 rfl HIQ.out rfl _ (by simp only [Act.put, sI, sS, sZ]; rfl) ?_)
             | (go_big_quiet_step ((go_at_call 35; with_reducible exact ext_call (HAB.out _)))))
            refine wpQuiet_nil ?_
            rintro _ ⟨x, rfl⟩
            have HBX := Li (HBQ.out.trans (x.bel.mono HBQ.out.size))
            have HGX := Li (HG1.out.below x.bel HG1.out.lt)
            have hox := HO3.out.next (HBY2.out.trans (x.bel.mono HBY2.out.size))
            clear c1 c2 heq R1 R2
            generalize x.wd = Yx at *
            clear x
            obtain rfl : ad = ⟨g, 0, none⟩ := HAD.out
            obtain ⟨o1, o2, o3⟩ := own_set (p := p) hox HLT.out HBX.out.size
            have o1 : Yx.there g (k * 5) (pcV p).size := o1
            obtain ⟨YS, hYS⟩ : ∃ YS, YS = Yx.setCells g (k * 5) (pcV p).toList := ⟨_, rfl⟩
            have o2 : OwnP YS w.heap.size (.slice (some ⟨g, 0, none⟩) M.length c) (M.set k p) := by rw [hYS]; exact o2
            have o3 : Below w.heap.size Yx YS := by rw [hYS]; exact o3
            have HYS := Li hYS
            clear hYS
            have O1 := Li o1
            have O2 := Li o2
            have O3 := Li o3
            clear o1 o2 o3 hox
            have hlt := HLT.out
            go_wp2_with (first
             | (refine wpList_loadA rfl 77 (.tmp 5) rfl ⟨g1, 0, none⟩ rfl (pcL p) _ (atA_blk HGX.out) Tryz.underlying77 rfl (pcLn p) ?_)
             | (refine wpList_store_mid rfl 77 (.tmp 112) (.tmp 111) rfl g (k * 5) (pcV p) rfl rfl O1.out (pcInfo p) (pcV_one p) ?_; rw [← HYS.out]))
            go_roundw
            case rel =>
             refine ⟨i + 1, by have := HIL.out; omega, by go_num, ?_, HBX.out.trans O3.out⟩
             rw [HTK.out, HI1.out, hBT]
             exact O2.out
            case measure => have := HIL.out; simp [intOf]; omega
           ·rcases (show ((p.n == q.n) && (p.d == q.d)) = true ∨ ((p.n == q.n) && (p.d == q.d)) = false by cases ((p.n == q.n) && (p.d == q.d)) <;> simp) with hE | hE
            ·by_cases hV : q.v < p.v
             ·have hV2 : decide (q.v < p.v) = true := jF hV
              rw [hA, hE, hV2] at hBT
              simp only [hE] at heq
              simp only [hA] at hab
              have HAB := Li hab
              clear hab
              go_upto_region 11 with fail
              refine wp_region_class (Ext.wd (w0 := Yq)) (by kernel_rfl) (by kernel_rfl) (Ext.of (jE _ _).drew) ?_
              repeat (first
               | go_big_quiet_skip
               | (refine wpQuiet_loadO 75 (.tmp 81) rfl g1 3 rfl (idV p.n p.d) _ R1.out Tryz.underlying75 rfl HII.out rfl _ (by simp only [Act.put, sI, sS, sZ]; rfl) ?_)
               | (refine wpQuiet_loadO 75 (.tmp 86) rfl (ad.add (k * 5)).block ((ad.add (k * 5)).off + 3) rfl (idV q.n q.d) _ R2.out Tryz.underlying75 rfl HIQ.out rfl _ (by simp only [Act.put, sI, sS, sZ]; rfl) ?_)
               | (refine wpQuiet_loadO 75 (.tmp 90) rfl g1 3 rfl (idV p.n p.d) _ R1.out Tryz.underlying75 rfl HII.out rfl _ (by simp only [Act.put, sI, sS, sZ]; rfl) ?_)
               | (refine wpQuiet_loadO 75 (.tmp 95) rfl (ad.add (k * 5)).block ((ad.add (k * 5)).off + 3) rfl (idV q.n q.d) _ R2.out Tryz.underlying75 rfl HIQ.out rfl _ (by simp only [Act.put, sI, sS, sZ]; rfl) ?_)
               | (go_big_quiet_step ((go_at_call 35; with_reducible exact ext_call (HAB.out _)))))
              refine wpQuiet_nil ?_
              rintro _ ⟨x, rfl⟩
              have HBX := Li (HBQ.out.trans (x.bel.mono HBQ.out.size))
              have HGX := Li (HG1.out.below x.bel HG1.out.lt)
              have hox := HO3.out.next (HBY2.out.trans (x.bel.mono HBY2.out.size))
              clear c1 c2 heq R1 R2
              generalize x.wd = Yx at *
              clear x
              obtain rfl : ad = ⟨g, 0, none⟩ := HAD.out
              obtain ⟨o1, o2, o3⟩ := own_set (p := p) hox HLT.out HBX.out.size
              have o1 : Yx.there g (k * 5) (pcV p).size := o1
              obtain ⟨YS, hYS⟩ : ∃ YS, YS = Yx.setCells g (k * 5) (pcV p).toList := ⟨_, rfl⟩
              have o2 : OwnP YS w.heap.size (.slice (some ⟨g, 0, none⟩) M.length c) (M.set k p) := by rw [hYS]; exact o2
              have o3 : Below w.heap.size Yx YS := by rw [hYS]; exact o3
              have HYS := Li hYS
              clear hYS
              have O1 := Li o1
              have O2 := Li o2
              have O3 := Li o3
              clear o1 o2 o3 hox
              have hlt := HLT.out
              go_wp2_with (first
               | (refine wpList_loadA rfl 77 (.tmp 5) rfl ⟨g1, 0, none⟩ rfl (pcL p) _ (atA_blk HGX.out) Tryz.underlying77 rfl (pcLn p) ?_)
               | (refine wpList_store_mid rfl 77 (.tmp 112) (.tmp 111) rfl g (k * 5) (pcV p) rfl rfl O1.out (pcInfo p) (pcV_one p) ?_; rw [← HYS.out]))
              go_roundw
              case rel =>
               refine ⟨i + 1, by have := HIL.out; omega, by go_num, ?_, HBX.out.trans O3.out⟩
               rw [HTK.out, HI1.out, hBT]
               exact O2.out
              case measure => have := HIL.out; simp [intOf]; omega
             ·have hV2 : decide (q.v < p.v) = false := jG hV
              rw [hA, hE, hV2] at hBT
              simp only [hE] at heq
              simp only [hA] at hab
              have HAB := Li hab
              clear hab
              go_upto_region 11 with fail
              refine wp_region_class (Ext.wd (w0 := Yq)) (by kernel_rfl) (by kernel_rfl) (Ext.of (jE _ _).drew) ?_
              repeat (first
               | go_big_quiet_skip
               | (refine wpQuiet_loadO 75 (.tmp 81) rfl g1 3 rfl (idV p.n p.d) _ R1.out Tryz.underlying75 rfl HII.out rfl _ (by simp only [Act.put, sI, sS, sZ]; rfl) ?_)
               | (refine wpQuiet_loadO 75 (.tmp 86) rfl (ad.add (k * 5)).block ((ad.add (k * 5)).off + 3) rfl (idV q.n q.d) _ R2.out Tryz.underlying75 rfl HIQ.out rfl _ (by simp only [Act.put, sI, sS, sZ]; rfl) ?_)
               | (refine wpQuiet_loadO 75 (.tmp 90) rfl g1 3 rfl (idV p.n p.d) _ R1.out Tryz.underlying75 rfl HII.out rfl _ (by simp only [Act.put, sI, sS, sZ]; rfl) ?_)
               | (refine wpQuiet_loadO 75 (.tmp 95) rfl (ad.add (k * 5)).block ((ad.add (k * 5)).off + 3) rfl (idV q.n q.d) _ R2.out Tryz.underlying75 rfl HIQ.out rfl _ (by simp only [Act.put, sI, sS, sZ]; rfl) ?_)
               | (go_big_quiet_step ((go_at_call 35; with_reducible exact ext_call (HAB.out _)))))
              refine wpQuiet_nil ?_
              rintro _ ⟨x, rfl⟩
              have HBX := Li (HBQ.out.trans (x.bel.mono HBQ.out.size))
              have HGX := Li (HG1.out.below x.bel HG1.out.lt)
              have hox := HO3.out.next (HBY2.out.trans (x.bel.mono HBY2.out.size))
              clear c1 c2 heq R1 R2
              generalize x.wd = Yx at *
              clear x
              have HOX := Li hox
              clear hox
              go_wp2_with fail
              go_roundw
              case rel =>
               refine ⟨i + 1, by have := HIL.out; omega, by go_num, ?_, HBX.out⟩
               rw [HTK.out, HI1.out, hBT]
               exact HOX.out
              case measure => have := HIL.out; simp [intOf]; omega
            ·rw [hA, hE, Bool.false_and] at hBT
             simp only [hE] at heq
             simp only [hA] at hab
             have HAB := Li hab
             clear hab
             go_upto_region 11 with fail
             refine wp_region_class (Ext.wd (w0 := Yq)) (by kernel_rfl) (by kernel_rfl) (Ext.of (jE _ _).drew) ?_
             repeat (first
              | go_big_quiet_skip
              | (refine wpQuiet_loadO 75 (.tmp 81) rfl g1 3 rfl (idV p.n p.d) _ R1.out Tryz.underlying75 rfl HII.out rfl _ (by simp only [Act.put, sI, sS, sZ]; rfl) ?_)
              | (refine wpQuiet_loadO 75 (.tmp 86) rfl (ad.add (k * 5)).block ((ad.add (k * 5)).off + 3) rfl (idV q.n q.d) _ R2.out Tryz.underlying75 rfl HIQ.out rfl _ (by simp only [Act.put, sI, sS, sZ]; rfl) ?_)
              | (refine wpQuiet_loadO 75 (.tmp 90) rfl g1 3 rfl (idV p.n p.d) _ R1.out Tryz.underlying75 rfl HII.out rfl _ (by simp only [Act.put, sI, sS, sZ]; rfl) ?_)
              | (refine wpQuiet_loadO 75 (.tmp 95) rfl (ad.add (k * 5)).block ((ad.add (k * 5)).off + 3) rfl (idV q.n q.d) _ R2.out Tryz.underlying75 rfl HIQ.out rfl _ (by simp only [Act.put, sI, sS, sZ]; rfl) ?_)
              | (go_big_quiet_step ((go_at_call 35; with_reducible exact ext_call (HAB.out _)))))
             refine wpQuiet_nil ?_
             rintro _ ⟨x, rfl⟩
             have HBX := Li (HBQ.out.trans (x.bel.mono HBQ.out.size))
             have HGX := Li (HG1.out.below x.bel HG1.out.lt)
             have hox := HO3.out.next (HBY2.out.trans (x.bel.mono HBY2.out.size))
             clear c1 c2 heq R1 R2
             generalize x.wd = Yx at *
             clear x
             have HOX := Li hox
             clear hox
             go_wp2_with fail
             go_roundw
             case rel =>
              refine ⟨i + 1, by have := HIL.out; omega, by go_num, ?_, HBX.out⟩
              rw [HTK.out, HI1.out, hBT]
              exact HOX.out
             case measure => have := HIL.out; simp [intOf]; omega
          ·have INS := Li (HIM.out (by rw [HPR.out, hL, hS, hT1]; rfl) (by rw [HSP.out, hS, hQ]; rfl))
           clear hT
           go_upto_region 8 with fail
           go_quiet (fail)
           have HQ5 := Li (show AtA (wq.drewN nq) (ad.add (k * 5)) (pcL q) from (HQA.out.below (belowDrewN nq (jE wq.heap.size wq)) (by rw [add_block]; exact jH HGA.out HBQ0.out.size)))
           have hbz := belowDrewN nq HBQ0.out
           clear e0 e1 e2 e3 HQA HPA
           generalize wq.drewN nq = Yz at *
           have hpz := atA_blk (HG2.out.below hbz HG2.out.lt)
           have e0 := HQ5.out.ser
           have e1 := HQ5.out.timP
           have e2 : Yz.cell? ⟨g1, 0, none⟩ = some (.string p.s) := hpz.ser
           have e3 : Yz.cell? ⟨g1, 1, none⟩ = some (.int .i64 p.t) := hpz.timP
           clear hpz
           go_upto_region 10 with fail
           go_quiet (fail)
           have hby := belowDrewN nq hbz
           generalize Yz.drewN nq = Yq at *
           have HG1 := Li (HG2.out.below hby HG2.out.lt)
           have HBQ := Li (HB2.out.trans (hby.mono HB2.out.size))
           have HBY2 := Li hby
           have RD1 := Li (show RdP Yq Yq.heap.size (some ad) (M.take k) by
            have h := rdP_sub (HAT.out.below HBY2.out HGA.out) HGA.out 0 k
            rw [List.drop_zero, show ad.add (0 * 5) = ad by simp [Addr.add]] at h
            exact Rd.more (show Rd Yq Y2.heap.size (some ad) (pcs _) from h) HBY2.out.size)
           have RD2 := Li (show RdP Yq Yq.heap.size (some (ad.add (k * 5))) (M.drop k) by
            have h := rdP_sub (HAT.out.below HBY2.out HGA.out) HGA.out k (M.length - k)
            rw [List.take_of_length_le (by rw [List.length_drop]; exact jD _)] at h
            exact Rd.more (show Rd Yq Y2.heap.size _ (pcs _) from h) HBY2.out.size)
           clear hby
           have hlt := HLT.out
           go_wp2_with (first
            | (at_builtin; refine wpList_app _ rfl (.tmp 113) (.tmp 116) _ rfl Yq.heap.size 77 i0 (.agg zPc) 5 48 Tryz.underlying31 hi hz0 hz1 hz2 rfl (by decide) _ 0 [] rfl (OwnP.nilM _ _) Yq.heap.size (some ad) k c (pcs (M.take k)) rfl (tk5 (by omega)) (show Rd Yq Yq.heap.size (some ad) (pcs (M.take k)) from RD1.out) (pcs_oneCell _) (by omega) (by omega) (jD _) ?_
               intro v1 U1 hap
               have HU1 := Li (hap.below (OwnP.nilM _ _) (jD _))
               have HV1 := Li (app_takeN hap (by omega))
               clear hap)
            | (refine wpList_loadA rfl 77 (.tmp 5) rfl ⟨g1, 0, none⟩ rfl (pcL p) _ (atA_blk (HG1.out.below HU1.out HG1.out.lt)) Tryz.underlying77 rfl (pcLn p) ?_)
            | (refine wpList_valM rfl _ _ (run_onePc U1 p (.tmp 119) rfl (by kernel_rfl)) ?_)
            | (at_builtin; refine wpList_app _ rfl (.tmp 118) (.tmp 120) _ rfl Yq.heap.size 77 i0 (.agg zPc) 5 48 Tryz.underlying31 hi hz0 hz1 hz2 rfl (by decide) _ (M.take k).length (pcs (M.take k)) rfl (HV1.out.allocM _) _ (some ⟨U1.heap.size, 0, none⟩) 1 1 (pcs [p]) rfl rfl (by exact rd_new U1 (pcs [p]) 77 (0, 0)) (pcs_oneCell _) (by rw [List.length_take]; omega) (by rw [List.length_take]; omega) (by have := HU1.out.size; simp; omega) ?_
               intro v2 U2 hap
               have HU2 := Li ((HU1.out.alloc HU1.out.size _).trans (hap.below (HV1.out.allocM _) (by have := HU1.out.size; simp; omega)))
               have HV2 := Li (OwnP.appM (l := M.take k) (m := [p]) hap)
               clear hap)
            | (at_builtin; refine wpList_app _ rfl (.tmp 122) (.tmp 125) _ rfl Yq.heap.size 77 i0 (.agg zPc) 5 48 Tryz.underlying31 hi hz0 hz1 hz2 rfl (by decide) _ (M.take k ++ [p]).length (pcs (M.take k ++ [p])) rfl HV2.out Yq.heap.size (some (ad.add (k * 5))) (M.length - k) (c - k) (pcs (M.drop k)) rfl (dr5 _ _) (Rd.below (show Rd Yq Yq.heap.size _ (pcs (M.drop k)) from RD2.out) HU2.out) (pcs_oneCell _) (by rw [jC, List.length_take]; simp; omega) (by rw [jC, List.length_take]; simp; omega) HU2.out.size ?_
               intro v3 U3 hap
               have HU3 := Li (HU2.out.trans (hap.below HV2.out HU2.out.size))
               have HV3 := Li (app_dropN hap)
               clear hap))
           go_roundw
           case rel =>
            refine ⟨i + 1, by have := HIL.out; omega, by go_num, ?_, HBQ.out.trans (HU3.out.mono HBQ.out.size)⟩
            have h := own_base_le HV3.out HBQ.out.size
            rw [HTK.out]
            rw [INS.out]; exact h
           case measure => have := HIL.out; simp [intOf]; omega
        ·have INS := Li (HIM.out (by rw [HPR.out, hL, hS]; rfl) (by rw [HSP.out, hS]; rfl))
         go_upto_region 8 with fail
         go_quiet (fail)
         have HQ5 := Li (show AtA (wq.drewN nq) (ad.add (k * 5)) (pcL q) from (HQA.out.below (belowDrewN nq (jE wq.heap.size wq)) (by rw [add_block]; exact jH HGA.out HBQ0.out.size)))
         have hbz := belowDrewN nq HBQ0.out
         clear e0 e1 e2 e3 HQA HPA
         generalize wq.drewN nq = Yz at *
         have hpz := atA_blk (HG2.out.below hbz HG2.out.lt)
         have e0 := HQ5.out.ser
         have e1 := HQ5.out.timP
         have e2 : Yz.cell? ⟨g1, 0, none⟩ = some (.string p.s) := hpz.ser
         have e3 : Yz.cell? ⟨g1, 1, none⟩ = some (.int .i64 p.t) := hpz.timP
         clear hpz
         go_upto_region 10 with fail
         go_quiet (fail)
         have hby := belowDrewN nq hbz
         generalize Yz.drewN nq = Yq at *
         have HG1 := Li (HG2.out.below hby HG2.out.lt)
         have HBQ := Li (HB2.out.trans (hby.mono HB2.out.size))
         have HBY2 := Li hby
         have RD1 := Li (show RdP Yq Yq.heap.size (some ad) (M.take k) by
          have h := rdP_sub (HAT.out.below HBY2.out HGA.out) HGA.out 0 k
          rw [List.drop_zero, show ad.add (0 * 5) = ad by simp [Addr.add]] at h
          exact Rd.more (show Rd Yq Y2.heap.size (some ad) (pcs _) from h) HBY2.out.size)
         have RD2 := Li (show RdP Yq Yq.heap.size (some (ad.add (k * 5))) (M.drop k) by
          have h := rdP_sub (HAT.out.below HBY2.out HGA.out) HGA.out k (M.length - k)
          rw [List.take_of_length_le (by rw [List.length_drop]; exact jD _)] at h
          exact Rd.more (show Rd Yq Y2.heap.size _ (pcs _) from h) HBY2.out.size)
         clear hby
         have hlt := HLT.out
         go_wp2_with (first
          | (at_builtin; refine wpList_app _ rfl (.tmp 113) (.tmp 116) _ rfl Yq.heap.size 77 i0 (.agg zPc) 5 48 Tryz.underlying31 hi hz0 hz1 hz2 rfl (by decide) _ 0 [] rfl (OwnP.nilM _ _) Yq.heap.size (some ad) k c (pcs (M.take k)) rfl (tk5 (by omega)) (show Rd Yq Yq.heap.size (some ad) (pcs (M.take k)) from RD1.out) (pcs_oneCell _) (by omega) (by omega) (jD _) ?_
             intro v1 U1 hap
             have HU1 := Li (hap.below (OwnP.nilM _ _) (jD _))
             have HV1 := Li (app_takeN hap (by omega))
             clear hap)
          | (refine wpList_loadA rfl 77 (.tmp 5) rfl ⟨g1, 0, none⟩ rfl (pcL p) _ (atA_blk (HG1.out.below HU1.out HG1.out.lt)) Tryz.underlying77 rfl (pcLn p) ?_)
          | (refine wpList_valM rfl _ _ (run_onePc U1 p (.tmp 119) rfl (by kernel_rfl)) ?_)
          | (at_builtin; refine wpList_app _ rfl (.tmp 118) (.tmp 120) _ rfl Yq.heap.size 77 i0 (.agg zPc) 5 48 Tryz.underlying31 hi hz0 hz1 hz2 rfl (by decide) _ (M.take k).length (pcs (M.take k)) rfl (HV1.out.allocM _) _ (some ⟨U1.heap.size, 0, none⟩) 1 1 (pcs [p]) rfl rfl (by exact rd_new U1 (pcs [p]) 77 (0, 0)) (pcs_oneCell _) (by rw [List.length_take]; omega) (by rw [List.length_take]; omega) (by have := HU1.out.size; simp; omega) ?_
             intro v2 U2 hap
             have HU2 := Li ((HU1.out.alloc HU1.out.size _).trans (hap.below (HV1.out.allocM _) (by have := HU1.out.size; simp; omega)))
             have HV2 := Li (OwnP.appM (l := M.take k) (m := [p]) hap)
             clear hap)
          | (at_builtin; refine wpList_app _ rfl (.tmp 122) (.tmp 125) _ rfl Yq.heap.size 77 i0 (.agg zPc) 5 48 Tryz.underlying31 hi hz0 hz1 hz2 rfl (by decide) _ (M.take k ++ [p]).length (pcs (M.take k ++ [p])) rfl HV2.out Yq.heap.size (some (ad.add (k * 5))) (M.length - k) (c - k) (pcs (M.drop k)) rfl (dr5 _ _) (Rd.below (show Rd Yq Yq.heap.size _ (pcs (M.drop k)) from RD2.out) HU2.out) (pcs_oneCell _) (by rw [jC, List.length_take]; simp; omega) (by rw [jC, List.length_take]; simp; omega) HU2.out.size ?_
             intro v3 U3 hap
             have HU3 := Li (HU2.out.trans (hap.below HV2.out HU2.out.size))
             have HV3 := Li (app_dropN hap)
             clear hap))
         go_roundw
         case rel =>
          refine ⟨i + 1, by have := HIL.out; omega, by go_num, ?_, HBQ.out.trans (HU3.out.mono HBQ.out.size)⟩
          have h := own_base_le HV3.out HBQ.out.size
          rw [HTK.out]
          rw [INS.out]; exact h
         case measure => have := HIL.out; simp [intOf]; omega
      ·obtain rfl : k = M.length := by omega
       have q1 : ¬ (M.length : Int) < (M.length : Int) := by omega
       have r6 : (M.length : Int) ≤ (c : Int) := by omega
       have r7 : (M.length : Int) ≤ (M.length : Int) := by omega
       have r8 : (0 : Int) ≤ (M.length : Int) := by omega
       have r9 : decide ((M.length : Int) < 0) = false := jG (by omega)
       have INS := Li (show insP p M = M.take M.length ++ [p] ++ ([] : List Pc).drop 0 by rw [ins_end hah]; simp)
       have HBQ0 := Li hbq
       clear hah hbq hkl hlt
       by_cases hcc : c = M.length
       ·subst hcc
        go_upto_region 8 with fail
        go_quiet (fail)
        have hbz := belowDrewN nq HBQ0.out
        generalize wq.drewN nq = Yz at *
        go_upto_region 10 with fail
        go_quiet (fail)
        have hby := belowDrewN nq hbz
        generalize Yz.drewN nq = Yq at *
        have HG1 := Li (HG2.out.below hby HG2.out.lt)
        have HBQ := Li (HB2.out.trans (hby.mono HB2.out.size))
        have HBY2 := Li hby
        have RD1 := Li (show RdP Yq Yq.heap.size (some ad) (M.take M.length) by
         have h := rdP_sub (HAT.out.below HBY2.out HGA.out) HGA.out 0 M.length
         rw [List.drop_zero, show ad.add (0 * 5) = ad by simp [Addr.add]] at h
         exact Rd.more (show Rd Yq Y2.heap.size (some ad) (pcs _) from h) HBY2.out.size)
        have RD2 := Li (show RdP Yq Yq.heap.size (some ad) (M.drop M.length) by
         intro h
         exact absurd (by rw [List.drop_length]; rfl) h)
        clear hby
        go_wp2_with (first
         | (at_builtin; refine wpList_app _ rfl (.tmp 113) (.tmp 116) _ rfl Yq.heap.size 77 i0 (.agg zPc) 5 48 Tryz.underlying31 hi hz0 hz1 hz2 rfl (by decide) _ 0 [] rfl (OwnP.nilM _ _) Yq.heap.size (some ad) M.length M.length (pcs (M.take M.length)) rfl (tk5 (by omega)) (show Rd Yq Yq.heap.size (some ad) (pcs (M.take M.length)) from RD1.out) (pcs_oneCell _) (by omega) (by omega) (jD _) ?_
            intro v1 U1 hap
            have HU1 := Li (hap.below (OwnP.nilM _ _) (jD _))
            have HV1 := Li (app_takeN hap (by omega))
            clear hap)
         | (refine wpList_loadA rfl 77 (.tmp 5) rfl ⟨g1, 0, none⟩ rfl (pcL p) _ (atA_blk (HG1.out.below HU1.out HG1.out.lt)) Tryz.underlying77 rfl (pcLn p) ?_)
         | (refine wpList_valM rfl _ _ (run_onePc U1 p (.tmp 119) rfl (by kernel_rfl)) ?_)
         | (at_builtin; refine wpList_app _ rfl (.tmp 118) (.tmp 120) _ rfl Yq.heap.size 77 i0 (.agg zPc) 5 48 Tryz.underlying31 hi hz0 hz1 hz2 rfl (by decide) _ (M.take M.length).length (pcs (M.take M.length)) rfl (HV1.out.allocM _) _ (some ⟨U1.heap.size, 0, none⟩) 1 1 (pcs [p]) rfl rfl (by exact rd_new U1 (pcs [p]) 77 (0, 0)) (pcs_oneCell _) (by rw [List.length_take]; omega) (by rw [List.length_take]; omega) (by have := HU1.out.size; simp; omega) ?_
            intro v2 U2 hap
            have HU2 := Li ((HU1.out.alloc HU1.out.size _).trans (hap.below (HV1.out.allocM _) (by have := HU1.out.size; simp; omega)))
            have HV2 := Li (OwnP.appM (l := M.take M.length) (m := [p]) hap)
            clear hap)
         | (at_builtin; refine wpList_app _ rfl (.tmp 122) (.tmp 125) _ rfl Yq.heap.size 77 i0 (.agg zPc) 5 48 Tryz.underlying31 hi hz0 hz1 hz2 rfl (by decide) _ (M.take M.length ++ [p]).length (pcs (M.take M.length ++ [p])) rfl HV2.out Yq.heap.size (some ad) 0 0 (pcs (([] : List Pc).drop 0)) rfl rfl (by exact Rd.nil_ _ _ _) (pcs_oneCell _) (by rw [jC, List.length_take]; simp; omega) (by rw [jC, List.length_take]; simp; omega) HU2.out.size ?_
            intro v3 U3 hap
            have HU3 := Li (HU2.out.trans (hap.below HV2.out HU2.out.size))
            have HV3 := Li (app_dropN (M := []) (k := 0) hap)
            clear hap))
        go_roundw
        case rel =>
         refine ⟨i + 1, by have := HIL.out; omega, by go_num, ?_, HBQ.out.trans (HU3.out.mono HBQ.out.size)⟩
         have h := own_base_le HV3.out HBQ.out.size
         rw [HTK.out]
         rw [INS.out]; exact h
        case measure => have := HIL.out; simp [intOf]; omega
       ·have rA : ¬ c = M.length := hcc
        clear hcc
        go_upto_region 8 with fail
        go_quiet (fail)
        have hbz := belowDrewN nq HBQ0.out
        generalize wq.drewN nq = Yz at *
        go_upto_region 10 with fail
        go_quiet (fail)
        have hby := belowDrewN nq hbz
        generalize Yz.drewN nq = Yq at *
        have HG1 := Li (HG2.out.below hby HG2.out.lt)
        have HBQ := Li (HB2.out.trans (hby.mono HB2.out.size))
        have HBY2 := Li hby
        have RD1 := Li (show RdP Yq Yq.heap.size (some ad) (M.take M.length) by
         have h := rdP_sub (HAT.out.below HBY2.out HGA.out) HGA.out 0 M.length
         rw [List.drop_zero, show ad.add (0 * 5) = ad by simp [Addr.add]] at h
         exact Rd.more (show Rd Yq Y2.heap.size (some ad) (pcs _) from h) HBY2.out.size)
        have RD2 := Li (show RdP Yq Yq.heap.size (some (ad.add (M.length * 5))) (M.drop M.length) by
         have h := rdP_sub (HAT.out.below HBY2.out HGA.out) HGA.out M.length (M.length - M.length)
         rw [List.take_of_length_le (by rw [List.length_drop]; exact jD _)] at h
         exact Rd.more (show Rd Yq Y2.heap.size _ (pcs _) from h) HBY2.out.size)
        clear hby
        go_wp2_with (first
         | (at_builtin; refine wpList_app _ rfl (.tmp 113) (.tmp 116) _ rfl Yq.heap.size 77 i0 (.agg zPc) 5 48 Tryz.underlying31 hi hz0 hz1 hz2 rfl (by decide) _ 0 [] rfl (OwnP.nilM _ _) Yq.heap.size (some ad) M.length c (pcs (M.take M.length)) rfl (tk5 (by omega)) (show Rd Yq Yq.heap.size (some ad) (pcs (M.take M.length)) from RD1.out) (pcs_oneCell _) (by omega) (by omega) (jD _) ?_
            intro v1 U1 hap
            have HU1 := Li (hap.below (OwnP.nilM _ _) (jD _))
            have HV1 := Li (app_takeN hap (by omega))
            clear hap)
         | (refine wpList_loadA rfl 77 (.tmp 5) rfl ⟨g1, 0, none⟩ rfl (pcL p) _ (atA_blk (HG1.out.below HU1.out HG1.out.lt)) Tryz.underlying77 rfl (pcLn p) ?_)
         | (refine wpList_valM rfl _ _ (run_onePc U1 p (.tmp 119) rfl (by kernel_rfl)) ?_)
         | (at_builtin; refine wpList_app _ rfl (.tmp 118) (.tmp 120) _ rfl Yq.heap.size 77 i0 (.agg zPc) 5 48 Tryz.underlying31 hi hz0 hz1 hz2 rfl (by decide) _ (M.take M.length).length (pcs (M.take M.length)) rfl (HV1.out.allocM _) _ (some ⟨U1.heap.size, 0, none⟩) 1 1 (pcs [p]) rfl rfl (by exact rd_new U1 (pcs [p]) 77 (0, 0)) (pcs_oneCell _) (by rw [List.length_take]; omega) (by rw [List.length_take]; omega) (by have := HU1.out.size; simp; omega) ?_
            intro v2 U2 hap
            have HU2 := Li ((HU1.out.alloc HU1.out.size _).trans (hap.below (HV1.out.allocM _) (by have := HU1.out.size; simp; omega)))
            have HV2 := Li (OwnP.appM (l := M.take M.length) (m := [p]) hap)
            clear hap)
         | (at_builtin; refine wpList_app _ rfl (.tmp 122) (.tmp 125) _ rfl Yq.heap.size 77 i0 (.agg zPc) 5 48 Tryz.underlying31 hi hz0 hz1 hz2 rfl (by decide) _ (M.take M.length ++ [p]).length (pcs (M.take M.length ++ [p])) rfl HV2.out Yq.heap.size (some (ad.add (M.length * 5))) 0 (c - M.length) (pcs (([] : List Pc).drop 0)) rfl rfl (by exact Rd.nil_ _ _ _) (pcs_oneCell _) (by rw [jC, List.length_take]; simp; omega) (by rw [jC, List.length_take]; simp; omega) HU2.out.size ?_
            intro v3 U3 hap
            have HU3 := Li (HU2.out.trans (hap.below HV2.out HU2.out.size))
            have HV3 := Li (app_dropN (M := []) (k := 0) hap)
            clear hap))
        go_roundw
        case rel =>
         refine ⟨i + 1, by have := HIL.out; omega, by go_num, ?_, HBQ.out.trans (HU3.out.mono HBQ.out.size)⟩
         have h := own_base_le HV3.out HBQ.out.size
         rw [HTK.out]
         rw [INS.out]; exact h
        case measure => have := HIL.out; simp [intOf]; omega
   ·rw [if_neg hck] at htk
    have HTK := Li htk
    have hckf : ckP p = false := by simpa using hck
    rw [hckf] at HRC
    clear htk hck hlt hckf
    go_wp2_with (first
     | (refine wpList_loadA rfl 77 (.tmp 5) rfl ⟨g1, 0, none⟩ rfl (pcL p) _ (atA_blk HG0.out) Tryz.underlying77 rfl (pcLn p) ?_)
     | (go_at_call 30; (refine (HRC.out Y).mono ?_); rintro e Y2 ⟨rfl, hb⟩; have HYY := Li hb; clear hb))
    go_roundw
    case rel => exact ⟨i + 1, by have := HIL.out; omega, by go_num, by rw [HTK.out]; exact HOY.out.next HYY.out, HBY.out.trans (HYY.out.mono HBY.out.size)⟩
    case measure => have := HIL.out; simp [intOf]; omega
  ·obtain rfl : i = l.length := by omega
   have q1 : ¬ (l.length : Int) < (l.length : Int) := by omega
   rw [List.take_length] at ho
   have HO := Li ho
   have HB := Li hb
   clear ho hb
   go_wp2_with fail
   go_ret
   exact ⟨_, rfl, HO.out, HB.out⟩
end Go.Proofs.YtfnhmnbcponkfaaGreatDoor
namespace Go.Proofs.YtfnhmnbcponkfaaGreatDoor
open Go.ChangeShapes Go.WideShapes Go.ChangeAt Go.RowKit
theorem pieces_of {H : Type} {enc : TypeId × Value → H} {W : World} {fuel : Nat} {cs : List Value} {y : DataW H × List MemPlace} (hf : DataW.trod enc Tryz.prog W 0 (fun _ => true) true fuel 31 cs = some y) :
  ∃ (A : Option Addr) (l : List Pc) (cap : Nat), cs = [.slice A l.length cap] ∧ l.length ≤ cap ∧ l.length ≤ 9223372036854775807 ∧ (∀ p ∈ l, PcOk p ∧ p.s.size ≤ 9223372036854775807) ∧ RdP W W.heap.size A l := by
 have hC : Tryz.prog.cellsOf 77 = 5 := by kernel_rfl
 rcases DataW.trod_slice Tryz.underlying31 hf with ⟨hcs, _⟩ | ⟨a, len, cap, elems, rest, n, _, hcs, _, hb, hl, hm, hlen, helem, _, _⟩
 ·exact ⟨none, [], 0, hcs, jD _, by simp, by simp, Rd.nil_ _ _ _⟩
 ·have key : ∀ m, m ≤ len → ∃ L : List Pc, L.length = m ∧ (∀ p ∈ L, PcOk p ∧ p.s.size ≤ 9223372036854775807) ∧ AtA W a (pcs L) := by
   intro m
   induction m with
   | zero => intro _; exact ⟨[], rfl, by simp, by intro j u hu; simp [pcs_nil] at hu⟩
   | succ m ih =>
    intro hm1
    obtain ⟨L, hL, hLs, hLc⟩ := ih (by omega)
    have he := helem m (by omega)
    have hem : elems[m]? = some (elems[m]'(by omega)) := jB (by omega)
    rw [hem, hC, Option.bind_eq_some_iff] at he
    obtain ⟨cs', hcs', hy⟩ := he
    obtain ⟨q, rfl, hq⟩ := piece_of hy
    obtain ⟨_, _, hcell⟩ := World.cells?_some hcs'
    refine ⟨L ++ [q], by rw [jC, hL]; rfl, fun c hc => (List.mem_append.1 hc).elim (hLs c) (fun h => by rw [List.mem_singleton.1 h]; exact hq), fun j u hu => ?_⟩
    rw [pcs_app] at hu
    rcases Nat.lt_or_ge j (m * 5) with hj | hj
    ·rw [List.getElem?_append_left (by rw [pcs_len, hL]; exact hj)] at hu
     exact hLc j u hu
    ·rw [List.getElem?_append_right (by rw [pcs_len, hL]; exact hj), pcs_len, hL, pcs_cons, pcs_nil, List.append_nil] at hu
     have hj2 : j - m * 5 < 5 := by
      rcases Nat.lt_or_ge (j - m * 5) 5 with h1 | h1
      ·exact h1
      ·rw [List.getElem?_eq_none (by simp [pcL]; omega)] at hu; cases hu
     have h2 := hcell (j - m * 5) hj2
     rw [Addr.add_add, show m * 5 + (j - m * 5) = j by omega] at h2
     rw [h2, hu]
  obtain ⟨L, hL, hLs, hLc⟩ := key len (jD _)
  refine ⟨some a, L, cap, by rw [hcs, hL], by rw [hL]; exact hl, by rw [hL]; simp only [maxLen] at hm; omega, hLs, fun hne => ?_⟩
  have h0 : 0 < (pcs L).length := by
   rcases Nat.eq_zero_or_pos (pcs L).length with h0 | h0
   ·exact absurd (List.eq_nil_of_length_eq_zero h0) hne
   ·exact h0
  have hc0 := hLc 0 _ (jB h0)
  refine ⟨a, rfl, by have := cell_lt hc0; rwa [add_block] at this, hLc⟩
theorem open_groups {H : Type} {enc : TypeId × Value → H} {W : World} {base : Nat} {v : Value} {d : DataW H} {p : List MemPlace} (hv : Value.okWide Tryz.prog W .any base 22 v)
  (h : DataW.Trod enc Tryz.prog W 0 (fun _ => true) true 22 v d p) :
  ∃ (A : Option Addr) (gs : List (List Pc)) (cap : Nat), v = .slice A gs.length cap ∧ gs.length ≤ cap ∧ gs.length ≤ 9223372036854775807 ∧ (∀ g ∈ gs, g.length ≤ 9223372036854775807 ∧ ∀ p ∈ g, PcOk p ∧ p.s.size ≤ 9223372036854775807) ∧ LsAt W A gs := by
 have hC : Tryz.prog.cellsOf 31 = 1 := by kernel_rfl
 obtain ⟨A, len, cap, rfl⟩ := okWide_slice Tryz.underlying22 hv
 obtain ⟨fuel, hf⟩ := h
 rcases DataW.trod_slice Tryz.underlying22 hf with ⟨hcs, _⟩ | ⟨a, len', cap', elems, rest, n, _, hcs, _, hb, hl, hm, hlen, helem, _, _⟩
 ·simp [Value.cells] at hcs
  obtain ⟨rfl, rfl, rfl⟩ := hcs
  exact ⟨none, [], 0, rfl, jD _, by simp, by simp, fun i hi => by simp at hi⟩
 ·simp [Value.cells] at hcs
  obtain ⟨rfl, rfl, rfl⟩ := hcs
  have key : ∀ m, m ≤ len → ∃ gs : List (List Pc), gs.length = m ∧ (∀ g ∈ gs, g.length ≤ 9223372036854775807 ∧ ∀ p ∈ g, PcOk p ∧ p.s.size ≤ 9223372036854775807) ∧ LsAt W (some a) gs := by
   intro m
   induction m with
   | zero => intro _; exact ⟨[], rfl, by simp, fun i hi => by simp at hi⟩
   | succ m ih =>
    intro hm1
    obtain ⟨gs, hL, hLs, hLc⟩ := ih (by omega)
    have he := helem m (by omega)
    have hem : elems[m]? = some (elems[m]'(by omega)) := jB (by omega)
    rw [hem, hC, Option.bind_eq_some_iff] at he
    obtain ⟨cs', hcs', hy⟩ := he
    obtain ⟨Ai, l, ci, rfl, hli, hlm, hlp, hlr⟩ := pieces_of hy
    obtain ⟨_, _, hcell⟩ := World.cells?_some hcs'
    have h0 := hcell 0 (by decide)
    rw [Addr.add_add, Nat.add_zero, Nat.mul_one] at h0
    simp only [List.getElem?_cons_zero] at h0
    refine ⟨gs ++ [l], by rw [jC, hL]; rfl, fun c hc => (List.mem_append.1 hc).elim (hLs c) (fun h => by rw [List.mem_singleton.1 h]; exact ⟨hlm, hlp⟩), fun i hi => ?_⟩
    rcases Nat.lt_or_ge i gs.length with hj | hj
    ·have e : (gs ++ [l]).getD i [] = gs.getD i [] := by rw [jA, List.getElem?_append_left hj, jA]
     rw [e]
     exact hLc i hj
    ·have hi' : i = gs.length := by rw [jC, List.length_singleton] at hi; omega
     subst hi'
     have e : (gs ++ [l]).getD gs.length [] = l := by rw [jA, List.getElem?_append_right (jD _)]; simp
     rw [e]
     refine ⟨a, Ai, ci, rfl, ?_, ?_, hli, hlr⟩
     ·have := cell_lt h0
      rwa [add_block] at this
     ·rw [hL]
      exact h0
  obtain ⟨gs, hL, hLs, hLc⟩ := key len (jD _)
  exact ⟨some a, gs, cap, by rw [hL], by rw [hL]; exact hl, by rw [hL]; simp only [maxLen] at hm; omega, hLs, hLc⟩
end Go.Proofs.YtfnhmnbcponkfaaGreatDoor
namespace Go.Proofs.YtfnhmnbcponkfaaGreatDoor
open Go.RowKit
structure Gro3 where
 nn : List Nat
 ep : Nat
 l : List Pc
def gr0 : Gro3 := ⟨n12z, 0, []⟩
def grL (g : Gro3) (A : Option Addr) (c : Nat) : List Value := byt g.nn ++ [.int .u32 (g.ep : Int), .slice A g.l.length c]
theorem grL_len (g : Gro3) (A : Option Addr) (c : Nat) (h : g.nn.length = 12) : (grL g A c).length = 14 := by unfold grL; simp [byt_len, h]
structure GrOk (g : Gro3) : Prop where
 nl : g.nn.length = 12
 nb : ∀ c ∈ g.nn, c < 256
 ep : g.ep < 4294967296
structure GrQ (W : World) (P : Nat → Prop) (us : List (List Value)) (gs : List Gro3) : Prop where
 len : us.length = gs.length
 at_ : ∀ i, i < gs.length → ∃ A c, us.getD i [] = grL (gs.getD i gr0) A c ∧ (gs.getD i gr0).l.length ≤ c ∧ RdP W W.heap.size A (gs.getD i gr0).l ∧ ∀ ad, A = some ad → pcs (gs.getD i gr0).l ≠ [] → P ad.block
 ok : ∀ g ∈ gs, GrOk g
theorem GrQ.nil_ (W : World) (P : Nat → Prop) : GrQ W P [] [] := ⟨rfl, fun i hi => by simp at hi, fun b hb => by cases hb⟩
theorem GrQ.next {W W' : World} {P : Nat → Prop} {us : List (List Value)} {gs : List Gro3} (h : GrQ W P us gs) (hb : Below W.heap.size W W') : GrQ W' P us gs := ⟨h.len, fun i hi => by
 obtain ⟨A, c, h1, h2, h3, h4⟩ := h.at_ i hi
 exact ⟨A, c, h1, h2, (Rd.below (show Rd W W.heap.size A (pcs _) from h3) hb).more hb.size, h4⟩, h.ok⟩
theorem GrQ.imp {W : World} {P P' : Nat → Prop} {us : List (List Value)} {gs : List Gro3} (h : GrQ W P us gs) (hp : ∀ b, b < W.heap.size → P b → P' b) : GrQ W P' us gs := ⟨h.len, fun i hi => by
 obtain ⟨A, c, h1, h2, h3, h4⟩ := h.at_ i hi
 refine ⟨A, c, h1, h2, h3, fun ad e hne => ?_⟩
 obtain ⟨ad', e', hb, _⟩ := h3 hne
 rw [e] at e'
 injection e' with e'
 subst e'
 exact hp _ hb (h4 ad e hne), h.ok⟩
theorem GrQ.grown {W W' : World} {o : Option Nat} {P : Nat → Prop} {us : List (List Value)} {gs : List Gro3} (h : GrQ W P us gs) (hg : W.grownBy W' o) (hp : ∀ b, P b → some b ≠ o) : GrQ W' P us gs := ⟨h.len, fun i hi => by
 obtain ⟨A, c, h1, h2, h3, h4⟩ := h.at_ i hi
 refine ⟨A, c, h1, h2, fun hne => ?_, h4⟩
 obtain ⟨ad, e, hb, hat⟩ := h3 hne
 refine ⟨ad, e, jH hb hg.size, fun j u hu => ?_⟩
 rw [← hat j u hu]
 exact World.cell?_of_block (hg.block _ (by rw [add_block]; exact hb) (by rw [add_block]; exact hp _ (h4 ad e hne))), h.ok⟩
theorem GrQ.snoc {W : World} {P : Nat → Prop} {us : List (List Value)} {gs : List Gro3} {g : Gro3} {A : Option Addr} {c : Nat} (h : GrQ W P us gs) (hc : g.l.length ≤ c) (hr : RdP W W.heap.size A g.l) (ha : ∀ ad, A = some ad → pcs g.l ≠ [] → P ad.block) (hok : GrOk g) : GrQ W P (us ++ [grL g A c]) (gs ++ [g]) := by
 refine ⟨by simp [h.len], fun i hi => ?_, fun x hx => ?_⟩
 ·by_cases hlt : i < gs.length
  ·have e : (gs ++ [g]).getD i gr0 = gs.getD i gr0 := by rw [jA, List.getElem?_append_left hlt, jA]
   have e1 : (us ++ [grL g A c]).getD i [] = us.getD i [] := by rw [jA, List.getElem?_append_left (by rw [h.len]; exact hlt), jA]
   rw [e, e1]
   exact h.at_ i hlt
  ·have hi' : i = gs.length := by simp at hi; omega
   subst hi'
   have e : (gs ++ [g]).getD gs.length gr0 = g := by rw [jA, List.getElem?_append_right (jD _)]; simp
   have e1 : (us ++ [grL g A c]).getD gs.length [] = grL g A c := by rw [← h.len, jA, List.getElem?_append_right (jD _)]; simp
   rw [e, e1]
   exact ⟨A, c, rfl, hc, hr, ha⟩
 ·rcases List.mem_append.1 hx with h1 | h1
  ·exact h.ok x h1
  ·rw [List.mem_singleton.1 h1]; exact hok
theorem GrQ.lens {W : World} {P : Nat → Prop} {us : List (List Value)} {gs : List Gro3} (h : GrQ W P us gs) : ∀ u ∈ us, u.length = 14 := fun u hu => by
 obtain ⟨i, hi, e⟩ := List.getElem_of_mem hu
 have hi2 : i < gs.length := by rw [← h.len]; exact hi
 obtain ⟨A, c, h1, _, _⟩ := h.at_ i hi2
 rw [jA, jB hi] at h1
 have hb : GrOk (gs.getD i gr0) := h.ok _ (by rw [jA, jB hi2]; exact List.getElem_mem hi2)
 rw [← e, show us[i] = _ from h1, grL_len _ _ _ hb.nl]
def RdO (W : World) (A : Option Addr) (gs : List Gro3) : Prop := ∃ us, GrQ W (fun _ => True) us gs ∧ Rd W W.heap.size A us.flatten
theorem RdO.next {W W' : World} {A : Option Addr} {gs : List Gro3} (h : RdO W A gs) (hb : Below W.heap.size W W') : RdO W' A gs := by
 obtain ⟨us, h1, h2⟩ := h
 exact ⟨us, h1.next hb, (h2.below hb).more hb.size⟩
theorem RdO.at_ {W : World} {A : Option Addr} {gs : List Gro3} (h : RdO W A gs) {i : Nat} (hi : i < gs.length) :
  ∃ ad Ai ci, A = some ad ∧ ad.block < W.heap.size ∧ AtA W (ad.add (i * 14)) (grL (gs.getD i gr0) Ai ci) ∧ (gs.getD i gr0).l.length ≤ ci ∧ RdP W W.heap.size Ai (gs.getD i gr0).l ∧ GrOk (gs.getD i gr0) := by
 obtain ⟨us, h1, h2⟩ := h
 have hiu : i < us.length := by rw [h1.len]; exact hi
 obtain ⟨Ai, ci, e, h3, h4, _⟩ := h1.at_ i hi
 have hl := h1.lens
 have hgu : us.getD i [] = us[i] := by rw [jA, jB hiu]; rfl
 obtain ⟨ad, rfl, hb, hat⟩ := h2 (by
  intro h0
  have h5 : (us[i]).length = 0 := by
   have := List.flatten_eq_nil_iff.1 h0 us[i] (List.getElem_mem hiu)
   rw [this]; rfl
  rw [hl _ (List.getElem_mem hiu)] at h5
  cases h5)
 refine ⟨ad, Ai, ci, rfl, hb, ?_, h3, h4, h1.ok _ (by rw [jA, jB hi]; exact List.getElem_mem hi)⟩
 have h6 := (show AtA W ad us.flatten from hat).drop (i * 14) 14
 rw [flat_drop us i hl, List.drop_eq_getElem_cons hiu, List.flatten_cons, List.take_left' (hl _ (List.getElem_mem hiu)), ← hgu, e] at h6
 exact h6
def OwnO (W : World) (base : Nat) (v : Value) (us : List (List Value)) : Prop := W.ownsRow base 66 14 v us.length us.flatten
theorem OwnO.next {W W' : World} {base : Nat} {v : Value} {us : List (List Value)} (h : OwnO W base v us) (hb : Below W.heap.size W W') : OwnO W' base v us := own_keep (S := fun _ => False) h (Only.of_below hb) (fun _ _ h => h)
theorem OwnO.nil_ (W : World) (base : Nat) : OwnO W base (.slice none 0 0) [] := ⟨rfl, .inl ⟨rfl, rfl⟩⟩
theorem OwnO.alloc {w : World} {base : Nat} {v : Value} {us : List (List Value)} (h : OwnO w base v us) (o : Obj) : OwnO (w.alloc o) base v us := World.ownsRow.alloc h o
theorem OwnO.rd {W : World} {base : Nat} {v : Value} {us : List (List Value)} {gs : List Gro3} {P : Nat → Prop} (h : OwnO W base v us) (hv : GrQ W P us gs) : ∃ A cap, v = .slice A gs.length cap ∧ gs.length ≤ cap ∧ cap ≤ maxLen ∧ RdO W A gs := by
 obtain ⟨A, cap, e, h1, h2, h3⟩ := own_rd h
 rw [hv.len] at e h1
 exact ⟨A, cap, e, h1, h2, us, hv.imp (fun _ _ _ => trivial), h3⟩
theorem OwnO.snoc {W W' : World} {base : Nat} {v v' : Value} {us : List (List Value)} {u : List Value} (h : Apped W base 66 14 v W' v' (us.length + 1) (us.flatten ++ u)) : OwnO W' base v' (us ++ [u]) := by
 have h1 := h.own
 unfold OwnO
 rw [jC, List.flatten_append, show [u].flatten = u by simp]
 exact h1
structure OpG (Zn wr : World) (lv gv : Value) (us : List (List Value)) (bs : List Bxo) (vs : List (List Value)) (gs : List Gro3) : Prop where
 lo : OwnX wr Zn.heap.size lv us
 go : OwnO wr Zn.heap.size gv vs
 bel : Below Zn.heap.size Zn wr
 ne : ∀ g, lv.ownBlock = some g → gv.ownBlock ≠ some g
 bv : BsQ wr (fun b => some b ≠ lv.ownBlock ∧ some b ≠ gv.ownBlock) us bs
 gq : GrQ wr (fun b => some b ≠ lv.ownBlock ∧ some b ≠ gv.ownBlock) vs gs
theorem OpG.next {Zn wr wr' : World} {lv gv : Value} {us : List (List Value)} {bs : List Bxo} {vs : List (List Value)} {gs : List Gro3} (h : OpG Zn wr lv gv us bs vs gs) (hb : Below wr.heap.size wr wr') : OpG Zn wr' lv gv us bs vs gs :=
 ⟨h.lo.next hb, h.go.next hb, h.bel.trans (hb.mono h.bel.size), h.ne, h.bv.next hb, h.gq.next hb⟩
theorem OpG.begin (Zn : World) : OpG Zn Zn (.slice none 0 0) (.slice none 0 0) [] [] [] [] :=
 ⟨OwnX.nil_ _ _, OwnO.nil_ _ _, jE _ _, fun g e => (by cases e), BsQ.nil_ _ _, GrQ.nil_ _ _⟩
theorem OpG.box {Zn W W' : World} {lv lv' gv : Value} {us : List (List Value)} {bs : List Bxo} {vs : List (List Value)} {gs : List Gro3} {b : Bxo} {A : Option Addr} {c : Nat} (h : OpG Zn W lv gv us bs vs gs) (hap : Apped W Zn.heap.size 61 15 lv W' lv' (us.length + 1) (us.flatten ++ bxL b.t b.ep b.nn A b.body.length c))
  (hc : b.body.length ≤ c) (hr : Rd W W.heap.size A (byt b.body)) (ha : ∀ ad, A = some ad → byt b.body ≠ [] → some ad.block ≠ lv.ownBlock ∧ some ad.block ≠ gv.ownBlock) (hok : BoOk b) : OpG Zn W' lv' gv (us ++ [bxL b.t b.ep b.nn A b.body.length c]) (bs ++ [b]) vs gs := by
 have h2 : ∀ g, gv.ownBlock = some g → g < W.heap.size := own_lt h.go
 have hne2 : ∀ g, gv.ownBlock = some g → lv.ownBlock ≠ some g := fun g e1 e2 => h.ne g e2 e1
 have hst : ∀ b, b < W.heap.size → (some b ≠ lv.ownBlock ∧ some b ≠ gv.ownBlock) → (some b ≠ lv.ownBlock ∧ some b ≠ gv.ownBlock) ∧ some b ≠ lv'.ownBlock := fun b hb hp => ⟨hp, by
  rcases hap.lies with h3 | h3
  ·rw [h3]; exact hp.1
  ·rw [h3]; intro e; injection e with e; omega⟩
 refine ⟨OwnX.snoc hap, own_keep (S := fun g => lv.ownBlock = some g) h.go (hap.only (fun g e => e)) hne2, h.bel.trans (hap.below h.lo h.bel.size), ?_, ?_, ?_⟩
 ·intro g e1 e2
  rcases hap.lies with h3 | h3
  ·rw [h3] at e1; exact h.ne g e1 e2
  ·rw [h3] at e1
   injection e1 with e1
   have := h2 g e2
   omega
 ·exact ((h.bv.snoc hc hr ha hok).imp (P' := fun b => (some b ≠ lv.ownBlock ∧ some b ≠ gv.ownBlock) ∧ some b ≠ lv'.ownBlock) hst).grown hap.grown (fun b hb => hb.1.1) |>.imp (fun b _ hp => ⟨hp.2, hp.1.2⟩)
 ·exact (h.gq.imp (P' := fun b => (some b ≠ lv.ownBlock ∧ some b ≠ gv.ownBlock) ∧ some b ≠ lv'.ownBlock) hst).grown hap.grown (fun b hb => hb.1.1) |>.imp (fun b _ hp => ⟨hp.2, hp.1.2⟩)
theorem OpG.grp {Zn W W' : World} {lv gv gv' : Value} {us : List (List Value)} {bs : List Bxo} {vs : List (List Value)} {gs : List Gro3} {g : Gro3} {A : Option Addr} {c : Nat} (h : OpG Zn W lv gv us bs vs gs) (hap : Apped W Zn.heap.size 66 14 gv W' gv' (vs.length + 1) (vs.flatten ++ grL g A c))
  (hc : g.l.length ≤ c) (hr : RdP W W.heap.size A g.l) (ha : ∀ ad, A = some ad → pcs g.l ≠ [] → some ad.block ≠ lv.ownBlock ∧ some ad.block ≠ gv.ownBlock) (hok : GrOk g) : OpG Zn W' lv gv' us bs (vs ++ [grL g A c]) (gs ++ [g]) := by
 have h2 : ∀ g, lv.ownBlock = some g → g < W.heap.size := own_lt h.lo
 have hst : ∀ b, b < W.heap.size → (some b ≠ lv.ownBlock ∧ some b ≠ gv.ownBlock) → (some b ≠ lv.ownBlock ∧ some b ≠ gv.ownBlock) ∧ some b ≠ gv'.ownBlock := fun b hb hp => ⟨hp, by
  rcases hap.lies with h3 | h3
  ·rw [h3]; exact hp.2
  ·rw [h3]; intro e; injection e with e; omega⟩
 refine ⟨own_keep (S := fun g => gv.ownBlock = some g) h.lo (hap.only (fun g e => e)) (fun g e => h.ne g e), OwnO.snoc hap, h.bel.trans (hap.below h.go h.bel.size), ?_, ?_, ?_⟩
 ·intro g e1 e2
  rcases hap.lies with h3 | h3
  ·rw [h3] at e2; exact h.ne g e1 e2
  ·rw [h3] at e2
   injection e2 with e2
   have := h2 g e1
   omega
 ·exact (h.bv.imp (P' := fun b => (some b ≠ lv.ownBlock ∧ some b ≠ gv.ownBlock) ∧ some b ≠ gv'.ownBlock) hst).grown hap.grown (fun b hb => hb.1.2) |>.imp (fun b _ hp => ⟨hp.1.1, hp.2⟩)
 ·exact ((h.gq.snoc hc hr ha hok).imp (P' := fun b => (some b ≠ lv.ownBlock ∧ some b ≠ gv.ownBlock) ∧ some b ≠ gv'.ownBlock) hst).grown hap.grown (fun b hb => hb.1.2) |>.imp (fun b _ hp => ⟨hp.1.1, hp.2⟩)
def keyE (e : Nat) : List Nat := e :: List.replicate 31 0
theorem keyE_len (e : Nat) : (keyE e).length = 32 := by simp [keyE]
theorem keyE_lt {e : Nat} (h : e < 256) : ∀ c ∈ keyE e, c < 256 := by
 intro c hc
 rcases List.mem_cons.1 hc with rfl | hc
 ·exact h
 ·rw [List.eq_of_mem_replicate hc]; decide
theorem built_key (e : Nat) : Tryz.prog.built 45 [(0, .int .u8 (e : Int))] = some (vb (keyE e)) := by kernel_rfl
theorem key29_c (e : Nat) (w : World) (he : e < 256) :
  Calls Tryz.prog 13 #[.int .u32 (e : Nat)] w fun en w' => en = .returned (.agg (vb (keyE e))) ∧ Below w.heap.size w w' := by
 have zf2 := zero_keyX
 have zs3 : (vb z32).size = 32 := by rfl
 have zs4 : ¬ vb z32 = #[] := by intro h; have := congrArg Array.size h; rw [zs3] at this; cases this
 have HKS := Li (keySz (keyE_len e))
 have HBT := Li (built_key e)
 have HZ := Li (show (vb z32).size = (vb (keyE e)).size by rw [vb_size, vb_size, keyE_len]; rfl)
 have m1 : (e : Int) ≤ 255 := by omega
 have m2 : (0 : Int) ≤ (e : Int) := by omega
 obtain ⟨K, hK⟩ : ∃ K, K = keyE e := ⟨_, rfl⟩
 rw [← hK] at HKS HBT HZ ⊢
 clear hK
 go_enter Tryz.func13, Tryz.ntmps13
 go_wp2_with (first
  | (refine wpList_valG (by kernel_rfl) (.agg (vb K)) (by exact run_built _ 45 [(0, .int .u8 (e : Int))] (vb K) HBT.out #[(0, .tmp 4)] rfl (by kernel_rfl)) ?_)
  | (refine wpList_store_rowTo rfl 45 (.tmp 2) (.tmp 5) rfl rfl w.heap.size (vb K) rfl rfl 45 (vb z32) (by exact heap_alloc_new _ _) HKS.out HZ.out (vb_all _) ?_))
 obtain ⟨Y, hY⟩ : ∃ Y, Y = (w.alloc (Obj.cells (vb z32) 45)).setRow w.heap.size (vb K) := ⟨_, rfl⟩
 have hnr := new_rowP w 45 (vb z32) (vb K)
 rw [← hY] at hnr ⊢
 refine bodyPost_ret (results_cell_row rfl _ _ w.heap.size 45 (vb K) (0, 0) _ rfl hnr.1 Tryz.underlying45 rfl HKS.out) rfl ?_
 exact ⟨rfl, hnr.2⟩
def kf3 : Nat → Option (List Nat) := fun e => if e = 3 then some (keyE 3) else if e = 2 then some (keyE 2) else if e = 1 then some (keyE 1) else none
theorem kf3_at {e : Nat} (h1 : 1 ≤ e) (h3 : e ≤ 3) : kf3 e = some (keyE e) := by
 have : e = 1 ∨ e = 2 ∨ e = 3 := by omega
 rcases this with rfl | rfl | rfl <;> rfl
theorem keys_three (Z : World) : ∃ Z1 Z2 Z3 Z4, (Instr.makeMap 37 none).run Tryz.prog Z = .ok (.map (some Z.heap.size)) Z1 ∧ Below Z.heap.size Z Z1 ∧
  (Instr.mapUpdate 37 (.map (some Z.heap.size)) (.int .u32 1) (.agg (vb (keyE 1)))).run Tryz.prog Z1 = .ok () Z2 ∧ Below Z.heap.size Z Z2 ∧
  (Instr.mapUpdate 37 (.map (some Z.heap.size)) (.int .u32 2) (.agg (vb (keyE 2)))).run Tryz.prog Z2 = .ok () Z3 ∧ Below Z.heap.size Z Z3 ∧
  (Instr.mapUpdate 37 (.map (some Z.heap.size)) (.int .u32 3) (.agg (vb (keyE 3)))).run Tryz.prog Z3 = .ok () Z4 ∧ Below Z.heap.size Z Z4 ∧ KeysAt Z4 Z.heap.size 3 (kmV kf3) := by
 have hm := KeysAt.made Z
 have hb1 : Below Z.heap.size Z (Z.alloc (.map #[] 0)) := (jE _ _).alloc (jD _) _
 obtain ⟨Z2, r2, k2, g2⟩ := hm.store keysMapU (by decide) (ep := 1) (by decide) (vb (keyE 1))
 have hb2 := hb1.grown g2 hb1.size (fun b e => by injection e with e; omega)
 obtain ⟨Z3, r3, k3, g3⟩ := k2.store keysMapU (by decide) (ep := 2) (by decide) (vb (keyE 2))
 have hb3 := hb2.grown g3 hb2.size (fun b e => by injection e with e; omega)
 obtain ⟨Z4, r4, k4, g4⟩ := k3.store keysMapU (by decide) (ep := 3) (by decide) (vb (keyE 3))
 have hb4 := hb3.grown g4 hb3.size (fun b e => by injection e with e; omega)
 refine ⟨_, Z2, Z3, Z4, by rfl, hb1, r2, hb2, r3, hb3, r4, hb4, ?_⟩
 have e : (fun x => if x = 3 then some (vb (keyE 3)) else (fun x => if x = 2 then some (vb (keyE 2)) else (fun x => if x = 1 then some (vb (keyE 1)) else none) x) x) = kmV kf3 := by
  funext x
  unfold kmV kf3
  by_cases h3 : x = 3
  ·simp [h3]
  ·by_cases h2 : x = 2
   ·simp [h2]
   ·by_cases h1 : x = 1
    ·simp [h1]
    ·simp [h1, h2, h3]
 rw [← e]
 exact k4
theorem keys29_c (w : World) :
  Calls Tryz.prog 8 #[] w fun en w' => ∃ kb, en = .returned (.map (some kb)) ∧ KeysAt w' kb 3 (kmV kf3) ∧ Below w.heap.size w w' := by
 obtain ⟨Z1, Z2, Z3, Z4, r1, _, r2, _, r3, _, r4, hb4, hk⟩ := keys_three w
 have HB1 := Li (built_key 1)
 have HB2 := Li (built_key 2)
 have HB3 := Li (built_key 3)
 have HBE := Li hb4
 have HKE := Li hk
 obtain ⟨k1, hk1⟩ : ∃ k1, k1 = vb (keyE 1) := ⟨_, rfl⟩
 obtain ⟨k2, hk2⟩ : ∃ k2, k2 = vb (keyE 2) := ⟨_, rfl⟩
 obtain ⟨k3, hk3⟩ : ∃ k3, k3 = vb (keyE 3) := ⟨_, rfl⟩
 rw [← hk1] at r2 HB1
 rw [← hk2] at r3 HB2
 rw [← hk3] at r4 HB3
 clear hk1 hk2 hk3 hb4 hk
 go_enter Tryz.func8, Tryz.ntmps8
 go_wp2_with (first
  | (refine wpList_valG (by kernel_rfl) (.agg k1) (by exact run_built _ 45 [(0, .int .u8 1)] k1 HB1.out #[(0, .const (.int .u8 1))] rfl (by kernel_rfl)) ?_)
  | (refine wpList_valG (by kernel_rfl) (.agg k2) (by exact run_built _ 45 [(0, .int .u8 2)] k2 HB2.out #[(0, .const (.int .u8 2))] rfl (by kernel_rfl)) ?_)
  | (refine wpList_valG (by kernel_rfl) (.agg k3) (by exact run_built _ 45 [(0, .int .u8 3)] k3 HB3.out #[(0, .const (.int .u8 3))] rfl (by kernel_rfl)) ?_))
 go_ret
 exact ⟨_, rfl, HKE.out, HBE.out⟩
theorem op_allocP {P : Program} {o : Oper} {a : Act} {w : World} {T : TypeId} {z : Array Value} (ho : o.op = .alloc T) (hz : ∀ w, (zeroValue T).run P w = .ok (.agg z) w) (hne : ¬ z = #[]) :
  (execOp a.eval o).run P w = .ok (.value (.pointer (some ⟨w.heap.size, 0, none⟩))) (w.alloc (.cells z T)) := by
 unfold execOp
 simp [ho, Instr.alloc, hz, newVar, newRow, Value.cells, hne]
theorem own_off {W W' : World} {base b : Nat} {v : Value} {l : List Nat} (h : OwnB W base v l) (ho : Only (fun i => i = b) W W') (hn : v.ownBlock ≠ some b) : OwnB W' base v l :=
 own_keep (S := fun i => i = b) h ho (fun g e hg => hn (by rw [e, hg]))
theorem setRow_only (W : World) (b : Nat) (cs : Array Value) : Only (fun i => i = b) W (W.setRow b cs) :=
 ⟨rfl, rfl, rfl, by simp [World.setRow], fun i hi hn => setRow_other _ _ i _ hn⟩
def boxes (k : List Nat) (t : ByteArray) (ep : Nat) (gs : List (List Pc)) (n : Nat) : List Bxo := bosTo (fun _ => k) t (fun _ => ep) (fun i => gs.getD i []) n
structure PkI (W1 wr : World) (lv : Value) (us : List (List Value)) (bs : List Bxo) : Prop where
 own : OwnX wr W1.heap.size lv us
 bel : Below W1.heap.size W1 wr
 bv : BsQ wr (fun b => some b ≠ lv.ownBlock) us bs
theorem PkI.next {W1 wr wr' : World} {lv : Value} {us : List (List Value)} {bs : List Bxo} (h : PkI W1 wr lv us bs) (hb : Below wr.heap.size wr wr') : PkI W1 wr' lv us bs :=
 ⟨h.own.next hb, h.bel.trans (hb.mono h.bel.size), h.bv.next hb⟩
theorem PkI.box {W1 W W' : World} {lv lv' : Value} {us : List (List Value)} {bs : List Bxo} {b : Bxo} {A : Option Addr} {c : Nat} (h : PkI W1 W lv us bs) (hap : Apped W W1.heap.size 61 15 lv W' lv' (us.length + 1) (us.flatten ++ bxL b.t b.ep b.nn A b.body.length c))
  (hc : b.body.length ≤ c) (hr : Rd W W.heap.size A (byt b.body)) (ha : ∀ ad, A = some ad → byt b.body ≠ [] → some ad.block ≠ lv.ownBlock) (hok : BoOk b) : PkI W1 W' lv' (us ++ [bxL b.t b.ep b.nn A b.body.length c]) (bs ++ [b]) := by
 refine ⟨OwnX.snoc hap, h.bel.trans (hap.below h.own h.bel.size), ?_⟩
 refine (h.bv.snoc hc hr ha hok).imp (P' := fun b => some b ≠ lv.ownBlock ∧ some b ≠ lv'.ownBlock) (fun b hb hp => ⟨hp, ?_⟩) |>.grown hap.grown (fun b hb => hb.1) |>.imp (fun b _ hp => hp.2)
 rcases hap.lies with h3 | h3
 ·rw [h3]; exact hp
 ·rw [h3]; intro e; injection e with e; omega
end Go.Proofs.YtfnhmnbcponkfaaGreatDoor
