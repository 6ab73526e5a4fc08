/- KeeperTakes returns true for any number of shares that are needed, any proof, own share and shares that are offered. Conditions: the rounds are as the program lays them. -/
import Derived.Test.YtdbfikcpaionbaaDoorZ08
import Derived.Test.YtdbfikcpaionbaaDoorTie
import Derived.Test.YtdbfikcpaionbaaDoorCards
import Derived.SevenTiedAt
/- KeeperTakes, walked. -/
namespace Go.Proofs.YtdbfikcpaionbaaDoor
open Go.RowKit
set_option linter.unusedVariables false
set_option linter.unusedSimpArgs false
theorem own_type {w : World} {base n : Nat} {v : Value} {l : List Nat} (h : OwnS w base v n l) {b : Nat} (hb : v.ownBlock = some b) : ∃ cur, w.heap[b]? = some (.cells cur 31 (0, 0)) := by
  rcases h.2 with ⟨rfl, _⟩ | ⟨g, cap, cur, rfl, _, hg, _⟩
  · cases hb
  · injection hb with hb
    subst hb
    exact ⟨cur, hg⟩
theorem PrK.mk2 {w W : World} {g1 g2 : Nat} {sa sb : Kst} {v1 v2 : Value} (a : KAt W g1 48 101 sa v1) (b : KAt W g2 44 100 sb v2) (hb : Below w.heap.size w W) (l1 : w.heap.size ≤ g1) (l2 : w.heap.size ≤ g2) (o1 : ∀ b, v1.ownBlock = some b → b = g1 + 1) (o2 : ∀ b, v2.ownBlock = some b → b = g2 + 1) : PrK w W g1 g2 sa sb v1 v2 := by
  obtain ⟨ca, ha, _⟩ := a.bk
  obtain ⟨cb, hb2, _⟩ := b.bk
  have hn : g1 ≠ g2 := fun e => by
    rw [e, hb2] at ha
    injection ha with ha
    injection ha with _ ha
    exact absurd ha (by decide)
  refine ⟨a, b, hb, l1, l2, hn, fun h => ?_, fun h => ?_, fun c h1 h2 => ?_⟩
  · obtain ⟨cur, hc⟩ := own_type a.own h
    rw [hb2] at hc
    injection hc with hc
    injection hc with _ hc
    exact absurd hc (by decide)
  · obtain ⟨cur, hc⟩ := own_type b.own h
    rw [ha] at hc
    injection hc with hc
    injection hc with _ hc
    exact absurd hc (by decide)
  · have e1 := o1 c h1
    have e2 := o2 c h2
    omega
theorem wpQuiet_valK {P : Program} {ops : Array Oper} {C : World → Prop} {Q : Act → Prop} {a : Act} {o : Oper} {rest : List Oper} (v : Value) (hr : ∀ w, C w → (execOp a.eval o).run P w = .ok (.value v) w) (hw : Region.wanted o (yielded ops a.tmps) = true)
    (a' : Act) (ha : a.put o.dst v = a') (h : wpQuiet P ops C Q rest a') : wpQuiet P ops C Q (o :: rest) a := by
  refine BigFrame.wpQuiet_want hw fun K hK => ⟨v, fun w hw' => ?_, ?_⟩
  · unfold Oper.quietAt
    rw [hr w hw']
    exact ⟨rfl, rfl⟩
  · rw [ha]; exact hK _ h
section
variable {P : Program}
theorem op_lenS {o : Oper} {a : Act} {w : World} (s : Operand) (T : TypeId) {e : TypeId} (ht : P.underlying T = some (.slice e)) {A : Option Addr} {n c : Nat} (ho : o.op = .call { callee := .builtin .len, args := #[s], argTypes := #[T] }) (hs : a.eval s = .slice A n c) :
    (execOp a.eval o).run P w = .ok (.value (.int .i64 (n : Nat))) w := by
  unfold execOp
  simp only [ho, resolve, invoke, builtin, Sem.run_bind, Sem.run_pure, Result.andThen_ok, List.map_toArray, List.map_cons, List.map_nil, hs]
  simp [Builtin.len_, run_underlying ht, goInt]
end
set_option maxRecDepth 100000 in
set_option maxHeartbeats 4000000 in
theorem takes_c (t : Int) (p s L : List Nat) (A : Option Addr) (n c : Nat) (w : World) (hp : p.length = 32) (hpb : ∀ c ∈ p, c < 256) (hs : s.length = 33) (hsb : ∀ c ∈ s, c < 256) (h0 : -9223372036854775808 ≤ t) (h1 : t ≤ 9223372036854775807) (hc1 : n ≤ c) (hc2 : c ≤ maxLen) (hl : ∀ c ∈ L, c < 256) (hr : RdS w w.heap.size A n L) (hR : RoundsAt w) :
    Calls Tryd.prog 5 #[.int .i64 t, .agg (vb p), .agg (vb s), .slice A n c] w fun e w' => e = .returned (.bool true) ∧ Below w.heap.size w w' := by
  have HRO := Lib.hid hR
  have HRL := Lib.hid hr
  have HLB := Lib.hid hl
  have HPS := Lib.hid (sum_sz hp)
  have HSS := Lib.hid (share_size s hs)
  by_cases hn : 12 < n
  · have q1 : (12 : Int) < (n : Int) := by omega
    clear hr hl hR hn
    go_enter Tryd.func5, Tryd.ntmps5
    go_upto_region 1 with (first
      | (refine Go.Great.wpList_boxTo rfl 28 (.tmp 1) rfl (some 5) rfl w.heap.size rfl (vb p) rfl ?_)
      | (refine Go.Great.wpList_boxTo rfl 31 (.tmp 2) rfl (some 6) rfl (w.heap.size + 1) (by simp) (vb s) rfl ?_))
    have hz1 : Blk ((w.alloc (Obj.cells (vb p) 28)).alloc (Obj.cells (vb s) 31)) w.heap.size 28 (vb p) := (Blk.new w _ _).alloc _
    have hz2 : Blk ((w.alloc (Obj.cells (vb p) 28)).alloc (Obj.cells (vb s) 31)) (w.heap.size + 1) 31 (vb s) := by
      have h := Blk.new (w.alloc (Obj.cells (vb p) 28)) 31 (vb s)
      simpa using h
    have hzb : Below w.heap.size w ((w.alloc (Obj.cells (vb p) 28)).alloc (Obj.cells (vb s) 31)) := ((Below.refl _ _).alloc (Nat.le_refl _) _).alloc (by simp) _
    generalize (w.alloc (Obj.cells (vb p) 28)).alloc (Obj.cells (vb s) 31) = Z at *
    have HZ1 := Lib.hid hz1
    have HZ2 := Lib.hid hz2
    have HZB := Lib.hid hzb
    clear hz1 hz2 hzb
    go_wp2_with (go_at_call 6; (refine (awake30_c Z (HRO.out.next HZB.out)).mono ?_); rintro e W9 ⟨rfl, hb9⟩; have HB9 := Lib.hid (HZB.out.trans (hb9.mono HZB.out.size)); clear hb9)
    go_ret
    exact ⟨rfl, HB9.out⟩
  have q1 : ¬ (12 : Int) < (n : Int) := by omega
  by_cases ht : 12 < t
  · clear hr hl hR hn
    go_enter Tryd.func5, Tryd.ntmps5
    go_upto_region 1 with (first
      | (refine Go.Great.wpList_boxTo rfl 28 (.tmp 1) rfl (some 5) rfl w.heap.size rfl (vb p) rfl ?_)
      | (refine Go.Great.wpList_boxTo rfl 31 (.tmp 2) rfl (some 6) rfl (w.heap.size + 1) (by simp) (vb s) rfl ?_))
    have hz1 : Blk ((w.alloc (Obj.cells (vb p) 28)).alloc (Obj.cells (vb s) 31)) w.heap.size 28 (vb p) := (Blk.new w _ _).alloc _
    have hz2 : Blk ((w.alloc (Obj.cells (vb p) 28)).alloc (Obj.cells (vb s) 31)) (w.heap.size + 1) 31 (vb s) := by
      have h := Blk.new (w.alloc (Obj.cells (vb p) 28)) 31 (vb s)
      simpa using h
    have hzb : Below w.heap.size w ((w.alloc (Obj.cells (vb p) 28)).alloc (Obj.cells (vb s) 31)) := ((Below.refl _ _).alloc (Nat.le_refl _) _).alloc (by simp) _
    generalize (w.alloc (Obj.cells (vb p) 28)).alloc (Obj.cells (vb s) 31) = Z at *
    have HZ1 := Lib.hid hz1
    have HZ2 := Lib.hid hz2
    have HZB := Lib.hid hzb
    clear hz1 hz2 hzb
    go_wp2_with (go_at_call 6; (refine (awake30_c Z (HRO.out.next HZB.out)).mono ?_); rintro e W9 ⟨rfl, hb9⟩; have HB9 := Lib.hid (HZB.out.trans (hb9.mono HZB.out.size)); clear hb9)
    go_ret
    exact ⟨rfl, HB9.out⟩
  have HNW := Lib.hid (fun W => knew_c t p s W hp hpb hs hsb h0 h1)
  have HRW := Lib.hid (fun W => rnew_c t p s W hp hpb hs hsb h0 h1)
  have hok0 := kNew_ok hp hpb hs hsb h0 h1
  have hn0 : (kNew t p s).n ≤ 1 := aloN_le s
  have HOK := Lib.hid (fun i (hi : i ≤ n) => kRun_ok hok0 hr.1 hl i hi)
  have HNN := Lib.hid (fun i (hi : i ≤ n) => (show (kRun (kNew t p s) L i).n ≤ 800 by have := kRun_n (kNew t p s) L i; omega))
  have HPSL := Lib.hid (show (Tryd.prog.info? 28).map (·.size) = some (vb p).toList.length by rw [Array.length_toList]; exact sum_sz hp)
  have HSSL := Lib.hid (show (Tryd.prog.info? 31).map (·.size) = some (vb s).toList.length by rw [Array.length_toList]; exact share_size s hs)
  have hcm : (c : Int) ≤ 9223372036854775807 := by simp only [maxLen] at hc2; omega
  have HLN := Lib.hid hr.1
  have HAT := Lib.hid (fun (h : 0 < n) => hr.open_ h)
  clear hr hl hR hok0 hn0 hpb hsb
  go_enter Tryd.func5, Tryd.ntmps5
  go_upto_region 1 with (first
    | (refine Go.Great.wpList_boxTo rfl 28 (.tmp 1) rfl (some 5) rfl w.heap.size rfl (vb p) rfl ?_)
    | (refine Go.Great.wpList_boxTo rfl 31 (.tmp 2) rfl (some 6) rfl (w.heap.size + 1) (by simp) (vb s) rfl ?_))
  have hz1 : Blk ((w.alloc (Obj.cells (vb p) 28)).alloc (Obj.cells (vb s) 31)) w.heap.size 28 (vb p) := (Blk.new w _ _).alloc _
  have hz2 : Blk ((w.alloc (Obj.cells (vb p) 28)).alloc (Obj.cells (vb s) 31)) (w.heap.size + 1) 31 (vb s) := by
    have h := Blk.new (w.alloc (Obj.cells (vb p) 28)) 31 (vb s)
    simpa using h
  have hzb : Below w.heap.size w ((w.alloc (Obj.cells (vb p) 28)).alloc (Obj.cells (vb s) 31)) := ((Below.refl _ _).alloc (Nat.le_refl _) _).alloc (by simp) _
  generalize (w.alloc (Obj.cells (vb p) 28)).alloc (Obj.cells (vb s) 31) = Z at *
  have HZ1 := Lib.hid hz1
  have HZ2 := Lib.hid hz2
  have HZB := Lib.hid hzb
  clear hz1 hz2 hzb
  go_upto_region 3 with fail
  refine wp_region_loud Z [25, 29, 9, 10] (fun k u W => if k = 25 ∨ k = 9 then ∃ g v, u = .pointer (some ⟨g, 0, none⟩) ∧ KAt W g 48 101 (kNew t p s) v ∧ Z.heap.size ≤ g ∧ (∀ b, v.ownBlock = some b → b = g + 1) else ∃ g v, u = .pointer (some ⟨g, 0, none⟩) ∧ KAt W g 44 100 (kNew t p s) v ∧ Z.heap.size ≤ g ∧ (∀ b, v.ownBlock = some b → b = g + 1)) (by kernel_rfl) (by kernel_rfl) (by kernel_rfl) (by kernel_rfl) (fun k u w1 w2 h hb => by
    by_cases hk : k = 25 ∨ k = 9
    · rw [if_pos hk] at h ⊢
      obtain ⟨g, v, h1, h2, h3⟩ := h
      exact ⟨g, v, h1, h2.next hb, h3⟩
    · rw [if_neg hk] at h ⊢
      obtain ⟨g, v, h1, h2, h3⟩ := h
      exact ⟨g, v, h1, h2.next hb, h3⟩) (Below.refl _ _).drew ?_
  repeat (first
    | (refine wpLoud_loadB rfl rfl 28 (.tmp 5) rfl w.heap.size 0 rfl (vb p) _ (fun z => rangeAt_blk (HZ1.out.below z.bel HZ1.out.lt)) Tryd.underlying28 rfl HPSL.out _ (by simp only [Act.put, List.setIfInBounds_toArray, List.set_cons_succ, List.set_cons_zero]; rfl) ?_)
    | (refine wpLoud_loadB rfl rfl 31 (.tmp 6) rfl (w.heap.size + 1) 0 rfl (vb s) _ (fun z => rangeAt_blk (HZ2.out.below z.bel HZ2.out.lt)) Tryd.underlying31 rfl HSSL.out _ (by simp only [Act.put, List.setIfInBounds_toArray, List.set_cons_succ, List.set_cons_zero]; rfl) ?_)
    | (refine wpLoud_call 25 rfl [] tok 7 (fun l => #[.int .i64 t, .agg (vb p), .agg (vb s)]) rfl (fun _ _ h => by cases h) rfl (fun g w => by kernel_rfl) (fun l y hg => by
        refine (HNW.out y.wd).mono ?_
        rintro e w' ⟨g, v, rfl, h1, h2, hb, h3⟩
        exact ⟨_, rfl, hb, ⟨g, v, rfl, h2, Nat.le_trans y.bel.size h1, h3⟩⟩) _ (by simp only [Act.put, List.setIfInBounds_toArray, List.set_cons_succ, List.set_cons_zero]; rfl) ?_)
    | (refine wpLoud_call 29 rfl [] tok 14 (fun l => #[.int .i64 t, .agg (vb p), .agg (vb s)]) rfl (fun _ _ h => by cases h) rfl (fun g w => by kernel_rfl) (fun l y hg => by
        refine (HRW.out y.wd).mono ?_
        rintro e w' ⟨g, v, rfl, h1, h2, hb, h3⟩
        exact ⟨_, rfl, hb, ⟨g, v, rfl, h2, Nat.le_trans y.bel.size h1, h3⟩⟩) _ (by simp only [Act.put, List.setIfInBounds_toArray, List.set_cons_succ, List.set_cons_zero]; rfl) ?_)
    | (refine wpLoud_move rfl 25 9 (.inl rfl) rfl rfl rfl rfl (fun u w h => h) _ (by simp only [Act.put, List.setIfInBounds_toArray, List.set_cons_succ, List.set_cons_zero]; rfl) ?_)
    | (refine wpLoud_move rfl 29 10 (.inl rfl) rfl rfl rfl rfl (fun u w h => h) _ (by simp only [Act.put, List.setIfInBounds_toArray, List.set_cons_succ, List.set_cons_zero]; rfl) ?_)
    | (refine wpLoud_plain rfl rfl rfl ?_; intro K hK; go_big_quiet_op; go_big_quiet_on))
  refine wpLoud_end [9, 10] (by rfl) ?_
  intro gg z hg
  have h9 : ∃ g v, gg 9 = .pointer (some ⟨g, 0, none⟩) ∧ KAt z.wd g 48 101 (kNew t p s) v ∧ Z.heap.size ≤ g ∧ (∀ b, v.ownBlock = some b → b = g + 1) := hg 9 (by simp)
  have h10 : ∃ g v, gg 10 = .pointer (some ⟨g, 0, none⟩) ∧ KAt z.wd g 44 100 (kNew t p s) v ∧ Z.heap.size ≤ g ∧ (∀ b, v.ownBlock = some b → b = g + 1) := hg 10 (by simp)
  obtain ⟨g1, v1, e9, ka, hl1, ho1⟩ := h9
  obtain ⟨g2, v2, e10, kb, hl2, ho2⟩ := h10
  have hzz := HZB.out.size
  have HPR := Lib.hid (PrK.mk2 ka kb (HZB.out.trans (z.bel.mono HZB.out.size)) (Nat.le_trans hzz hl1) (Nat.le_trans hzz hl2) ho1 ho2)
  have hg10 : 0 < g1 := by have h := HRO.out.2; omega
  have hg20 : 0 < g2 := by have h := HRO.out.2; omega
  generalize z.wd = W2 at *
  simp only [fill, Act.put, List.setIfInBounds_toArray, List.set_cons_succ, List.set_cons_zero]
  rw [e9, e10]
  generalize gg 25 = x25 at *
  generalize gg 29 = x29 at *
  clear hg e9 e10 ka kb hl1 hl2 ho1 ho2 hzz HZ1 HZ2 HNW HRW
  obtain ⟨st0, hst0⟩ : ∃ st0, st0 = kNew t p s := ⟨_, rfl⟩
  rw [← hst0] at HPR HOK HNN
  clear hst0
  go_wp2_with fail
  go_loopw [11] (fun i wr => ∃ j, j ≤ n ∧ i = .int .i64 (j : Nat) ∧ ∃ v1 v2, PrK w wr g1 g2 (kRun st0 L j) (kRun st0 L j) v1 v2) (fun i _ => n - (intOf i).toNat)
  case atStart => exact ⟨0, Nat.zero_le _, rfl, _, _, HPR.out⟩
  case round =>
    rename World => wr
    clear HPR
    obtain ⟨i, hi, rfl, v1, v2, hpr⟩ := hrel
    have HPR := Lib.hid hpr
    clear hpr
    by_cases hlt : i < n
    · have q2 : (i : Int) < (n : Int) := by omega
      obtain ⟨ad, rfl, had, hat⟩ := HAT.out (by omega)
      have hok := HOK.out i (by omega)
      have hnn := HNN.out i (by omega)
      have hsn := HNN.out (i + 1) (by omega)
      have hsk := HOK.out (i + 1) (by omega)
      have hs33 := shR_len HLN.out hlt
      have hs256 := shR_lt HLB.out i
      have HSL := Lib.hid (show ∀ w' : World, (∃ x : Ext w, w' = x.wd) → AtA w' (ad.add (i * 33)) (byt (shR L i)) from fun w' hb => by
        obtain ⟨x, rfl⟩ := hb
        exact (hat.below x.bel had).share i)
      have HSZ := Lib.hid (share_bytes (shR L i) hs33)
      obtain ⟨st2, hst2⟩ : ∃ st2, st2 = kRun st0 L (i + 1) := ⟨_, rfl⟩
      have HST2 := Lib.hid hst2
      rw [← hst2] at hsk
      obtain ⟨o', ho'⟩ : ∃ o', o' = st2.o := ⟨_, rfl⟩
      have HOFK := Lib.hid (fun (W : World) (v : Value) (h : KAt W g1 48 101 (kRun st0 L i) v) (hR : RoundsAt W) => offer_c W g1 (kRun st0 L i) v (shR L i) hs33 hs256 hnn hok h hR hg10)
      have HOFR := Lib.hid (fun (W : World) (v : Value) (h : KAt W g2 44 100 (kRun st0 L i) v) => roffer_c W g2 (kRun st0 L i) v (shR L i) hs33 hs256 hnn hok h hg20)
      rw [show kOffer (kRun st0 L i) (shR L i) = st2 from hst2.symm] at HOFK HOFR
      unfold KRet at HOFK
      unfold RRet at HOFR
      rw [← ho'] at HOFK HOFR
      have HSO := Lib.hid ho'.symm
      have HSK := Lib.hid hsk
      have HRR := Lib.hid (HRO.out.next HPR.out.bel)
      have HLT := Lib.hid hlt
      clear hat had hok hnn hsn hsk hs33 hs256 hst2 ho'
      cases o' with
      | false =>
        go_upto_region 7 with fail
        go_cut [67] from 36 to 68 (fun b wx => b = .bool false ∧ ∃ v1n v2n, PrK w wx g1 g2 st2 st2 v1n v2n)
        case first =>
          have hdr : (fun w' : World => ∃ x : Ext w, w' = x.wd) wr.drew := Ext.of HPR.out.bel.drew
          refine wp_region_held (S := fun w' => ∃ x : Ext w, w' = x.wd) (by kernel_rfl) ?_
          show wpAnyH _ _ _ _ _ 32 _ _ wr.drew
          refine anyH_quiet 0 rfl (by kernel_rfl) (by kernel_rfl) (by kernel_rfl) (fun _ _ _ _ h => h) rfl rfl hdr ?_
          intro K hK
          conv => arg 2; whnf
          go_big_quiet_op
          go_big_quiet_on
          refine anyH_quiet 1 rfl (by kernel_rfl) (by kernel_rfl) (by kernel_rfl) (fun _ _ _ _ h => h) rfl rfl hdr ?_
          intro K hK
          conv => arg 2; whnf
          go_big_quiet_op
          go_big_quiet_on
          refine anyH_quiet 2 rfl (by kernel_rfl) (by kernel_rfl) (by kernel_rfl) (fun _ _ _ _ h => h) rfl rfl hdr ?_
          intro K hK
          conv => arg 2; whnf
          go_big_quiet_op
          go_big_quiet_on
          refine anyH_quiet 3 rfl (by kernel_rfl) (by kernel_rfl) (by kernel_rfl) (fun _ _ _ _ h => h) rfl rfl hdr ?_
          intro K hK
          conv => arg 2; whnf
          go_big_quiet_op
          go_big_quiet_on
          refine anyH_loadAt 4 rfl (by kernel_rfl) (by kernel_rfl) (by kernel_rfl) (fun _ _ _ _ h => h) rfl 31 (.tmp 39) rfl (ad.add (i * 33)) rfl (shR L i) _ HSL.out Tryd.underlying31 rfl HSZ.out hdr _ (by conv => lhs; arg 2; whnf) ?_
          simp only [Act.put, List.setIfInBounds_toArray, List.set_cons_succ, List.set_cons_zero]
          refine anyH_quiet 6 rfl (by kernel_rfl) (by kernel_rfl) (by kernel_rfl) (fun _ _ _ _ h => h) rfl rfl hdr ?_
          intro K hK
          conv => arg 2; whnf
          go_big_quiet_op
          go_big_quiet_on
          refine anyH_quiet 7 rfl (by kernel_rfl) (by kernel_rfl) (by kernel_rfl) (fun _ _ _ _ h => h) rfl rfl hdr ?_
          intro K hK
          conv => arg 2; whnf
          go_big_quiet_op
          go_big_quiet_on
          refine anyH_quiet 8 rfl (by kernel_rfl) (by kernel_rfl) (by kernel_rfl) (fun _ _ _ _ h => h) rfl rfl hdr ?_
          intro K hK
          conv => arg 2; whnf
          go_big_quiet_op
          go_big_quiet_on
          refine anyH_quiet 9 rfl (by kernel_rfl) (by kernel_rfl) (by kernel_rfl) (fun _ _ _ _ h => h) rfl rfl hdr ?_
          intro K hK
          conv => arg 2; whnf
          go_big_quiet_op
          go_big_quiet_on
          refine anyH_loadAt 10 rfl (by kernel_rfl) (by kernel_rfl) (by kernel_rfl) (fun _ _ _ _ h => h) rfl 31 (.tmp 45) rfl (ad.add (i * 33)) rfl (shR L i) _ HSL.out Tryd.underlying31 rfl HSZ.out hdr _ (by conv => lhs; arg 2; whnf) ?_
          simp only [Act.put, List.setIfInBounds_toArray, List.set_cons_succ, List.set_cons_zero]
          have HPD := Lib.hid (show PrK w wr.drew g1 g2 (kRun st0 L i) (kRun st0 L i) v1 v2 from HPR.out.next (Below.refl _ _).drew)
          refine anyH_op 5 (by kernel_rfl) rfl rfl ?_
          · refine op_call (by kernel_rfl) _ (fun v => by conv => lhs; arg 2; whnf) ((HOFK.out wr.drew v1 HPD.out.a (HRO.out.next HPD.out.bel)).mono ?_)
            rintro e w2 ⟨rfl, kg2⟩
            obtain ⟨v1m, HP2⟩ : ∃ v1m, Hid (PrK w w2 g1 g2 st2 (kRun st0 L i) v1m v2) := by
              obtain ⟨v, h⟩ := HPD.out.left kg2
              exact ⟨v, Lib.hid h⟩
            refine ⟨_, rfl, Ext.of HP2.out.bel, ?_⟩
            simp only [Act.put, List.setIfInBounds_toArray, List.set_cons_succ, List.set_cons_zero]
            refine anyH_op 11 (by kernel_rfl) rfl rfl ?_
            refine op_call (by kernel_rfl) _ (fun v => by conv => lhs; arg 2; whnf) ((HOFR.out w2 v2 HP2.out.b).mono ?_)
            rintro e w3 ⟨rfl, kg3⟩
            refine ⟨_, rfl, Ext.of (HP2.out.right kg3).choose_spec.bel, ?_⟩
            simp only [Act.put, List.setIfInBounds_toArray, List.set_cons_succ, List.set_cons_zero]
            obtain ⟨v1n, v2n, HPR3⟩ : ∃ v1n v2n, Hid (PrK w w3 g1 g2 st2 st2 v1n v2n) := by
              obtain ⟨v, h⟩ := HP2.out.right kg3
              exact ⟨_, v, Lib.hid h⟩
            obtain ⟨A1n, c1n, rfl, _, _, _⟩ := own_rd HPR3.out.a.own
            obtain ⟨A2n, c2n, rfl, _, _, _⟩ := own_rd HPR3.out.b.own
            have hk1 := HPR3.out.a.co
            have hk2 := HPR3.out.b.co
            rw [HSO.out] at hk1 hk2
            have hk3 := HPR3.out.a.cv
            have hk4 := HPR3.out.b.cv
            have k1 := cell_ext hk1
            have k2 := cell_ext hk2
            have k3 := cell_ext hk3
            have k4 := cell_ext hk4
            have hd3 : (fun w' : World => ∃ x : Ext w3, w' = x.wd) w3 := Ext.of (Below.refl _ _)
            refine anyH_sharp (S' := fun w' => ∃ x : Ext w3, w' = x.wd) _ _ _ _ (fun w' h => by obtain ⟨x, rfl⟩ := h; exact Ext.of (HPR3.out.bel.trans (x.bel.mono HPR3.out.bel.size))) ?_
            refine anyH_quiet 12 rfl (by kernel_rfl) (by kernel_rfl) (by kernel_rfl) (fun _ _ _ _ h => h) rfl rfl hd3 ?_
            intro K hK
            conv => arg 2; whnf
            go_big_quiet_op
            go_big_quiet_on
            refine anyH_quiet 13 rfl (by kernel_rfl) (by kernel_rfl) (by kernel_rfl) (fun _ _ _ _ h => h) rfl rfl hd3 ?_
            intro K hK
            conv => arg 2; whnf
            go_big_quiet_op
            go_big_quiet_on
            refine anyH_quiet 14 rfl (by kernel_rfl) (by kernel_rfl) (by kernel_rfl) (fun _ _ _ _ h => h) rfl rfl hd3 ?_
            intro K hK
            conv => arg 2; whnf
            go_big_quiet_op
            go_big_quiet_on
            refine anyH_quiet 16 rfl (by kernel_rfl) (by kernel_rfl) (by kernel_rfl) (fun _ _ _ _ h => h) rfl rfl hd3 ?_
            intro K hK
            conv => arg 2; whnf
            go_big_quiet_op
            go_big_quiet_on
            refine anyH_nil 17 rfl (by kernel_rfl) (by kernel_rfl) (by kernel_rfl) (fun _ _ _ _ h => h) rfl (.tmp 52) rfl ⟨g2, 0, none⟩ rfl hd3 _ (by conv => lhs; arg 2; whnf) ?_
            simp only [Act.put, List.setIfInBounds_toArray, List.set_cons_succ, List.set_cons_zero]
            refine anyH_quiet 18 rfl (by kernel_rfl) (by kernel_rfl) (by kernel_rfl) (fun _ _ _ _ h => h) rfl rfl hd3 ?_
            intro K hK
            conv => arg 2; whnf
            go_big_quiet_op
            go_big_quiet_on
            refine anyH_quiet 19 rfl (by kernel_rfl) (by kernel_rfl) (by kernel_rfl) (fun _ _ _ _ h => h) rfl rfl hd3 ?_
            intro K hK
            conv => arg 2; whnf
            go_big_quiet_op
            go_big_quiet_on
            refine anyH_op 15 (by kernel_rfl) rfl rfl ?_
            refine op_call (by kernel_rfl) _ (fun v => by conv => lhs; arg 2; whnf) ((kopen_c w3 g1 false hk1).mono ?_)
            rintro e w4 ⟨rfl, rfl⟩
            refine ⟨_, rfl, hd3, ?_⟩
            simp only [Act.put, List.setIfInBounds_toArray, List.set_cons_succ, List.set_cons_zero]
            refine anyH_quiet 20 rfl (by kernel_rfl) (by kernel_rfl) (by kernel_rfl) (fun _ _ _ _ h => h) rfl rfl hd3 ?_
            intro K hK
            conv => arg 2; whnf
            go_big_quiet_op
            go_big_quiet_on
            refine anyH_quiet 21 rfl (by kernel_rfl) (by kernel_rfl) (by kernel_rfl) (fun _ _ _ _ h => h) rfl rfl hd3 ?_
            intro K hK
            conv => arg 2; whnf
            go_big_quiet_op
            go_big_quiet_on
            refine anyH_quiet 22 rfl (by kernel_rfl) (by kernel_rfl) (by kernel_rfl) (fun _ _ _ _ h => h) rfl rfl hd3 ?_
            intro K hK
            conv => arg 2; whnf
            go_big_quiet_op
            go_big_quiet_on
            refine anyH_quiet 23 rfl (by kernel_rfl) (by kernel_rfl) (by kernel_rfl) (fun _ _ _ _ h => h) rfl rfl hd3 ?_
            intro K hK
            conv => arg 2; whnf
            go_big_quiet_op
            go_big_quiet_on
            refine anyH_quiet 25 rfl (by kernel_rfl) (by kernel_rfl) (by kernel_rfl) (fun _ _ _ _ h => h) rfl rfl hd3 ?_
            intro K hK
            conv => arg 2; whnf
            go_big_quiet_op
            go_big_quiet_on
            refine anyH_nil 26 rfl (by kernel_rfl) (by kernel_rfl) (by kernel_rfl) (fun _ _ _ _ h => h) rfl (.tmp 61) rfl ⟨g2, 0, none⟩ rfl hd3 _ (by conv => lhs; arg 2; whnf) ?_
            simp only [Act.put, List.setIfInBounds_toArray, List.set_cons_succ, List.set_cons_zero]
            refine anyH_quiet 27 rfl (by kernel_rfl) (by kernel_rfl) (by kernel_rfl) (fun _ _ _ _ h => h) rfl rfl hd3 ?_
            intro K hK
            conv => arg 2; whnf
            go_big_quiet_op
            go_big_quiet_on
            refine anyH_quiet 28 rfl (by kernel_rfl) (by kernel_rfl) (by kernel_rfl) (fun _ _ _ _ h => h) rfl rfl hd3 ?_
            intro K hK
            conv => arg 2; whnf
            go_big_quiet_op
            go_big_quiet_on
            refine anyH_two 24 29 (by kernel_rfl) rfl rfl rfl rfl ?_ ?_
            · refine op_call (by kernel_rfl) _ (fun v => by conv => lhs; arg 2; whnf) ((kcount_c w3 g1 A1n st2.n c1n hk3).mono ?_)
              rintro e w4 ⟨rfl, rfl⟩
              refine ⟨_, rfl, hd3, ?_⟩
              simp only [Act.put, List.setIfInBounds_toArray, List.set_cons_succ, List.set_cons_zero]
              refine anyH_op 29 (by kernel_rfl) rfl rfl ?_
              refine op_value (op_lenS (.tmp 64) 38 Tryd.underlying38 rfl (A := A2n) (n := st2.n) (c := c2n) rfl) _ (by conv => lhs; arg 2; whnf) ⟨hd3, ?_⟩
              simp only [Act.put, List.setIfInBounds_toArray, List.set_cons_succ, List.set_cons_zero]
              refine anyH_quiet 30 rfl (by kernel_rfl) (by kernel_rfl) (by kernel_rfl) (fun _ _ _ _ h => h) rfl rfl hd3 ?_
              intro K hK
              conv => arg 2; whnf
              go_big_quiet_op
              go_big_quiet_on
              refine anyH_quiet 31 rfl (by kernel_rfl) (by kernel_rfl) (by kernel_rfl) (fun _ _ _ _ h => h) rfl rfl hd3 ?_
              intro K hK
              conv => arg 2; whnf
              go_big_quiet_op
              go_big_quiet_on
              refine wpAnyH_done (by kernel_rfl) ?_ _
              go_wp2_with fail
              go_meet
              exact ⟨rfl, _, _, HPR3.out⟩
            · refine op_value (op_lenS (.tmp 64) 38 Tryd.underlying38 rfl (A := A2n) (n := st2.n) (c := c2n) rfl) _ (by conv => lhs; arg 2; whnf) ⟨hd3, ?_⟩
              simp only [Act.put, List.setIfInBounds_toArray, List.set_cons_succ, List.set_cons_zero]
              refine anyH_op 24 (by kernel_rfl) rfl rfl ?_
              refine op_call (by kernel_rfl) _ (fun v => by conv => lhs; arg 2; whnf) ((kcount_c w3 g1 A1n st2.n c1n hk3).mono ?_)
              rintro e w4 ⟨rfl, rfl⟩
              refine ⟨_, rfl, hd3, ?_⟩
              simp only [Act.put, List.setIfInBounds_toArray, List.set_cons_succ, List.set_cons_zero]
              refine anyH_quiet 30 rfl (by kernel_rfl) (by kernel_rfl) (by kernel_rfl) (fun _ _ _ _ h => h) rfl rfl hd3 ?_
              intro K hK
              conv => arg 2; whnf
              go_big_quiet_op
              go_big_quiet_on
              refine anyH_quiet 31 rfl (by kernel_rfl) (by kernel_rfl) (by kernel_rfl) (fun _ _ _ _ h => h) rfl rfl hd3 ?_
              intro K hK
              conv => arg 2; whnf
              go_big_quiet_op
              go_big_quiet_on
              refine wpAnyH_done (by kernel_rfl) ?_ _
              go_wp2_with fail
              go_meet
              exact ⟨rfl, _, _, HPR3.out⟩
        case rest =>
          obtain ⟨rfl, v1n, v2n, hpn⟩ := hcut
          have HPN := Lib.hid hpn
          have hms := master_c wc g1 st2 v1n HSK.out HPN.out.a
          rw [show kmL st2 = z32L by unfold kmL; rw [HSO.out]; rfl, show kmE st2 = 11 by unfold kmE; rw [HSO.out]; rfl] at hms
          have HMS := Lib.hid hms
          have HMZ := Lib.hid (key_szL (l := z32L) rfl)
          have HMQ := Lib.hid (show z32.size = (vb z32L).size by rw [vb_size]; first | rfl | exact HSK.out.kl.symm)
          have HMSL := Lib.hid (show (Tryd.prog.info? 23).map (·.size) = some (vb z32L).toList.length by rw [Array.length_toList]; exact HMZ.out)
          have HMRL := Lib.hid (show (Tryd.prog.info? 22).map (·.size) = some (vb st2.m).toList.length by rw [Array.length_toList, vb_size, HSK.out.kl]; kernel_rfl)
          have HMKL := Lib.hid (show (Tryd.prog.info? 23).map (·.size) = some (byt z32L).length by rw [byt_len]; exact (HMZ.out.trans (congrArg some (vb_size _))))
          have HMXL := Lib.hid (show (Tryd.prog.info? 22).map (·.size) = some (byt st2.m).length by rw [byt_len, HSK.out.kl]; kernel_rfl)
          have HBT := Lib.hid (show Tryd.prog.built 23 [] = some z32 by kernel_rfl)
          have l3 : ∀ W, (Op.equalIn 10000 23 (.agg (vb z32L)) (.agg z32)).run Tryd.prog W = .ok true W := fun W => by
            have h := run_equalIn_barr (P := Tryd.prog) (T := 23) Tryd.underlying23 Tryd.underlying5 (by kernel_rfl) (by kernel_rfl) z32L z32L rfl rfl (show ∀ c ∈ z32L, c < 256 by decide) (show ∀ c ∈ z32L, c < 256 by decide) W
            rwa [beq_self_eq_true] at h
          have zf := zero_key
          have zn := z32_size
          have ze := z32_ne
          clear hpn hms HPR HOFK HOFR HSL
          go_upto_region 10 with (first
            | (go_at_call 12; (refine HMS.out.mono ?_); rintro e w5 ⟨rfl, hb5⟩; have HP5 := Lib.hid (HPN.out.next hb5); clear hb5)
            | (refine wpList_store_rowTo rfl 23 (.tmp 12) (.tmp 71) rfl rfl w5.heap.size (vb z32L) rfl rfl 23 z32 (by exact Blk.new w5 _ _) HMZ.out HMQ.out (vb_one _) ?_))
          have h61 : Blk ((w5.alloc (Obj.cells z32 23)).setRow w5.heap.size (vb z32L)) w5.heap.size 23 (vb z32L) := setRow_heap _ _ z32 _ 23 (0, 0) (Blk.new w5 _ _)
          have h6b : Below w5.heap.size w5 ((w5.alloc (Obj.cells z32 23)).setRow w5.heap.size (vb z32L)) := Below.setRow ((Below.refl _ _).alloc (Nat.le_refl _) _) (Nat.le_refl _) _
          have HP6 := Lib.hid (HP5.out.next h6b)
          have H61 := Lib.hid h61
          generalize (w5.alloc (Obj.cells z32 23)).setRow w5.heap.size (vb z32L) = W6 at *
          generalize w5.heap.size = g6 at *
          clear h61 h6b zf zn ze
          have hk2 := HP6.out.b.co
          rw [HSO.out] at hk2
          have HRM := Lib.hid (show ∀ w', (∃ x, w' = (fun z => W6.drewN z) x) → w'.rangeAt g6 0 (byt z32L) from fun w' h => by obtain ⟨x, rfl⟩ := h; exact rangeAt_blk (H61.out.below (belowDrewN x (Below.refl _ _)) H61.out.lt))
          have HRX := Lib.hid (show ∀ w', (∃ x, w' = (fun z => W6.drewN z) x) → w'.rangeAt g2 67 (byt st2.m) from fun w' h => by obtain ⟨x, rfl⟩ := h; exact (HP6.out.next (belowDrewN x (Below.refl _ _))).b.rk)
          refine wp_region_class (fun z => W6.drewN z) (by kernel_rfl) (by kernel_rfl) ⟨1, rfl⟩ ?_
          repeat (go_big_quiet_step (fail))
          refine wpQuiet_load_mid rfl 23 (.tmp 12) rfl g6 0 rfl z32L _ HRM.out Tryd.underlying23 rfl HMKL.out _ (by simp only [Act.put, List.setIfInBounds_toArray, List.set_cons_succ, List.set_cons_zero]; rfl) ?_
          refine wpQuiet_valK (.agg z32) (fun w' _ => run_builtK w' 23 [] _ HBT.out #[] rfl (by kernel_rfl)) rfl _ (by simp only [Act.put, List.setIfInBounds_toArray, List.set_cons_succ, List.set_cons_zero]; rfl) ?_
          repeat (go_big_quiet_step (fail))
          refine wpQuiet_nil ?_
          rintro _ ⟨qq, rfl⟩
          have HP7 := Lib.hid (HP6.out.next (belowDrewN qq (Below.refl _ _)))
          generalize W6.drewN qq = W7 at *
          clear hk2
          go_wp2_with fail
          go_roundw
          case rel => exact ⟨i + 1, HLT.out, by go_num, v1n, v2n, by rw [← HST2.out]; exact HP7.out⟩
          case measure => have := HLT.out; simp [intOf]; omega
      | true =>
        go_upto_region 7 with fail
        go_cut [67] from 36 to 68 (fun b wx => b = .bool false ∧ ∃ v1n v2n, PrK w wx g1 g2 st2 st2 v1n v2n)
        case first =>
          have hdr : (fun w' : World => ∃ x : Ext w, w' = x.wd) wr.drew := Ext.of HPR.out.bel.drew
          refine wp_region_held (S := fun w' => ∃ x : Ext w, w' = x.wd) (by kernel_rfl) ?_
          show wpAnyH _ _ _ _ _ 32 _ _ wr.drew
          refine anyH_quiet 0 rfl (by kernel_rfl) (by kernel_rfl) (by kernel_rfl) (fun _ _ _ _ h => h) rfl rfl hdr ?_
          intro K hK
          conv => arg 2; whnf
          go_big_quiet_op
          go_big_quiet_on
          refine anyH_quiet 1 rfl (by kernel_rfl) (by kernel_rfl) (by kernel_rfl) (fun _ _ _ _ h => h) rfl rfl hdr ?_
          intro K hK
          conv => arg 2; whnf
          go_big_quiet_op
          go_big_quiet_on
          refine anyH_quiet 2 rfl (by kernel_rfl) (by kernel_rfl) (by kernel_rfl) (fun _ _ _ _ h => h) rfl rfl hdr ?_
          intro K hK
          conv => arg 2; whnf
          go_big_quiet_op
          go_big_quiet_on
          refine anyH_quiet 3 rfl (by kernel_rfl) (by kernel_rfl) (by kernel_rfl) (fun _ _ _ _ h => h) rfl rfl hdr ?_
          intro K hK
          conv => arg 2; whnf
          go_big_quiet_op
          go_big_quiet_on
          refine anyH_loadAt 4 rfl (by kernel_rfl) (by kernel_rfl) (by kernel_rfl) (fun _ _ _ _ h => h) rfl 31 (.tmp 39) rfl (ad.add (i * 33)) rfl (shR L i) _ HSL.out Tryd.underlying31 rfl HSZ.out hdr _ (by conv => lhs; arg 2; whnf) ?_
          simp only [Act.put, List.setIfInBounds_toArray, List.set_cons_succ, List.set_cons_zero]
          refine anyH_quiet 6 rfl (by kernel_rfl) (by kernel_rfl) (by kernel_rfl) (fun _ _ _ _ h => h) rfl rfl hdr ?_
          intro K hK
          conv => arg 2; whnf
          go_big_quiet_op
          go_big_quiet_on
          refine anyH_quiet 7 rfl (by kernel_rfl) (by kernel_rfl) (by kernel_rfl) (fun _ _ _ _ h => h) rfl rfl hdr ?_
          intro K hK
          conv => arg 2; whnf
          go_big_quiet_op
          go_big_quiet_on
          refine anyH_quiet 8 rfl (by kernel_rfl) (by kernel_rfl) (by kernel_rfl) (fun _ _ _ _ h => h) rfl rfl hdr ?_
          intro K hK
          conv => arg 2; whnf
          go_big_quiet_op
          go_big_quiet_on
          refine anyH_quiet 9 rfl (by kernel_rfl) (by kernel_rfl) (by kernel_rfl) (fun _ _ _ _ h => h) rfl rfl hdr ?_
          intro K hK
          conv => arg 2; whnf
          go_big_quiet_op
          go_big_quiet_on
          refine anyH_loadAt 10 rfl (by kernel_rfl) (by kernel_rfl) (by kernel_rfl) (fun _ _ _ _ h => h) rfl 31 (.tmp 45) rfl (ad.add (i * 33)) rfl (shR L i) _ HSL.out Tryd.underlying31 rfl HSZ.out hdr _ (by conv => lhs; arg 2; whnf) ?_
          simp only [Act.put, List.setIfInBounds_toArray, List.set_cons_succ, List.set_cons_zero]
          have HPD := Lib.hid (show PrK w wr.drew g1 g2 (kRun st0 L i) (kRun st0 L i) v1 v2 from HPR.out.next (Below.refl _ _).drew)
          refine anyH_op 5 (by kernel_rfl) rfl rfl ?_
          · refine op_call (by kernel_rfl) _ (fun v => by conv => lhs; arg 2; whnf) ((HOFK.out wr.drew v1 HPD.out.a (HRO.out.next HPD.out.bel)).mono ?_)
            rintro e w2 ⟨rfl, kg2⟩
            obtain ⟨v1m, HP2⟩ : ∃ v1m, Hid (PrK w w2 g1 g2 st2 (kRun st0 L i) v1m v2) := by
              obtain ⟨v, h⟩ := HPD.out.left kg2
              exact ⟨v, Lib.hid h⟩
            refine ⟨_, rfl, Ext.of HP2.out.bel, ?_⟩
            simp only [Act.put, List.setIfInBounds_toArray, List.set_cons_succ, List.set_cons_zero]
            refine anyH_op 11 (by kernel_rfl) rfl rfl ?_
            refine op_call (by kernel_rfl) _ (fun v => by conv => lhs; arg 2; whnf) ((HOFR.out w2 v2 HP2.out.b).mono ?_)
            rintro e w3 ⟨rfl, kg3⟩
            refine ⟨_, rfl, Ext.of (HP2.out.right kg3).choose_spec.bel, ?_⟩
            simp only [Act.put, List.setIfInBounds_toArray, List.set_cons_succ, List.set_cons_zero]
            obtain ⟨v1n, v2n, HPR3⟩ : ∃ v1n v2n, Hid (PrK w w3 g1 g2 st2 st2 v1n v2n) := by
              obtain ⟨v, h⟩ := HP2.out.right kg3
              exact ⟨_, v, Lib.hid h⟩
            obtain ⟨A1n, c1n, rfl, _, _, _⟩ := own_rd HPR3.out.a.own
            obtain ⟨A2n, c2n, rfl, _, _, _⟩ := own_rd HPR3.out.b.own
            have hk1 := HPR3.out.a.co
            have hk2 := HPR3.out.b.co
            rw [HSO.out] at hk1 hk2
            have hk3 := HPR3.out.a.cv
            have hk4 := HPR3.out.b.cv
            have k1 := cell_ext hk1
            have k2 := cell_ext hk2
            have k3 := cell_ext hk3
            have k4 := cell_ext hk4
            have hd3 : (fun w' : World => ∃ x : Ext w3, w' = x.wd) w3 := Ext.of (Below.refl _ _)
            refine anyH_sharp (S' := fun w' => ∃ x : Ext w3, w' = x.wd) _ _ _ _ (fun w' h => by obtain ⟨x, rfl⟩ := h; exact Ext.of (HPR3.out.bel.trans (x.bel.mono HPR3.out.bel.size))) ?_
            refine anyH_quiet 12 rfl (by kernel_rfl) (by kernel_rfl) (by kernel_rfl) (fun _ _ _ _ h => h) rfl rfl hd3 ?_
            intro K hK
            conv => arg 2; whnf
            go_big_quiet_op
            go_big_quiet_on
            refine anyH_quiet 13 rfl (by kernel_rfl) (by kernel_rfl) (by kernel_rfl) (fun _ _ _ _ h => h) rfl rfl hd3 ?_
            intro K hK
            conv => arg 2; whnf
            go_big_quiet_op
            go_big_quiet_on
            refine anyH_quiet 14 rfl (by kernel_rfl) (by kernel_rfl) (by kernel_rfl) (fun _ _ _ _ h => h) rfl rfl hd3 ?_
            intro K hK
            conv => arg 2; whnf
            go_big_quiet_op
            go_big_quiet_on
            refine anyH_quiet 16 rfl (by kernel_rfl) (by kernel_rfl) (by kernel_rfl) (fun _ _ _ _ h => h) rfl rfl hd3 ?_
            intro K hK
            conv => arg 2; whnf
            go_big_quiet_op
            go_big_quiet_on
            refine anyH_nil 17 rfl (by kernel_rfl) (by kernel_rfl) (by kernel_rfl) (fun _ _ _ _ h => h) rfl (.tmp 52) rfl ⟨g2, 0, none⟩ rfl hd3 _ (by conv => lhs; arg 2; whnf) ?_
            simp only [Act.put, List.setIfInBounds_toArray, List.set_cons_succ, List.set_cons_zero]
            refine anyH_quiet 18 rfl (by kernel_rfl) (by kernel_rfl) (by kernel_rfl) (fun _ _ _ _ h => h) rfl rfl hd3 ?_
            intro K hK
            conv => arg 2; whnf
            go_big_quiet_op
            go_big_quiet_on
            refine anyH_quiet 19 rfl (by kernel_rfl) (by kernel_rfl) (by kernel_rfl) (fun _ _ _ _ h => h) rfl rfl hd3 ?_
            intro K hK
            conv => arg 2; whnf
            go_big_quiet_op
            go_big_quiet_on
            refine anyH_op 15 (by kernel_rfl) rfl rfl ?_
            refine op_call (by kernel_rfl) _ (fun v => by conv => lhs; arg 2; whnf) ((kopen_c w3 g1 true hk1).mono ?_)
            rintro e w4 ⟨rfl, rfl⟩
            refine ⟨_, rfl, hd3, ?_⟩
            simp only [Act.put, List.setIfInBounds_toArray, List.set_cons_succ, List.set_cons_zero]
            refine anyH_quiet 20 rfl (by kernel_rfl) (by kernel_rfl) (by kernel_rfl) (fun _ _ _ _ h => h) rfl rfl hd3 ?_
            intro K hK
            conv => arg 2; whnf
            go_big_quiet_op
            go_big_quiet_on
            refine anyH_quiet 21 rfl (by kernel_rfl) (by kernel_rfl) (by kernel_rfl) (fun _ _ _ _ h => h) rfl rfl hd3 ?_
            intro K hK
            conv => arg 2; whnf
            go_big_quiet_op
            go_big_quiet_on
            refine anyH_quiet 22 rfl (by kernel_rfl) (by kernel_rfl) (by kernel_rfl) (fun _ _ _ _ h => h) rfl rfl hd3 ?_
            intro K hK
            conv => arg 2; whnf
            go_big_quiet_op
            go_big_quiet_on
            refine anyH_quiet 23 rfl (by kernel_rfl) (by kernel_rfl) (by kernel_rfl) (fun _ _ _ _ h => h) rfl rfl hd3 ?_
            intro K hK
            conv => arg 2; whnf
            go_big_quiet_op
            go_big_quiet_on
            refine anyH_quiet 25 rfl (by kernel_rfl) (by kernel_rfl) (by kernel_rfl) (fun _ _ _ _ h => h) rfl rfl hd3 ?_
            intro K hK
            conv => arg 2; whnf
            go_big_quiet_op
            go_big_quiet_on
            refine anyH_nil 26 rfl (by kernel_rfl) (by kernel_rfl) (by kernel_rfl) (fun _ _ _ _ h => h) rfl (.tmp 61) rfl ⟨g2, 0, none⟩ rfl hd3 _ (by conv => lhs; arg 2; whnf) ?_
            simp only [Act.put, List.setIfInBounds_toArray, List.set_cons_succ, List.set_cons_zero]
            refine anyH_quiet 27 rfl (by kernel_rfl) (by kernel_rfl) (by kernel_rfl) (fun _ _ _ _ h => h) rfl rfl hd3 ?_
            intro K hK
            conv => arg 2; whnf
            go_big_quiet_op
            go_big_quiet_on
            refine anyH_quiet 28 rfl (by kernel_rfl) (by kernel_rfl) (by kernel_rfl) (fun _ _ _ _ h => h) rfl rfl hd3 ?_
            intro K hK
            conv => arg 2; whnf
            go_big_quiet_op
            go_big_quiet_on
            refine anyH_two 24 29 (by kernel_rfl) rfl rfl rfl rfl ?_ ?_
            · refine op_call (by kernel_rfl) _ (fun v => by conv => lhs; arg 2; whnf) ((kcount_c w3 g1 A1n st2.n c1n hk3).mono ?_)
              rintro e w4 ⟨rfl, rfl⟩
              refine ⟨_, rfl, hd3, ?_⟩
              simp only [Act.put, List.setIfInBounds_toArray, List.set_cons_succ, List.set_cons_zero]
              refine anyH_op 29 (by kernel_rfl) rfl rfl ?_
              refine op_value (op_lenS (.tmp 64) 38 Tryd.underlying38 rfl (A := A2n) (n := st2.n) (c := c2n) rfl) _ (by conv => lhs; arg 2; whnf) ⟨hd3, ?_⟩
              simp only [Act.put, List.setIfInBounds_toArray, List.set_cons_succ, List.set_cons_zero]
              refine anyH_quiet 30 rfl (by kernel_rfl) (by kernel_rfl) (by kernel_rfl) (fun _ _ _ _ h => h) rfl rfl hd3 ?_
              intro K hK
              conv => arg 2; whnf
              go_big_quiet_op
              go_big_quiet_on
              refine anyH_quiet 31 rfl (by kernel_rfl) (by kernel_rfl) (by kernel_rfl) (fun _ _ _ _ h => h) rfl rfl hd3 ?_
              intro K hK
              conv => arg 2; whnf
              go_big_quiet_op
              go_big_quiet_on
              refine wpAnyH_done (by kernel_rfl) ?_ _
              go_wp2_with fail
              go_meet
              exact ⟨rfl, _, _, HPR3.out⟩
            · refine op_value (op_lenS (.tmp 64) 38 Tryd.underlying38 rfl (A := A2n) (n := st2.n) (c := c2n) rfl) _ (by conv => lhs; arg 2; whnf) ⟨hd3, ?_⟩
              simp only [Act.put, List.setIfInBounds_toArray, List.set_cons_succ, List.set_cons_zero]
              refine anyH_op 24 (by kernel_rfl) rfl rfl ?_
              refine op_call (by kernel_rfl) _ (fun v => by conv => lhs; arg 2; whnf) ((kcount_c w3 g1 A1n st2.n c1n hk3).mono ?_)
              rintro e w4 ⟨rfl, rfl⟩
              refine ⟨_, rfl, hd3, ?_⟩
              simp only [Act.put, List.setIfInBounds_toArray, List.set_cons_succ, List.set_cons_zero]
              refine anyH_quiet 30 rfl (by kernel_rfl) (by kernel_rfl) (by kernel_rfl) (fun _ _ _ _ h => h) rfl rfl hd3 ?_
              intro K hK
              conv => arg 2; whnf
              go_big_quiet_op
              go_big_quiet_on
              refine anyH_quiet 31 rfl (by kernel_rfl) (by kernel_rfl) (by kernel_rfl) (fun _ _ _ _ h => h) rfl rfl hd3 ?_
              intro K hK
              conv => arg 2; whnf
              go_big_quiet_op
              go_big_quiet_on
              refine wpAnyH_done (by kernel_rfl) ?_ _
              go_wp2_with fail
              go_meet
              exact ⟨rfl, _, _, HPR3.out⟩
        case rest =>
          obtain ⟨rfl, v1n, v2n, hpn⟩ := hcut
          have HPN := Lib.hid hpn
          have hms := master_c wc g1 st2 v1n HSK.out HPN.out.a
          rw [show kmL st2 = st2.m by unfold kmL; rw [HSO.out]; rfl, show kmE st2 = 0 by unfold kmE; rw [HSO.out]; rfl] at hms
          have HMS := Lib.hid hms
          have HMZ := Lib.hid (key_szL (l := st2.m) HSK.out.kl)
          have HMQ := Lib.hid (show z32.size = (vb st2.m).size by rw [vb_size]; first | rfl | exact HSK.out.kl.symm)
          have HMSL := Lib.hid (show (Tryd.prog.info? 23).map (·.size) = some (vb st2.m).toList.length by rw [Array.length_toList]; exact HMZ.out)
          have HMRL := Lib.hid (show (Tryd.prog.info? 22).map (·.size) = some (vb st2.m).toList.length by rw [Array.length_toList, vb_size, HSK.out.kl]; kernel_rfl)
          have HMKL := Lib.hid (show (Tryd.prog.info? 23).map (·.size) = some (byt st2.m).length by rw [byt_len]; exact (HMZ.out.trans (congrArg some (vb_size _))))
          have HMXL := Lib.hid (show (Tryd.prog.info? 22).map (·.size) = some (byt st2.m).length by rw [byt_len, HSK.out.kl]; kernel_rfl)
          have HBT := Lib.hid (show Tryd.prog.built 23 [] = some z32 by kernel_rfl)
          have l3 : ∀ W, (Op.equalIn 10000 23 (.agg (vb st2.m)) (.agg (vb st2.m))).run Tryd.prog W = .ok true W := fun W => by
            have h := run_equalIn_barr (P := Tryd.prog) (T := 23) Tryd.underlying23 Tryd.underlying5 (by kernel_rfl) (by kernel_rfl) st2.m st2.m HSK.out.kl HSK.out.kl HSK.out.kb HSK.out.kb W
            rwa [beq_self_eq_true] at h
          have zf := zero_key
          have zn := z32_size
          have ze := z32_ne
          clear hpn hms HPR HOFK HOFR HSL
          go_upto_region 10 with (first
            | (go_at_call 12; (refine HMS.out.mono ?_); rintro e w5 ⟨rfl, hb5⟩; have HP5 := Lib.hid (HPN.out.next hb5); clear hb5)
            | (refine wpList_store_rowTo rfl 23 (.tmp 12) (.tmp 71) rfl rfl w5.heap.size (vb st2.m) rfl rfl 23 z32 (by exact Blk.new w5 _ _) HMZ.out HMQ.out (vb_one _) ?_))
          have h61 : Blk ((w5.alloc (Obj.cells z32 23)).setRow w5.heap.size (vb st2.m)) w5.heap.size 23 (vb st2.m) := setRow_heap _ _ z32 _ 23 (0, 0) (Blk.new w5 _ _)
          have h6b : Below w5.heap.size w5 ((w5.alloc (Obj.cells z32 23)).setRow w5.heap.size (vb st2.m)) := Below.setRow ((Below.refl _ _).alloc (Nat.le_refl _) _) (Nat.le_refl _) _
          have HP6 := Lib.hid (HP5.out.next h6b)
          have H61 := Lib.hid h61
          generalize (w5.alloc (Obj.cells z32 23)).setRow w5.heap.size (vb st2.m) = W6 at *
          generalize w5.heap.size = g6 at *
          clear h61 h6b zf zn ze
          have hk2 := HP6.out.b.co
          rw [HSO.out] at hk2
          have HRM := Lib.hid (show ∀ w', (∃ x, w' = (fun z => W6.drewN z) x) → w'.rangeAt g6 0 (byt st2.m) from fun w' h => by obtain ⟨x, rfl⟩ := h; exact rangeAt_blk (H61.out.below (belowDrewN x (Below.refl _ _)) H61.out.lt))
          have HRX := Lib.hid (show ∀ w', (∃ x, w' = (fun z => W6.drewN z) x) → w'.rangeAt g2 67 (byt st2.m) from fun w' h => by obtain ⟨x, rfl⟩ := h; exact (HP6.out.next (belowDrewN x (Below.refl _ _))).b.rk)
          refine wp_region_class (fun z => W6.drewN z) (by kernel_rfl) (by kernel_rfl) ⟨1, rfl⟩ ?_
          repeat (go_big_quiet_step (fail))
          refine wpQuiet_load_mid rfl 23 (.tmp 12) rfl g6 0 rfl st2.m _ HRM.out Tryd.underlying23 rfl HMKL.out _ (by simp only [Act.put, List.setIfInBounds_toArray, List.set_cons_succ, List.set_cons_zero]; rfl) ?_
          repeat (go_big_quiet_step (fail))
          refine wpQuiet_load_mid rfl 22 (.tmp 84) rfl g2 67 rfl st2.m _ HRX.out Tryd.underlying22 rfl HMXL.out _ (by simp only [Act.put, List.setIfInBounds_toArray, List.set_cons_succ, List.set_cons_zero]; rfl) ?_
          repeat (go_big_quiet_step (fail))
          refine wpQuiet_nil ?_
          rintro _ ⟨qq, rfl⟩
          have HP7 := Lib.hid (HP6.out.next (belowDrewN qq (Below.refl _ _)))
          generalize W6.drewN qq = W7 at *
          clear hk2
          go_wp2_with fail
          go_roundw
          case rel => exact ⟨i + 1, HLT.out, by go_num, v1n, v2n, by rw [← HST2.out]; exact HP7.out⟩
          case measure => have := HLT.out; simp [intOf]; omega
    · have q2 : ¬ (i : Int) < (n : Int) := by omega
      go_wp2_with (go_at_call 6; (refine (awake30_c wr (HRO.out.next HPR.out.bel)).mono ?_); rintro e W9 ⟨rfl, hb9⟩; have HB9 := Lib.hid (HPR.out.bel.trans (hb9.mono HPR.out.bel.size)); clear hb9)
      go_ret
      exact ⟨rfl, HB9.out⟩
end Go.Proofs.YtdbfikcpaionbaaDoor
namespace Go.Proofs.YtdbfikcpaionbaaDoor
open Go Go.ChangeShapes Go.WideShapes Go.ChangeAt Go.RowKit
set_option maxRecDepth 100000 in
theorem keeperTakes_lifted (os : Os) (started : os.Started) (H : Type) (enc : TypeId × Value → H) :
    ReturnsInHanded {} Tryd.checked os 5 .any (fun w args => (Rows.keeperTakesSpec.pre enc Tryd.prog Tryd.f5 [] false w args ∧ laidMetH Tryd.prog laidR w) ∧ sizedMet enc Tryd.prog Tryd.f5 (OpenSpec.ofChange Rows.keeperTakesSpec) false w args) (Rows.keeperTakesSpec.post enc Tryd.prog Tryd.f5 false true false false) := by
  refine liftL started _ rfl (by kernel_rfl) Tryd.func5 ⟨rfl, fun H ds h => ?_⟩ rfl (of_decide_eq_true (by kernel_rfl))
    (ChangeSpec.witness_shaped (enc := enc) (C := Tryd.checked) (os := os) (X := fun w _ => laidMetH Tryd.prog laidR w) false (World.doorLaid Tryd.prog 400 os) #[.int .i64 0, .agg (Array.replicate 32 (.int .u8 0)), .agg (Array.replicate 33 (.int .u8 0)), .slice none 0 0] 8 rfl (World.shaped_of_RefB (by kernel_rfl) (by kernel_rfl)) (by kernel_rfl) (by kernel_rfl) (by kernel_rfl) (door_met os _)) ?_
  · match ds, h with
    | [_, _, _, _], _ => rfl
  · intro W base args ds ps ht hw0 hval hA hlt
    rw [Tryd.params5] at hA hval
    obtain ⟨v0, vs0, d0, ds0, p0, q0, hargs, rfl, rfl, h0, r0⟩ := trodAll_cons hA
    obtain ⟨v1, vs1, d1, ds1, p1, q1, rfl, rfl, rfl, h1, r1⟩ := trodAll_cons r0
    obtain ⟨v2, vs2, d2, ds2, p2, q2, rfl, rfl, rfl, h2, r2⟩ := trodAll_cons r1
    obtain ⟨v3, vs3, d3, ds3, p3, q3, rfl, rfl, rfl, h3, r3⟩ := trodAll_cons r2
    obtain ⟨rfl, rfl, rfl⟩ := trodAll_nil r3
    obtain rfl : args = #[v0, v1, v2, v3] := by cases args; simp_all
    obtain ⟨a0, rfl, rfl, rfl, w0⟩ := open_int Tryd.underlying3 (hval 0 3 v0 rfl rfl) h0
    have hb0 := bounds_i64 w0
    obtain ⟨k1, rfl, kl1, ks1⟩ := open_sum (hval 1 28 v1 rfl rfl) h1
    obtain ⟨k2, rfl, kl2, ks2⟩ := open_share (hval 2 31 v2 rfl rfl) h2
    obtain ⟨A3, L3, n3, cap3, rfl, hc3, hm3, hL3, hl3, hr3⟩ := open_shares (hval 3 38 v3 rfl rfl) h3
    exact takes_c a0 k1 k2 L3 A3 n3 cap3 W kl1 ks1 kl2 ks2 hb0.1 hb0.2 hc3 hm3 hl3 ⟨hL3, hr3⟩ ⟨ht, hw0⟩
theorem keeperTakes_row : Rows.KeeperTakesSaid :=
  OpenClaim.holds_of_wide 5 Tryd.f5 rfl rfl rfl rfl rfl rfl rfl ⟨rfl, rfl, rfl, rfl, rfl⟩ rfl rfl rfl rfl rfl (by kernel_rfl) Tryd.func5 (by kernel_rfl)
    (of_decide_eq_true (by kernel_rfl)) (by unfold Func.isWrapper; rw [if_neg (by decide +kernel)]; exact ⟨rfl, rfl⟩)
    (fun os started H enc _ => keeperTakes_lifted os started H enc)
theorem keeperTakes_holds : Rows.KeeperTakesCardSaid :=
  Claim7.holds_tied_plain_at .later [] [.data] true (true, "b8bb873c51d1ca2d5d4f004911b30f22941cb5f848fd8f695fb7fd769e264304") false
    keeperTakes_row (fun _ h => by cases h) (by kernel_rfl) (fun _ h => by cases h) keeperTakes_row_tie rfl ⟨rfl, rfl⟩ (by kernel_rfl) rfl
    (fun f fn hf hfn => by
      obtain rfl : f = 5 := Option.some.inj ((show Tryd.prog.funcNamed "quaestor/quaestorlaw30.KeeperTakes" = some 5 by kernel_rfl).symm.trans hf) |>.symm
      obtain rfl : fn = Tryd.f5 := (Option.some.inj (Tryd.func5.symm.trans hfn)).symm
      exact ⟨by kernel_rfl, fun j t ht => by
        rw [Tryd.params5] at ht
        have hm : t ∈ [3, 28, 31, 38] := by simpa using Array.mem_of_getElem? ht
        have hall : ([3, 28, 31, 38].all fun u => !Tryd.prog.wantsStandIn u) = true := by kernel_rfl
        exact (show Tryd.prog.wantsStandIn t = false by simpa using List.all_eq_true.1 hall t hm)⟩)
    (by kernel_rfl)
#print axioms keeperTakes_holds
end Go.Proofs.YtdbfikcpaionbaaDoor
