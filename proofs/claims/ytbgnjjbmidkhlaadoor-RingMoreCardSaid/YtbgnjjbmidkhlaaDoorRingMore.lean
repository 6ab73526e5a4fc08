/- RingMore returns true for any number of nodes, tenant and series, where the rounds are as the program lays them. -/
import Derived.Test.YtbgnjjbmidkhlaaDoorZ06
import Derived.Test.YtbgnjjbmidkhlaaDoorTie
import Derived.Test.YtbgnjjbmidkhlaaDoorCards
import Derived.SevenTiedAt
/- RingNodes, walked. -/
namespace Go.Proofs.YtbgnjjbmidkhlaaDoor
set_option linter.unusedVariables false
set_option linter.unusedSimpArgs false
set_option maxRecDepth 100000
open Go.RowKit
set_option linter.unusedVariables false
set_option linter.unusedSimpArgs false
theorem hasI_succ (o : List Nat) (k : Nat) (x : Int) (h : k < o.length) : hasI (o.take (k + 1)) x = (hasI (o.take k) x || decide (((o.getD k 0 : Nat) : Int) = x)) := by
  unfold hasI
  rw [List.take_add_one, List.getElem?_eq_getElem h, List.any_append, List.getD_eq_getElem?_getD, List.getElem?_eq_getElem h]
  simp
set_option maxRecDepth 100000 in
set_option maxHeartbeats 16000000 in
theorem ringNodes_c (n x : Int) (t s : List Nat) (w : World) (h0 : -9223372036854775808 ≤ n) (h1 : n ≤ 9223372036854775807) (ht : ∀ c ∈ t, c < 256) (hs : ∀ c ∈ s, c < 256) (hR : RoundsAt w) :
    Calls Tryd.prog 3 #[.int .i64 n, .string (bstr t), .string (bstr s), .int .i64 x] w (Yes w) := by
  have HRO := Lib.hid hR
  have hbt : (bstr t).size = t.length := bstr_size t
  have hbs : (bstr s).size = s.length := bstr_size s
  by_cases hq : n ≤ 8 ∧ t.length ≤ 100 ∧ s.length ≤ 100
  · obtain ⟨n8, tl, sl⟩ := hq
    obtain ⟨m, hm⟩ : ∃ m, m = n.toNat := ⟨_, rfl⟩
    have e1 : min n 32 = n := by omega
    have e2 : max 0 n = (m : Int) := by omega
    have e3 : max n 0 = (m : Int) := by omega
    have hm8 : m ≤ 32 := by omega
    have HNW := Lib.hid (new_c n n m w e1 e2 hm8 hR)
    have HNC := Lib.hid (fun (g : Nat) (L : List Pt) (v : Value) (W : World) (h1 : RAt W g L m v) (h2 : SortR L) (h3 : L.Perm (rawL m)) (h4 : RoundsAt W) => nodes_c g m L v t s W h1 h2 (perm_len h3 hm8) ht hs tl sl h4)
    have HRN := Lib.hid (fun W => rnodes_c m t s W hm8 ht hs tl sl)
    have q1 : ¬ (8 : Int) < n := by omega
    have q2 : ¬ (100 : Int) < ((bstr t).size : Int) := by omega
    have q3 : ¬ (100 : Int) < ((bstr s).size : Int) := by omega
    have q4 : ¬ 100 < (bstr t).size := by omega
    have q5 : ¬ 100 < (bstr s).size := by omega
    have HX := Lib.hid (atS_lt t s)
    clear hR ht hs hm tl sl hbt hbs hm8 e1 e2
    generalize bstr t = tv at *
    generalize bstr s = sv at *
    generalize atS t s = y at *
    go_enter Tryd.func3, Tryd.ntmps3
    go_upto_region 5 with (first
      | (go_at_call 6; (with_reducible refine HNW.out.mono ?_); rintro e W1 ⟨L, v, rfl, h1, h2, h3, h4⟩
         have HB1 := Lib.hid h4
         have HSR := Lib.hid h1
         have HPM := Lib.hid h2
         have HRA := Lib.hid h3
         have HEQ := Lib.hid (nodes_ref HX.out h1 h2)
         have HRN1 := Lib.hid (HRN.out W1)
         rw [HEQ.out] at HRN1
         clear h1 h2 h3 h4 HEQ)
      | (go_at_call 7; (with_reducible refine HRN1.out.mono ?_); rintro e W2 hk; obtain ⟨A, c, rfl, k1, k2, k3⟩ := hk; have HB2 := Lib.hid k3; have HA2 := Lib.hid k2; have HA1 := Lib.hid k1; clear k1 k2 k3))
    have hna := nodes_are (x := y) HPM.out
    have hol : (firsts 3 [] (rotL y L)).length ≤ 3 := by rw [hna.1]; exact Nat.min_le_left _ _
    have HRA2 := Lib.hid (HRA.out.next HB2.out)
    have HB := Lib.hid (HB1.out.trans (HB2.out.mono HB1.out.size))
    have HNC2 := Lib.hid (fun W (h : Below W2.heap.size W2 W) => HNC.out w.heap.size L v W (HRA2.out.next h) HSR.out HPM.out (HRO.out.next (HB.out.trans (h.mono HB.out.size))))
    clear hna HNW HRN HRN1 HNC HPM HSR HRA HB1 HB2
    generalize firsts 3 [] (rotL y L) = o at *
    have HOL := Lib.hid hol
    clear hol
    have hc9 : (o.length : Int) ≤ 3 := by have := HOL.out; omega
    go_wp2_with fail
    go_loopw [11, 12] (fun bv iv wr => ∃ (k : Nat) (b : Bool), k ≤ o.length ∧ iv = .int .i64 (k : Nat) ∧ bv = .bool b ∧ b = hasI (o.take k) x ∧ wr = W2) (fun _ iv _ => o.length - (intOf iv).toNat)
    case atStart => exact ⟨0, false, Nat.zero_le _, rfl, rfl, rfl, rfl⟩
    case round =>
      rename World => wr
      obtain ⟨k, b, hk, rfl, rfl, hbb, hwr⟩ := hrel
      obtain rfl := hwr.symm
      by_cases hlt : k < o.length
      · have r1 : (k : Int) < (o.length : Int) := by omega
        obtain ⟨ad, rfl, _, hat⟩ := HA2.out (by intro h0; have h1 : (its o).length = 0 := by { rw [h0]; rfl }; rw [its_len] at h1; omega)
        have c0 := hat k _ (its_at hlt)
        have hsu := hasI_succ o k x hlt
        rw [← hbb] at hsu
        have HSU := Lib.hid hsu
        have HLT := Lib.hid hlt
        clear hat hbb hsu hlt hk
        obtain ⟨z, hz⟩ : ∃ z : Int, z = ((o.getD k 0 : Nat) : Int) := ⟨_, rfl⟩
        rw [← hz] at c0 HSU
        clear hz
        cases b with
        | true =>
          go_wp2_with fail
          go_roundw
          case rel => exact ⟨k + 1, true, HLT.out, by go_num, rfl, by rw [HSU.out]; rfl, by first | rfl | trivial⟩
          case measure => have := HLT.out; simp [intOf]; omega
        | false =>
          by_cases hzx : z = x
          · subst hzx
            go_wp2_with fail
            go_roundw
            case rel => exact ⟨k + 1, true, HLT.out, by go_num, by first | rfl | simp, by rw [HSU.out]; simp, by first | rfl | trivial⟩
            case measure => have := HLT.out; simp [intOf]; omega
          · have s2 : (z == x) = false := by rw [beq_eq_false_iff_ne]; exact hzx
            have s3 : decide (z = x) = false := decide_eq_false hzx
            clear hzx
            go_wp2_with fail
            go_roundw
            case rel => exact ⟨k + 1, false, HLT.out, by go_num, by first | rfl | simp [s2, s3], by rw [HSU.out, s3]; rfl, by first | rfl | trivial⟩
            case measure => have := HLT.out; simp [intOf]; omega
      · obtain rfl : k = o.length := by omega
        have r1 : ¬ (o.length : Int) < (o.length : Int) := by omega
        rw [List.take_length] at hbb
        have HN3 := Lib.hid (HNC2.out W2 (Below.refl _ _))
        have HRA3 := Lib.hid HRA2.out
        have HHB := Lib.hid hbb.symm
        clear hbb hlt hk
        have HLE := Lib.hid (len_c w.heap.size m L v W2 HRA3.out)
        cases b <;>
        (go_wp2_with (first
           | (go_at_call 8; (with_reducible refine HLE.out.mono ?_); rintro e Y1 ⟨rfl, rfl⟩)
           | (go_at_call 10; (with_reducible refine HN3.out.mono ?_); rintro e Y2 hk; obtain ⟨A3, c3, rfl, k1, k2, k3⟩ := hk
              have HB3 := Lib.hid k3
              have HSA := Lib.hid (sameT_c A3 A c3 c o Y2 k2 ((Rd.below (show Rd W2 W2.heap.size A (its o) from HA2.out) k3).more k3.size) (by have := HOL.out; omega))
              clear k1 k2 k3)
           | (go_at_call 9; (with_reducible refine HSA.out.mono ?_); rintro e Y3 ⟨rfl, nn, hd⟩
              have hb3 : Below Y2.heap.size Y2 Y3 := by rw [hd]; exact belowDrewN nn (Below.refl _ _)
              have HB4 := Lib.hid (HB3.out.trans (hb3.mono HB3.out.size))
              have hhas := has_c (.pointer (some ⟨w.heap.size, 0, none⟩)) x (.string tv) (.string sv) o Y3 (by have := HOL.out; omega) (HNC2.out Y3 HB4.out)
              rw [HHB.out] at hhas
              have HHA := Lib.hid hhas
              clear hd hb3 hhas)
           | (go_at_call 11; (with_reducible refine HHA.out.mono ?_); rintro e Y4 ⟨rfl, hb5⟩; have HB5 := Lib.hid (HB.out.trans ((HB4.out.trans (hb5.mono HB4.out.size)).mono HB.out.size)); have HAW := Lib.hid (awake18_c Y4 (HRO.out.next HB5.out)); clear hb5)
           | (go_at_call 5; (with_reducible refine HAW.out.mono ?_); rintro e Y5 ⟨rfl, hb6⟩; have HB6 := Lib.hid (HB5.out.trans (hb6.mono HB5.out.size)); clear hb6))
         go_ret
         exact ⟨rfl, HB6.out⟩)
  · have HAW := Lib.hid (awake18_c w hR)
    clear hR ht hs
    generalize bstr t = tv at *
    generalize bstr s = sv at *
    rw [← hbt, ← hbs] at hq
    clear hbt hbs
    have h3 : (8 : Int) < n ∨ (¬ (8 : Int) < n ∧ (100 : Int) < (tv.size : Int)) ∨ (¬ (8 : Int) < n ∧ ¬ (100 : Int) < (tv.size : Int) ∧ (100 : Int) < (sv.size : Int)) := by omega
    clear hq
    rcases h3 with q1 | ⟨q1, q2⟩ | ⟨q1, q2, q3⟩
    · go_enter Tryd.func3, Tryd.ntmps3
      go_wp2_with (go_at_call 5; (with_reducible refine HAW.out.mono ?_); rintro e Y5 ⟨rfl, hb6⟩; have HB6 := Lib.hid hb6; clear hb6)
      go_ret
      exact ⟨rfl, HB6.out⟩
    · have q4 : 100 < tv.size := by omega
      go_enter Tryd.func3, Tryd.ntmps3
      go_wp2_with (go_at_call 5; (with_reducible refine HAW.out.mono ?_); rintro e Y5 ⟨rfl, hb6⟩; have HB6 := Lib.hid hb6; clear hb6)
      go_ret
      exact ⟨rfl, HB6.out⟩
    · have q4 : ¬ 100 < tv.size := by omega
      have q5 : 100 < sv.size := by omega
      go_enter Tryd.func3, Tryd.ntmps3
      go_wp2_with (go_at_call 5; (with_reducible refine HAW.out.mono ?_); rintro e Y5 ⟨rfl, hb6⟩; have HB6 := Lib.hid hb6; clear hb6)
      go_ret
      exact ⟨rfl, HB6.out⟩
end Go.Proofs.YtbgnjjbmidkhlaaDoor
/- RingMore, walked. -/
namespace Go.Proofs.YtbgnjjbmidkhlaaDoor
set_option linter.unusedVariables false
set_option linter.unusedSimpArgs false
set_option maxRecDepth 100000
open Go.RowKit
set_option linter.unusedVariables false
set_option linter.unusedSimpArgs false
theorem perm_less {k : Nat} {La Lb : List Pt} (ha : SortR La) (hpa : La.Perm (rawL k)) (hb : SortR Lb) (hpb : Lb.Perm (rawL (k + 1))) : La = Lb.filter fun p => !(p.2 == k) := by
  refine sortR_perm ha (List.Pairwise.sublist List.filter_sublist hb) (hpa.trans ?_)
  have h1 : (Lb.filter fun p => !(p.2 == k)).Perm ((rawL (k + 1)).filter fun p => !(p.2 == k)) := hpb.filter _
  refine List.Perm.trans ?_ h1.symm
  rw [rawL_succ, List.filter_append]
  have e1 : (rawL k).filter (fun p => !(p.2 == k)) = rawL k := List.filter_eq_self.2 fun p hp => by
    have := mem_rawL hp
    simp
    omega
  have e2 : (rawTo k 16).filter (fun p => !(p.2 == k)) = [] := List.filter_eq_nil_iff.2 fun p hp => by
    rw [mem_rawTo hp]; simp
  rw [e1, e2, List.append_nil]
/-- what RingMore asks of the two lists of nodes -/
structure MoreOk (k : Nat) (a b : List Nat) : Prop where
  la : a.length = min 3 k
  lb : b.length = min 3 (k + 1)
  nd : b.Nodup
  lt : ∀ x ∈ b, x ≤ k
  l1 : b.length ≤ (b.filter fun x => !(x == k)).length + 1
  l2 : (b.filter fun x => !(x == k)).length ≤ a.length
  st : (b.filter fun x => !(x == k)) = a.take (b.filter fun x => !(x == k)).length
theorem more_ok {k x : Nat} {La Lb : List Pt} (ha : SortR La) (hpa : La.Perm (rawL k)) (hb : SortR Lb) (hpb : Lb.Perm (rawL (k + 1))) : MoreOk k (firsts 3 [] (rotL x La)) (firsts 3 [] (rotL x Lb)) := by
  obtain ⟨a, b, ea, eb, h1, h2, h3, h4, h5, h6, h7⟩ := more_nodes (k := k) (at_ := x) hb (fun p hp => mem_rawL (hpb.mem_iff.1 hp)) (fun y hy => by
    obtain ⟨p, hp, e⟩ := rawL_all hy
    exact ⟨p, hpb.mem_iff.2 hp, e⟩)
  rw [← perm_less ha hpa hb hpb] at ea
  rw [← ea, ← eb]
  exact ⟨h1, h2, h3, h4, h5, h6, h7⟩
theorem filt_succ (f : Nat → Bool) (b : List Nat) (i : Nat) (h : i < b.length) : (b.take (i + 1)).filter f = (b.take i).filter f ++ (if f (b.getD i 0) then [b.getD i 0] else []) := by
  rw [List.take_add_one, List.getElem?_eq_getElem h, List.filter_append, List.getD_eq_getElem?_getD, List.getElem?_eq_getElem h]
  simp only [Option.toList_some, Option.getD_some]
  congr 1
  by_cases hf : f b[i] = true
  · rw [if_pos hf]; simp [hf]
  · rw [if_neg hf]; simp [hf]
theorem getD_memN {l : List Nat} {k : Nat} (h : k < l.length) : l.getD k 0 ∈ l := by
  rw [List.getD_eq_getElem?_getD, List.getElem?_eq_getElem h]
  exact List.getElem_mem h
theorem nodup_ne {l : List Nat} (hd : l.Nodup) {i j : Nat} (hi : i < l.length) (hj : j < i) : l.getD j 0 ≠ l.getD i 0 := by
  rw [List.getD_eq_getElem?_getD, List.getD_eq_getElem?_getD, List.getElem?_eq_getElem hi, List.getElem?_eq_getElem (show j < l.length by omega)]
  exact List.pairwise_iff_getElem.1 hd j i (by omega) hi hj
theorem RdI.open_ {w : World} {B : Nat} {A : Option Addr} {l : List Nat} (h : RdI w B A l) (hn : 0 < l.length) : ∃ ad, A = some ad ∧ ad.block < B ∧ ∀ k, k < l.length → w.cell? (ad.add k) = some (.int .i64 ((l.getD k 0 : Nat) : Int)) := by
  obtain ⟨ad, rfl, hb, hc⟩ := h (by intro h0; have h1 : (its l).length = 0 := by { rw [h0]; rfl }; rw [its_len] at h1; omega)
  exact ⟨ad, rfl, hb, fun k hk => hc k _ (its_at hk)⟩
theorem RdI.take {w : World} {B : Nat} {A : Option Addr} {l : List Nat} (h : RdI w B A l) (n : Nat) : RdI w B A (l.take n) := fun hne => by
  obtain ⟨ad, rfl, hb, hc⟩ := h (by
    intro h0
    have h1 : (its l).length = 0 := by { rw [h0]; rfl }
    rw [its_len] at h1
    rw [List.eq_nil_of_length_eq_zero h1, List.take_nil] at hne
    exact hne rfl)
  refine ⟨ad, rfl, hb, fun j u hu => ?_⟩
  have e : its (l.take n) = (its l).take n := by simp [its]
  rw [e] at hu
  have hjn : j < n := by
    rcases Nat.lt_or_ge j n with h1 | h1
    · exact h1
    · rw [List.getElem?_eq_none (by rw [List.length_take]; omega)] at hu; cases hu
  rw [List.getElem?_take_of_lt hjn] at hu
  exact hc j u hu
set_option maxRecDepth 100000 in
set_option maxHeartbeats 32000000 in
theorem ringMore_c (n : Nat) (t s : List Nat) (w : World) (hn : n < 256) (ht : ∀ c ∈ t, c < 256) (hs : ∀ c ∈ s, c < 256) (hR : RoundsAt w) :
    Calls Tryd.prog 4 #[.int .u8 (n : Int), .string (bstr t), .string (bstr s)] w (Yes w) := by
  obtain ⟨j0, hj, hy0, hy1, hy2⟩ := int_parts
  have HRO := Lib.hid hR
  have hbt : (bstr t).size = t.length := bstr_size t
  have hbs : (bstr s).size = s.length := bstr_size s
  by_cases hq : t.length ≤ 100 ∧ s.length ≤ 100
  · obtain ⟨tl, sl⟩ := hq
    obtain ⟨k, hk⟩ : ∃ k, k = n % 32 := ⟨_, rfl⟩
    have hk32 : k < 32 := by omega
    obtain ⟨k1, hk1⟩ : ∃ k1, k1 = k + 1 := ⟨_, rfl⟩
    have e1 : (n : Int) % 32 = (k : Int) := by omega
    have e2 : Int.tmod (n : Int) 32 = (k : Int) := by rw [Int.tmod_eq_emod_of_nonneg (by omega)]; omega
    have HNA := Lib.hid (fun W (h : RoundsAt W) => new_c (k : Int) k k W (by omega) (by omega) (by omega) h)
    have HNB := Lib.hid (fun W (h : RoundsAt W) => new_c (k1 : Int) k1 k1 W (by omega) (by omega) (by omega) h)
    have HNM := Lib.hid (fun W (h : RoundsAt W) => new_c 1000 32 32 W (by decide) (by decide) (by decide) h)
    have HNC := Lib.hid (fun (g m : Nat) (L : List Pt) (v : Value) (W : World) (h1 : RAt W g L m v) (h2 : SortR L) (h3 : L.Perm (rawL m)) (hm : m ≤ 32) (h4 : RoundsAt W) => nodes_c g m L v t s W h1 h2 (perm_len h3 hm) ht hs tl sl h4)
    have q2 : ¬ (100 : Int) < ((bstr t).size : Int) := by omega
    have q3 : ¬ (100 : Int) < ((bstr s).size : Int) := by omega
    have q4 : ¬ 100 < (bstr t).size := by omega
    have q5 : ¬ 100 < (bstr s).size := by omega
    have e3 : (k : Int) + 1 = (k1 : Int) := by omega
    have HK := Lib.hid hk32
    have HK1 := Lib.hid hk1
    clear hR ht hs tl sl hbt hbs hk hk1
    generalize bstr t = tv at *
    generalize bstr s = sv at *
    generalize atS t s = y at *
    go_enter Tryd.func4, Tryd.ntmps4
    go_upto_region 4 with fail
    have HNA1 := Lib.hid (HNA.out w HRO.out)
    clear e1 e2
    go_upto_region 5 with (first
      | (go_at_call 6; (with_reducible refine HNA1.out.mono ?_); rintro e W1 ⟨La, va, rfl, h1, h2, h3, h4⟩
         have B1 := Lib.hid h4
         have SA := Lib.hid h1
         have PA := Lib.hid h2
         have HC1 := Lib.hid (HNC.out w.heap.size k La va W1 h3 h1 h2 (by have := HK.out; omega) (HRO.out.next h4))
         clear h1 h2 h3 h4)
      | (go_at_call 10; (with_reducible refine HC1.out.mono ?_); rintro e W2 ⟨A, ca, rfl, k1a, k2a, k3a⟩
         have B2 := Lib.hid (B1.out.trans (k3a.mono B1.out.size))
         have RA2 := Lib.hid k2a
         have CA := Lib.hid k1a
         have HNB1 := Lib.hid (HNB.out W2 (HRO.out.next B2.out))
         clear k1a k2a k3a)
      | (go_at_call 6; (with_reducible refine HNB1.out.mono ?_); rintro e W3 ⟨Lb, vb, rfl, h1, h2, h3, h4⟩
         have B3 := Lib.hid (B2.out.trans (h4.mono B2.out.size))
         have SB := Lib.hid h1
         have PB := Lib.hid h2
         have RA3 := Lib.hid ((Rd.below (show Rd W2 W2.heap.size A (its _) from RA2.out) h4).more h4.size)
         have HC3 := Lib.hid (HNC.out W2.heap.size k1 Lb vb W3 h3 h1 h2 (by have := HK.out; have := HK1.out; omega) (HRO.out.next B3.out))
         clear h1 h2 h3 h4)
      | (go_at_call 10; (with_reducible refine HC3.out.mono ?_); rintro e W4 ⟨Bq, cb, rfl, k1b, k2b, k3b⟩
         have B4 := Lib.hid (B3.out.trans (k3b.mono B3.out.size))
         have RB4 := Lib.hid k2b
         have CB := Lib.hid k1b
         have RA4 := Lib.hid ((Rd.below (show Rd W3 W3.heap.size A (its _) from RA3.out) k3b).more k3b.size)
         clear k1b k2b k3b))
    have hmo := PB.out
    rw [HK1.out] at hmo
    have HMO := Lib.hid (more_ok (x := y) SA.out PA.out SB.out hmo)
    clear hmo SA SB PA PB HNA HNB HNA1 HNB1 HC1 HC3 RA2 RA3 B1 B2 B3 HNC
    generalize firsts 3 [] (rotL y La) = a at *
    generalize firsts 3 [] (rotL y Lb) = b at *
    have ha3 : a.length ≤ 3 := by have := HMO.out.la; omega
    have hb3 : b.length ≤ 3 := by have := HMO.out.lb; omega
    have z1 : min (3 : Int) (k : Int) = (a.length : Int) := by have := HMO.out.la; omega
    have z2 : min (3 : Int) (k1 : Int) = (b.length : Int) := by have := HMO.out.lb; have := HK1.out; omega
    have HA3 := Lib.hid ha3
    have HB3 := Lib.hid hb3
    go_wp2_with fail
    clear z1 z2
    go_loopw [10, 11] (fun sv iv wr => ∃ i : Nat, i ≤ b.length ∧ iv = .int .i64 (i : Nat) ∧ OwnI wr W4.heap.size sv ((b.take i).filter fun x => !(x == k)) ∧ Below W4.heap.size W4 wr) (fun _ iv _ => b.length - (intOf iv).toNat)
    case atStart => exact ⟨0, Nat.zero_le _, rfl, OwnI.nil_ _ _, Below.refl _ _⟩
    case round =>
      rename World => wr
      obtain ⟨i, hi, rfl, ho, hbr⟩ := hrel
      have HO := Lib.hid ho
      have HB := Lib.hid hbr
      have HRB := Lib.hid (show RdI wr wr.heap.size Bq b from (Rd.below (show Rd W4 W4.heap.size Bq (its b) from RB4.out) hbr).more hbr.size)
      clear ho hbr
      by_cases hlt : i < b.length
      · have r1 : (i : Int) < (b.length : Int) := by omega
        obtain ⟨bd, rfl, hbd, hat⟩ := HRB.out.open_ (by omega)
        have c0 := hat i hlt
        have hle := HMO.out.lt _ (getD_memN hlt)
        have HNE := Lib.hid (fun j (hj : j < i) => nodup_ne HMO.out.nd hlt hj)
        have HFS := Lib.hid (filt_succ (fun x => !(x == k)) b i hlt)
        have HAT := Lib.hid hat
        have HLT := Lib.hid hlt
        have HFL := Lib.hid (show ((b.take i).filter fun x => !(x == k)).length ≤ 3 from Nat.le_trans (List.length_filter_le _ _) (by rw [List.length_take]; omega))
        clear hat hlt hi
        obtain ⟨yi, hyi⟩ : ∃ yi, yi = b.getD i 0 := ⟨_, rfl⟩
        rw [← hyi] at c0 hle HFS
        have HYI := Lib.hid hyi
        clear hyi
        have r2 : ¬ (yi : Int) < 0 := by omega
        have r3 : ¬ (k : Int) < (yi : Int) := by omega
        generalize ((b.take i).filter fun x => !(x == k)) = st at *
        go_wp2_with fail
        go_loopw [12] (fun jv wz => ∃ j z : Nat, j ≤ i ∧ jv = .int .i64 (j : Nat) ∧ wz = wr.drewN z) (fun jv _ => i - (intOf jv).toNat)
        case atStart => exact ⟨0, 0, Nat.zero_le _, rfl, rfl⟩
        case round =>
          obtain ⟨j, z, hji, rfl, rfl⟩ := hrel
          by_cases hlj : j < i
          · have s1 : (j : Int) < (i : Int) := by omega
            have s2 : (j : Int) < (b.length : Int) := by have := HLT.out; omega
            have d0 : ∀ n, (wr.drewN n).cell? (bd.add i) = some (.int .i64 (yi : Int)) := fun n => c0
            have hj0 := HAT.out j (by have := HLT.out; omega)
            have hne := HNE.out j hlj
            rw [← HYI.out] at hne
            generalize b.getD j 0 = yj at *
            have d1 : ∀ n, (wr.drewN n).cell? (bd.add j) = some (.int .i64 (yj : Int)) := fun n => hj0
            have s3 : ((yj : Int) == (yi : Int)) = false := by rw [beq_eq_false_iff_ne]; omega
            have HLJ := Lib.hid hlj
            clear hj0 hne hlj hji
            go_wp2_with fail
            refine wp_region_class (fun z => wr.drewN z) (by kernel_rfl) (by kernel_rfl) ⟨z + 1, rfl⟩ ?_
            repeat (go_big_quiet_step (fail))
            refine wpQuiet_nil ?_
            rintro _ ⟨z3, rfl⟩
            go_wp2_with fail
            go_roundw
            case rel => exact ⟨j + 1, z3, HLJ.out, by go_num, rfl⟩
            case measure => have := HLJ.out; simp [intOf]; omega
          · obtain rfl : j = i := by omega
            have s1 : ¬ (j : Int) < (j : Int) := by omega
            have d0 : (wr.drewN z).cell? (bd.add j) = some (.int .i64 (yi : Int)) := c0
            have HBz := Lib.hid (HB.out.trans ((belowDrewN z (Below.refl wr.heap.size wr)).mono HB.out.size))
            have HOz := Lib.hid (show OwnI (wr.drewN z) W4.heap.size _ st from HO.out)
            clear hlj hji c0
            generalize wr.drewN z = wz at *
            by_cases hyk : yi = k
            · have f1 : ((yi : Int) == (k : Int)) = true := by rw [beq_iff_eq]; omega
              have f2 : ((yi : Int) != (k : Int)) = false := by simp only [bne, f1]; rfl
              have f3 : (!(yi == k)) = false := by rw [hyk]; simp
              rw [f3, if_neg (by simp), List.append_nil] at HFS
              clear hyk f1 f3
              go_wp2_with fail
              go_roundw
              case rel => exact ⟨j + 1, HLT.out, by go_num, by rw [HFS.out]; exact HOz.out, HBz.out⟩
              case measure => have := HLT.out; simp [intOf]; omega
            · have f1 : ((yi : Int) == (k : Int)) = false := by rw [beq_eq_false_iff_ne]; omega
              have f2 : ((yi : Int) != (k : Int)) = true := by simp only [bne, f1]; rfl
              have f3 : (!(yi == k)) = true := by rw [show (yi == k) = false by rw [beq_eq_false_iff_ne]; exact hyk]; rfl
              rw [f3, if_pos rfl] at HFS
              clear hyk f1 f3
              go_wp2_with (first
                | (refine wpList_valM rfl _ _ (run_oneI wz yi (.tmp 93) rfl (by rfl)) ?_)
                | (at_builtin; refine wpList_app _ rfl (.tmp 89) (.tmp 94) _ rfl W4.heap.size 3 j0 (.int .i64 0) 1 8 Tryd.underlying25 hj hy0 hy1 hy2 rfl (by decide) _ st.length (its st) rfl (HOz.out.allocI _) _ (some ⟨wz.heap.size, 0, none⟩) 1 1 (its [yi]) rfl rfl (by exact rd_new wz (its [yi]) 3 (0, 0)) (its_one _) (by have := HFL.out; omega) (by have := HFL.out; omega) (by have := HBz.out.size; simp; omega) ?_
                   intro v7 V7 hap
                   have HV := Lib.hid (OwnI.app (l := st) (m := [yi]) hap)
                   have HB7 := Lib.hid ((HBz.out.alloc HBz.out.size _).trans (hap.below (HOz.out.allocI _) (by have := HBz.out.size; simp; omega)))
                   clear hap))
              go_roundw
              case rel => exact ⟨j + 1, HLT.out, by go_num, by rw [HFS.out]; exact HV.out, HB7.out⟩
              case measure => have := HLT.out; simp [intOf]; omega
      · obtain rfl : i = b.length := by omega
        have r1 : ¬ (b.length : Int) < (b.length : Int) := by omega
        have hst := HO.out
        rw [List.take_length] at hst
        have l1 := HMO.out.l1
        have l2 := HMO.out.l2
        have HST := Lib.hid HMO.out.st
        generalize (b.filter fun x => !(x == k)) = st at *
        obtain ⟨Sa, cs, rfl, hs1, hs2, hs3⟩ := hst.rd
        have HCW := Lib.hid (HB.out)
        have RAw := Lib.hid (show RdI wr wr.heap.size A a from (Rd.below (show Rd W4 W4.heap.size A (its a) from RA4.out) HB.out).more HB.out.size)
        have hra := RAw.out.take st.length
        rw [← HST.out] at hra
        have HSM := Lib.hid (sameT_c Sa A cs ca st wr hs3 hra (by omega))
        have hca := CA.out
        have u1 : ¬ (st.length : Int) < (b.length : Int) - 1 := by omega
        have u2 : ¬ (a.length : Int) < (st.length : Int) := by omega
        have u3 : (st.length : Int) ≤ (ca : Int) := by omega
        have u4 : ¬ a.length < st.length := by omega
        have u5 : st.length ≤ ca := by omega
        have u6 : (0 : Int) ≤ (st.length : Int) := by omega
        have u7 : decide ((st.length : Int) < 0) = false := decide_eq_false (by omega)
        have HBT := Lib.hid (B4.out.trans (HB.out.mono B4.out.size))
        clear hst hs1 hs2 hs3 hra hca HO HB HRB hi hlt HMO
        go_wp2_with (first
          | (go_at_call 9; (with_reducible refine HSM.out.mono ?_); rintro e Y1 ⟨rfl, nn, hd⟩
             have hb1 : Below wr.heap.size wr Y1 := by rw [hd]; exact belowDrewN nn (Below.refl _ _)
             have D1 := Lib.hid (HBT.out.trans (hb1.mono HBT.out.size))
             have HLN := Lib.hid (lenN_c Y1)
             have HNN := Lib.hid (nodesN_c tv sv Y1)
             have HHA := Lib.hid (show Calls Tryd.prog 11 #[.pointer none, .int .i64 0, .string tv, .string sv] Y1 fun e w' => e = .returned (.bool false) ∧ Below Y1.heap.size Y1 w' from has_c (.pointer none) 0 (.string tv) (.string sv) [] Y1 (by simp) ((nodesN_c tv sv Y1).mono (by
               rintro e w' ⟨rfl, rfl⟩
               exact ⟨none, 0, rfl, Nat.le_refl _, Rd.nil_ _ _ _, Below.refl _ _⟩)))
             clear hd hb1)
          | (go_at_call 8; (with_reducible refine HLN.out.mono ?_); rintro e Y2 ⟨rfl, rfl⟩)
          | (go_at_call 10; (with_reducible refine HNN.out.mono ?_); rintro e Y2 ⟨rfl, rfl⟩)
          | (go_at_call 11; (with_reducible refine HHA.out.mono ?_); rintro e Y4 ⟨rfl, hb4⟩
             have D4 := Lib.hid (D1.out.trans (hb4.mono D1.out.size))
             have HNM4 := Lib.hid (HNM.out Y4 (HRO.out.next D4.out))
             clear hb4)
          | (go_at_call 6; (with_reducible refine HNM4.out.mono ?_); rintro e Y5 ⟨Lm, vm, rfl, h1, h2, h3, h4⟩
             have D5 := Lib.hid (D4.out.trans (h4.mono D4.out.size))
             have HL5 := Lib.hid (show Calls Tryd.prog 8 #[.pointer (some ⟨Y4.heap.size, 0, none⟩)] Y5 fun e w' => e = .returned (.int .i64 32) ∧ Y5 = w' from len_c Y4.heap.size 32 Lm vm Y5 h3)
             clear h1 h2 h3 h4)
          | (go_at_call 8; (with_reducible refine HL5.out.mono ?_); rintro e Y6 ⟨rfl, rfl⟩; have HAW := Lib.hid (awake18_c Y5 (HRO.out.next D5.out)))
          | (go_at_call 5; (with_reducible refine HAW.out.mono ?_); rintro e Y7 ⟨rfl, hb7⟩; have D7 := Lib.hid (D5.out.trans (hb7.mono D5.out.size)); clear hb7))
        go_ret
        exact ⟨rfl, D7.out⟩
  · have HAW := Lib.hid (awake18_c w hR)
    clear hR ht hs
    generalize bstr t = tv at *
    generalize bstr s = sv at *
    rw [← hbt, ← hbs] at hq
    clear hbt hbs
    have h3 : ((100 : Int) < (tv.size : Int)) ∨ (¬ (100 : Int) < (tv.size : Int) ∧ (100 : Int) < (sv.size : Int)) := by omega
    clear hq
    rcases h3 with q2 | ⟨q2, q3⟩
    · have q4 : 100 < tv.size := by omega
      go_enter Tryd.func4, Tryd.ntmps4
      go_wp2_with (go_at_call 5; (with_reducible refine HAW.out.mono ?_); rintro e Y5 ⟨rfl, hb6⟩; have HB6 := Lib.hid hb6; clear hb6)
      go_ret
      exact ⟨rfl, HB6.out⟩
    · have q4 : ¬ 100 < tv.size := by omega
      have q5 : 100 < sv.size := by omega
      go_enter Tryd.func4, Tryd.ntmps4
      go_wp2_with (go_at_call 5; (with_reducible refine HAW.out.mono ?_); rintro e Y5 ⟨rfl, hb6⟩; have HB6 := Lib.hid hb6; clear hb6)
      go_ret
      exact ⟨rfl, HB6.out⟩
end Go.Proofs.YtbgnjjbmidkhlaaDoor
namespace Go.Proofs.YtbgnjjbmidkhlaaDoor
set_option linter.unusedVariables false
set_option linter.unusedSimpArgs false
open Go Go.ChangeShapes Go.WideShapes Go.ChangeAt Go.RowKit
set_option maxRecDepth 100000 in
theorem ringMore_lifted (os : Os) (started : os.Started) (H : Type) (enc : TypeId × Value → H) :
    ReturnsInHanded {} Tryd.checked os 4 .any (fun w args => (Rows.ringMoreSpec.pre enc Tryd.prog Tryd.f4 [] false w args ∧ laidMetH Tryd.prog laidR w) ∧ sizedMet enc Tryd.prog Tryd.f4 (OpenSpec.ofChange Rows.ringMoreSpec) false w args) (Rows.ringMoreSpec.post enc Tryd.prog Tryd.f4 false true false false) := by
  refine liftL started _ rfl (by kernel_rfl) Tryd.func4 ⟨rfl, fun H ds h => ?_⟩ rfl (of_decide_eq_true (by kernel_rfl))
    (ChangeSpec.witness_shaped (enc := enc) (C := Tryd.checked) (os := os) (X := fun w _ => laidMetH Tryd.prog laidR w) false (World.doorLaid Tryd.prog 400 os) #[.int .u8 0, .string ByteArray.empty, .string ByteArray.empty] 8 rfl (World.shaped_of_RefB (by kernel_rfl) (by kernel_rfl)) (by kernel_rfl) (by kernel_rfl) (by kernel_rfl) (door_met os _)) ?_
  · match ds, h with
    | [_, _, _], _ => rfl
  · intro W base args ds ps ht hw0 hval hA hlt
    rw [Tryd.params4] at hA hval
    obtain ⟨v0, vs0, d0, ds0, p0, q0, hargs, rfl, rfl, h0, r0⟩ := trodAll_cons hA
    obtain ⟨v1, vs1, d1, ds1, p1, q1, rfl, rfl, rfl, h1, r1⟩ := trodAll_cons r0
    obtain ⟨v2, vs2, d2, ds2, p2, q2, rfl, rfl, rfl, h2, r2⟩ := trodAll_cons r1
    obtain ⟨rfl, rfl, rfl⟩ := trodAll_nil r2
    obtain rfl : args = #[v0, v1, v2] := by cases args; simp_all
    obtain ⟨a0, rfl, rfl, rfl, w0⟩ := open_int Tryd.underlying5 (hval 0 5 v0 rfl rfl) h0
    have hb0 := bounds_u8 w0
    obtain ⟨n0, rfl⟩ := Int.eq_ofNat_of_zero_le hb0.1
    obtain ⟨s1, rfl, rfl, rfl, hs1⟩ := Go.ChangeMaps.open_string Tryd.underlying9 (hval 1 9 v1 rfl rfl) h1
    obtain ⟨s2, rfl, rfl, rfl, hs2⟩ := Go.ChangeMaps.open_string Tryd.underlying9 (hval 2 9 v2 rfl rfl) h2
    exact (by rw [← bstr_sbytes s1, ← bstr_sbytes s2]; exact ringMore_c n0 (sbytes s1) (sbytes s2) W (by omega) (sbytes_lt s1) (sbytes_lt s2) ⟨ht, hw0⟩)
theorem ringMore_row : Rows.RingMoreSaid :=
  OpenClaim.holds_of_wide 4 Tryd.f4 rfl rfl rfl rfl rfl rfl rfl ⟨rfl, rfl, rfl, rfl, rfl⟩ rfl rfl rfl rfl rfl (by kernel_rfl) Tryd.func4 (by kernel_rfl)
    (of_decide_eq_true (by kernel_rfl)) (by unfold Func.isWrapper; rw [if_neg (by decide +kernel)]; exact ⟨rfl, rfl⟩)
    (fun os started H enc _ => ringMore_lifted os started H enc)
theorem ringMore_holds : Rows.RingMoreCardSaid :=
  Claim7.holds_tied_plain_at .later [] [.data] true (true, "8e375b0f5c55a9fd9d8bee3e5958c05f8d1a64e1afac230cfa149e869d8f7fb2") false
    ringMore_row (fun _ h => by cases h) (by kernel_rfl) (fun _ h => by cases h) ringMore_row_tie rfl ⟨rfl, rfl⟩ (by kernel_rfl) rfl
    (fun f fn hf hfn => by
      obtain rfl : f = 4 := Option.some.inj ((show Tryd.prog.funcNamed "quaestor/quaestorlaw18.RingMore" = some 4 by kernel_rfl).symm.trans hf) |>.symm
      obtain rfl : fn = Tryd.f4 := (Option.some.inj (Tryd.func4.symm.trans hfn)).symm
      exact ⟨by kernel_rfl, fun j t ht => by
        rw [Tryd.params4] at ht
        have hm : t ∈ [5, 9, 9] := by simpa using Array.mem_of_getElem? ht
        have hall : ([5, 9, 9].all fun u => !Tryd.prog.wantsStandIn u) = true := by kernel_rfl
        exact (show Tryd.prog.wantsStandIn t = false by simpa using List.all_eq_true.1 hall t hm)⟩)
    (by kernel_rfl)
#print axioms ringMore_holds
end Go.Proofs.YtbgnjjbmidkhlaaDoor
