/- The document's tag: the product. -/
import Derived.Test.YtfblpkjablgafaaRt6
namespace Go.Proofs.Ytfblpkjablgafaa
open Go.RowKit
set_option linter.unusedVariables false
set_option linter.unusedSimpArgs false
structure MlAt (A F : List Nat) (i k : Nat) (O : List Nat) : Prop where
  len : O.length = 22
  bnd : ∀ j, O.getD j 0 ≤ (11 * i + k) * 134193153
  val : V13 O = V13 (A.take i) * V13 F + 8192 ^ i * (A.getD i 0 * V13 (F.take k))
theorem MlAt.zero (A F : List Nat) : MlAt A F 0 0 (List.replicate 22 0) := ⟨rfl, fun j => by rw [rep_at]; omega, by rw [V13_rep, List.take_zero, List.take_zero, V13, Nat.zero_mul, Nat.mul_zero]⟩
theorem MlAt.step {A F O : List Nat} {i k : Nat} (h : MlAt A F i k O) (hi : i < 11) (hk : k < 11) (hF : F.length = 11) (ha : A.getD i 0 ≤ 16383) (hf : F.getD k 0 ≤ 8191) :
    MlAt A F i (k + 1) (O.set (i + k) (O.getD (i + k) 0 + A.getD i 0 * F.getD k 0)) ∧ A.getD i 0 * F.getD k 0 ≤ 134193153 := by
  have hl : i + k < O.length := by rw [h.len]; omega
  have hm : A.getD i 0 * F.getD k 0 ≤ 134193153 := Nat.mul_le_mul ha hf
  refine ⟨⟨by rw [List.length_set]; exact h.len, fun j => ?_, ?_⟩, hm⟩
  · rw [getD_set _ _ _ _ hl]
    have e : (11 * i + (k + 1)) * 134193153 = (11 * i + k) * 134193153 + 134193153 := by rw [← Nat.add_assoc, Nat.add_mul, Nat.one_mul]
    rw [e]
    split
    · exact Nat.add_le_add (h.bnd (i + k)) hm
    · exact Nat.le_trans (h.bnd j) (Nat.le_add_right _ _)
  · have h1 := V13_set O (i + k) (O.getD (i + k) 0 + A.getD i 0 * F.getD k 0) hl
    rw [Nat.mul_add] at h1
    rw [V13_take F k (by omega), Nat.mul_add, Nat.mul_add]
    have h2 := h.val
    have e : 8192 ^ i * (A.getD i 0 * (8192 ^ k * F.getD k 0)) = 8192 ^ (i + k) * (A.getD i 0 * F.getD k 0) := by
      rw [Nat.pow_add, Nat.mul_assoc]
      congr 1
      exact Nat.mul_left_comm _ _ _
    omega
theorem MlAt.row {A F O : List Nat} {i : Nat} (h : MlAt A F i 11 O) (hA : i < A.length) (hF : F.length = 11) : MlAt A F (i + 1) 0 O :=
  ⟨h.len, fun j => by have := h.bnd j; omega, by
    rw [h.val, V13_take A i hA, List.take_of_length_le (l := F) (by omega), List.take_zero, V13, Nat.mul_zero, Nat.mul_zero, Nat.add_zero, Nat.add_mul, Nat.mul_assoc]⟩
set_option maxRecDepth 1000000 in
set_option maxHeartbeats 40000000 in
theorem tloop6 (Q : Exit → Act → World → Prop) (wq : World) (gf gn gp : Nat) (F A : List Nat) (c0 c1 c2 c3 c4 c5 c6 c7 c9 c10 c11 c13 c16 c17 c18 c19 c20 c21 c22 c23 c24 c25 c26 c27 c28 c29 c30 c31 c32 c33 c34 c35 c36 c37 c38 c39 c40 c41 c42 c43 c44 c45 c46 c47 c48 c49 c50 c51 c52 c53 c54 c55 c56 c57 c58 c59 c60 c61 c62 c63 c64 c65 c66 c67 c68 c69 c70 c71 c72 c73 c74 c75 c76 c77 c78 c79 c80 c81 c82 c83 c84 c85 c86 c87 c88 c89 c90 c91 c92 c93 c94 c95 c96 c97 c98 c99 c100 c101 c102 c103 c104 c105 c106 c107 c108 c109 c110 c111 c112 c113 c114 c115 c116 c117 c118 c119 c120 c121 c122 c123 c124 c125 c126 c127 c128 c129 c130 c131 c132 c133 c134 c135 c136 c137 c138 c139 c140 c141 c142 c143 c144 c145 c146 c147 c148 c149 c150 c151 c152 c153 c154 c155 c156 c157 c158 c159 c160 c161 c162 c163 c164 c165 c166 c167 c168 c169 c170 c171 c172 c173 c174 c175 c176 c177 c178 c179 c180 c181 c182 c183 c184 c185 c186 c187 c188 c189 c190 : Value)
    (hne : gf ≠ gp) (hne2 : gn ≠ gp) (HF : Hid (Blk wq gf 42 (vq F))) (HN : Hid (Blk wq gn 42 (vq A))) (HP : Hid (Blk wq gp 42 (vq (List.replicate 22 0)))) (fl : F.length = 11) (nl : A.length = 11) (HFB : Hid (∀ j, F.getD j 0 ≤ 8191)) (HNB : Hid (∀ j, A.getD j 0 ≤ 16383))
    (hexit : ∀ (u15 u16 u90 u91 u92 u93 u94 u95 u96 u97 u98 u99 u100 u101 u102 u103 u104 u105 u106 u107 u108 u109 u110 u111 u112 u113 u114 u115 u116 u117 u118 : Value) (O : List Nat) (ws : World), MlAt A F 11 0 O → Blk ws gp 42 (vq O) → wq.grownBy ws (some gp) → Q (.exit 6) ⟨(c0 :: c1 :: c2 :: c3 :: c4 :: c5 :: c6 :: c7 :: (.slice (some ⟨gf, 0, none⟩) 11 11) :: c9 :: c10 :: c11 :: (.slice (some ⟨gn, 0, none⟩) 11 11) :: c13 :: (.slice (some ⟨gp, 0, none⟩) 22 22) :: u15 :: u16 :: c17 :: c18 :: c19 :: c20 :: c21 :: c22 :: c23 :: c24 :: c25 :: c26 :: c27 :: c28 :: c29 :: c30 :: c31 :: c32 :: c33 :: c34 :: c35 :: c36 :: c37 :: c38 :: c39 :: c40 :: c41 :: c42 :: c43 :: c44 :: c45 :: c46 :: c47 :: c48 :: c49 :: c50 :: c51 :: c52 :: c53 :: c54 :: c55 :: c56 :: c57 :: c58 :: c59 :: c60 :: c61 :: c62 :: c63 :: c64 :: c65 :: c66 :: c67 :: c68 :: c69 :: c70 :: c71 :: c72 :: c73 :: c74 :: c75 :: c76 :: c77 :: c78 :: c79 :: c80 :: c81 :: c82 :: c83 :: c84 :: c85 :: c86 :: c87 :: c88 :: c89 :: u90 :: u91 :: u92 :: u93 :: u94 :: u95 :: u96 :: u97 :: u98 :: u99 :: u100 :: u101 :: u102 :: u103 :: u104 :: u105 :: u106 :: u107 :: u108 :: u109 :: u110 :: u111 :: u112 :: u113 :: u114 :: u115 :: u116 :: u117 :: u118 :: c119 :: c120 :: c121 :: c122 :: c123 :: c124 :: c125 :: c126 :: c127 :: c128 :: c129 :: c130 :: c131 :: c132 :: c133 :: c134 :: c135 :: c136 :: c137 :: c138 :: c139 :: c140 :: c141 :: c142 :: c143 :: c144 :: c145 :: c146 :: c147 :: c148 :: c149 :: c150 :: c151 :: c152 :: c153 :: c154 :: c155 :: c156 :: c157 :: c158 :: c159 :: c160 :: c161 :: c162 :: c163 :: c164 :: c165 :: c166 :: c167 :: c168 :: c169 :: c170 :: c171 :: c172 :: c173 :: c174 :: c175 :: c176 :: c177 :: c178 :: c179 :: c180 :: c181 :: c182 :: c183 :: c184 :: c185 :: c186 :: c187 :: c188 :: c189 :: c190 :: []).toArray, []⟩ ws) :
    Code.wp Try.prog (tgl 6) Q ⟨(c0 :: c1 :: c2 :: c3 :: c4 :: c5 :: c6 :: c7 :: (.slice (some ⟨gf, 0, none⟩) 11 11) :: c9 :: c10 :: c11 :: (.slice (some ⟨gn, 0, none⟩) 11 11) :: c13 :: (.slice (some ⟨gp, 0, none⟩) 22 22) :: (.int .i64 0) :: c16 :: c17 :: c18 :: c19 :: c20 :: c21 :: c22 :: c23 :: c24 :: c25 :: c26 :: c27 :: c28 :: c29 :: c30 :: c31 :: c32 :: c33 :: c34 :: c35 :: c36 :: c37 :: c38 :: c39 :: c40 :: c41 :: c42 :: c43 :: c44 :: c45 :: c46 :: c47 :: c48 :: c49 :: c50 :: c51 :: c52 :: c53 :: c54 :: c55 :: c56 :: c57 :: c58 :: c59 :: c60 :: c61 :: c62 :: c63 :: c64 :: c65 :: c66 :: c67 :: c68 :: c69 :: c70 :: c71 :: c72 :: c73 :: c74 :: c75 :: c76 :: c77 :: c78 :: c79 :: c80 :: c81 :: c82 :: c83 :: c84 :: c85 :: c86 :: c87 :: c88 :: c89 :: c90 :: c91 :: c92 :: c93 :: c94 :: c95 :: c96 :: c97 :: c98 :: c99 :: c100 :: c101 :: c102 :: c103 :: c104 :: c105 :: c106 :: c107 :: c108 :: c109 :: c110 :: c111 :: c112 :: c113 :: c114 :: c115 :: c116 :: c117 :: c118 :: c119 :: c120 :: c121 :: c122 :: c123 :: c124 :: c125 :: c126 :: c127 :: c128 :: c129 :: c130 :: c131 :: c132 :: c133 :: c134 :: c135 :: c136 :: c137 :: c138 :: c139 :: c140 :: c141 :: c142 :: c143 :: c144 :: c145 :: c146 :: c147 :: c148 :: c149 :: c150 :: c151 :: c152 :: c153 :: c154 :: c155 :: c156 :: c157 :: c158 :: c159 :: c160 :: c161 :: c162 :: c163 :: c164 :: c165 :: c166 :: c167 :: c168 :: c169 :: c170 :: c171 :: c172 :: c173 :: c174 :: c175 :: c176 :: c177 :: c178 :: c179 :: c180 :: c181 :: c182 :: c183 :: c184 :: c185 :: c186 :: c187 :: c188 :: c189 :: c190 :: []).toArray, []⟩ wq := by
  conv => arg 2; whnf
  go_loopw [15] (fun i wr => ∃ (n : Nat) (O : List Nat), n ≤ 11 ∧ i = .int .i64 (n : Int) ∧ MlAt A F n 0 O ∧ Blk wr gp 42 (vq O) ∧ wq.grownBy wr (some gp)) (fun i _ => 11 - (intOf i).toNat)
  case atStart => exact ⟨0, _, by omega, rfl, MlAt.zero _ _, HP.out, g1_refl _ _⟩
  case round =>
    rename World => wr
    obtain ⟨i, O, hi, rfl, hml, hat, hgr⟩ := hrel
    have ML := Lib.hid hml
    have AT := Lib.hid hat
    have GR := Lib.hid hgr
    clear hml hat hgr
    by_cases hlt : i < 11
    · have p1 : (i : Int) < 11 := by omega
      have HA := Lib.hid (HNB.out i)
      have b1 := HNB.out i
      generalize ha : A.getD i 0 = a at *
      have HAA := Lib.hid ha
      clear ha
      go_wp2_with fail
      obtain ⟨wo, hwo⟩ : ∃ wo : World, wo = wr := ⟨_, rfl⟩
      rw [← hwo] at AT GR ⊢
      clear hwo
      go_loopw [16] (fun k ws => ∃ (n : Nat) (O : List Nat), n ≤ 11 ∧ k = .int .i64 (n : Int) ∧ MlAt A F i n O ∧ Blk ws gp 42 (vq O) ∧ wq.grownBy ws (some gp)) (fun k _ => 11 - (intOf k).toNat)
      case atStart => exact ⟨0, O, by omega, rfl, ML.out, AT.out, GR.out⟩
      case round =>
        rename World => ws
        obtain ⟨k, O', hk, rfl, hml, hat, hgr⟩ := hrel
        clear ML AT GR
        have ML := Lib.hid hml
        have AT := Lib.hid hat
        have GR := Lib.hid hgr
        clear hml hat hgr
        by_cases hlk : k < 11
        · obtain ⟨m, hm⟩ : ∃ m, m = i + k := ⟨_, rfl⟩
          have p2 : (k : Int) < 11 := by omega
          have p3 : (m : Int) < 22 := by omega
          have g1 : (i : Int) + (k : Int) = (m : Int) := by omega
          have g2 : IntKind.i64.wrap (m : Int) = (m : Int) := IntWalk.i64_in _ (by omega)
          have hst := ML.out.step hlt hlk fl (by rw [HAA.out]; exact HA.out) (HFB.out k)
          rw [← hm, HAA.out] at hst
          have hob := ML.out.bnd m
          have d0 := (AT.out.cell m).trans (vq_at O' m (by rw [ML.out.len]; omega))
          have e0 := AT.out.free m
          have d1 := ((g1_blk GR.out HN.out hne2).cell i).trans (vq_at A i (by omega))
          rw [HAA.out] at d1
          have d2 := ((g1_blk GR.out HF.out hne).cell k).trans (vq_at F k (by omega))
          have HS := Lib.hid (show ∀ v : Nat, Blk (ws.setCell ⟨gp, m, none⟩ (.int .u64 (v : Int))).drew gp 42 (vq (O'.set m v)) ∧ wq.grownBy (ws.setCell ⟨gp, m, none⟩ (.int .u64 (v : Int))).drew (some gp) from fun v => ⟨by rw [← vq_set]; exact AT.out.set_ _ _, g1_drew (g1_set GR.out _ _)⟩)
          have hb2 := hst.2
          have HE := Lib.hid hst.1
          have hbb : (11 * i + k) * 134193153 ≤ 17179869184 := by
            have : 11 * i + k ≤ 120 := by omega
            exact Nat.le_trans (Nat.mul_le_mul_right _ this) (by decide)
          have f0 : IntKind.u64.wrap ((a : Int) * ((F.getD k 0 : Nat) : Int)) = ((a * F.getD k 0 : Nat) : Int) := by rw [← Int.natCast_mul, wrap_lt _ (by omega)]
          have f1 : IntKind.u64.wrap (((O'.getD m 0 : Nat) : Int) + ((a * F.getD k 0 : Nat) : Int)) = ((O'.getD m 0 + a * F.getD k 0 : Nat) : Int) := by rw [← Int.natCast_add, wrap_lt _ (by omega)]
          obtain ⟨v, hv⟩ : ∃ v, v = O'.getD m 0 + a * F.getD k 0 := ⟨_, rfl⟩
          rw [← hv] at f1 HE
          clear hv hst hob hbb hb2 hm
          generalize F.getD k 0 = f at *
          generalize O'.getD m 0 = o at *
          generalize a * f = af at *
          go_wp2_with fail
          go_still_tail 20, (by kernel_rfl)
          go_wp2_with fail
          exact ⟨⟨k + 1, _, by omega, by go_num, HE.out, HS.out v⟩, by simp only [intOf]; omega⟩
        · obtain rfl : k = 11 := by omega
          have HRW := Lib.hid (ML.out.row (by omega) fl)
          go_wp2_with fail
          exact ⟨⟨i + 1, _, by omega, by go_num, HRW.out, AT.out, GR.out⟩, by simp only [intOf]; omega⟩
    · obtain rfl : i = 11 := by omega
      go_wp2_with fail
      exact hexit _ _ _ _ _ _ _ _ _ _ _ _ _ _ _ _ _ _ _ _ _ _ _ _ _ _ _ _ _ _ _ _ _ ML.out AT.out GR.out
end Go.Proofs.Ytfblpkjablgafaa
