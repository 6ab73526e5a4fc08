/- Parts, one behind the other: RtM Ce0 Ce2 Dl0. -/
import Derived.Test.YtfnhmnbcponkfaaGreatDoorZ07
import Derived.Laws.Rows
import Derived.Laws.ResultCell
set_option maxRecDepth 100000
set_option linter.unusedVariables false
set_option linter.unusedSimpArgs false
set_option maxHeartbeats 40000000
namespace Go.Proofs.YtfnhmnbcponkfaaGreatDoor
open Go.RowKit
structure SmAt (N0 H : List Nat) (i : Nat) (O : List Nat) : Prop where
 len : O.length = 11
 lt : ∀ j, O.getD j 0 < 16384
 up : ∀ j, i ≤ j → O.getD j 0 < 8192
 val : V13 O = V13 N0 + V13 (H.take i)
theorem SmAt.step {N0 H O : List Nat} {i : Nat} (h : SmAt N0 H i O) (hi : i < H.length) (h10 : H.length ≤ 10) (hh : H.getD i 0 < 8192) : SmAt N0 H (i + 1) (O.set i (O.getD i 0 + H.getD i 0)) := by
 have hl : i < O.length := by rw [h.len]; omega
 have hu := h.up i (jD _)
 refine ⟨by rw [List.length_set]; exact h.len, fun j => ?_, fun j hj => ?_, ?_⟩
 ·rw [getD_set _ _ _ _ hl]
  split
  ·omega
  ·exact h.lt j
 ·rw [getD_set _ _ _ _ hl, if_neg (by omega)]
  exact h.up j (by omega)
 ·have h1 := V13_set O i (O.getD i 0 + H.getD i 0) hl
  have h2 := h.val
  rw [Nat.mul_add] at h1
  rw [V13_take H i hi]
  omega
set_option maxRecDepth 1000000 in
theorem tloop4 (Q : Exit → Act → World → Prop) (wq : World) (gh gn : Nat) (H N0 : List Nat) (c0 c1 c2 c3 c4 c5 c6 c7 c8 c10 c11 c14 c15 c16 c17 c18 c19 c20 c21 c22 c23 c24 c25 c26 c27 c28 c29 c30 c31 c32 c33 c34 c35 c36 c37 c38 c39 c40 c41 c42 c43 c44 c45 c46 c47 c48 c49 c50 c51 c52 c53 c54 c55 c56 c57 c58 c59 c60 c61 c62 c63 c64 c65 c66 c67 c68 c69 c70 c71 c72 c73 c74 c75 c76 c77 c78 c79 c80 c81 c82 c83 c84 c85 c86 c87 c88 c89 c90 c91 c92 c93 c94 c95 c96 c97 c98 c99 c100 c101 c102 c103 c104 c105 c106 c107 c108 c109 c110 c111 c112 c113 c114 c115 c116 c117 c118 c119 c120 c121 c122 c123 c124 c125 c126 c127 c128 c129 c130 c131 c132 c133 c134 c135 c136 c137 c138 c139 c140 c141 c142 c143 c144 c145 c146 c147 c148 c149 c150 c151 c152 c153 c154 c155 c156 c157 c158 c159 c160 c161 c162 c163 c164 c165 c166 c167 c168 c169 c170 c171 c172 c173 c174 c175 c176 c177 c178 c179 c180 c181 c182 c183 c184 c185 c186 c187 c188 c189 c190 : Value)
  (hne : gh ≠ gn) (HH : Hid (Blk wq gh 43 (vq H))) (HN : Hid (Blk wq gn 43 (vq N0))) (hl : H.length = 10) (nl : N0.length = 11) (HHB : Hid (∀ j, H.getD j 0 < 8192)) (HNB : Hid (∀ j, N0.getD j 0 < 8192))
  (hexit : ∀ (u13 u73 u74 u75 u76 u77 u78 u79 u80 u81 u82 u83 u84 u85 u86 u87 u88 : Value) (O : List Nat) (ws : World), SmAt N0 H 10 O → Blk ws gn 43 (vq O) → wq.grownBy ws (some gn) → Q (.exit 4) ⟨(c0 :: c1 :: c2 :: c3 :: c4 :: c5 :: c6 :: c7 :: c8 :: (.slice (some ⟨gh, 0, none⟩) 10 10) :: c10 :: c11 :: (.slice (some ⟨gn, 0, none⟩) 11 11) :: u13 :: c14 :: c15 :: c16 :: c17 :: c18 :: c19 :: c20 :: c21 :: c22 :: c23 :: c24 :: c25 :: c26 :: c27 :: c28 :: c29 :: c30 :: c31 :: c32 :: c33 :: c34 :: c35 :: c36 :: c37 :: c38 :: c39 :: c40 :: c41 :: c42 :: c43 :: c44 :: c45 :: c46 :: c47 :: c48 :: c49 :: c50 :: c51 :: c52 :: c53 :: c54 :: c55 :: c56 :: c57 :: c58 :: c59 :: c60 :: c61 :: c62 :: c63 :: c64 :: c65 :: c66 :: c67 :: c68 :: c69 :: c70 :: c71 :: c72 :: u73 :: u74 :: u75 :: u76 :: u77 :: u78 :: u79 :: u80 :: u81 :: u82 :: u83 :: u84 :: u85 :: u86 :: u87 :: u88 :: c89 :: c90 :: c91 :: c92 :: c93 :: c94 :: c95 :: c96 :: c97 :: c98 :: c99 :: c100 :: c101 :: c102 :: c103 :: c104 :: c105 :: c106 :: c107 :: c108 :: c109 :: c110 :: c111 :: c112 :: c113 :: c114 :: c115 :: c116 :: c117 :: c118 :: c119 :: c120 :: c121 :: c122 :: c123 :: c124 :: c125 :: c126 :: c127 :: c128 :: c129 :: c130 :: c131 :: c132 :: c133 :: c134 :: c135 :: c136 :: c137 :: c138 :: c139 :: c140 :: c141 :: c142 :: c143 :: c144 :: c145 :: c146 :: c147 :: c148 :: c149 :: c150 :: c151 :: c152 :: c153 :: c154 :: c155 :: c156 :: c157 :: c158 :: c159 :: c160 :: c161 :: c162 :: c163 :: c164 :: c165 :: c166 :: c167 :: c168 :: c169 :: c170 :: c171 :: c172 :: c173 :: c174 :: c175 :: c176 :: c177 :: c178 :: c179 :: c180 :: c181 :: c182 :: c183 :: c184 :: c185 :: c186 :: c187 :: c188 :: c189 :: c190 :: []).toArray, []⟩ ws) :
  Code.wp Tryz.prog (tgl 4) Q ⟨(c0 :: c1 :: c2 :: c3 :: c4 :: c5 :: c6 :: c7 :: c8 :: (.slice (some ⟨gh, 0, none⟩) 10 10) :: c10 :: c11 :: (.slice (some ⟨gn, 0, none⟩) 11 11) :: (.int .i64 0) :: c14 :: c15 :: c16 :: c17 :: c18 :: c19 :: c20 :: c21 :: c22 :: c23 :: c24 :: c25 :: c26 :: c27 :: c28 :: c29 :: c30 :: c31 :: c32 :: c33 :: c34 :: c35 :: c36 :: c37 :: c38 :: c39 :: c40 :: c41 :: c42 :: c43 :: c44 :: c45 :: c46 :: c47 :: c48 :: c49 :: c50 :: c51 :: c52 :: c53 :: c54 :: c55 :: c56 :: c57 :: c58 :: c59 :: c60 :: c61 :: c62 :: c63 :: c64 :: c65 :: c66 :: c67 :: c68 :: c69 :: c70 :: c71 :: c72 :: c73 :: c74 :: c75 :: c76 :: c77 :: c78 :: c79 :: c80 :: c81 :: c82 :: c83 :: c84 :: c85 :: c86 :: c87 :: c88 :: c89 :: c90 :: c91 :: c92 :: c93 :: c94 :: c95 :: c96 :: c97 :: c98 :: c99 :: c100 :: c101 :: c102 :: c103 :: c104 :: c105 :: c106 :: c107 :: c108 :: c109 :: c110 :: c111 :: c112 :: c113 :: c114 :: c115 :: c116 :: c117 :: c118 :: c119 :: c120 :: c121 :: c122 :: c123 :: c124 :: c125 :: c126 :: c127 :: c128 :: c129 :: c130 :: c131 :: c132 :: c133 :: c134 :: c135 :: c136 :: c137 :: c138 :: c139 :: c140 :: c141 :: c142 :: c143 :: c144 :: c145 :: c146 :: c147 :: c148 :: c149 :: c150 :: c151 :: c152 :: c153 :: c154 :: c155 :: c156 :: c157 :: c158 :: c159 :: c160 :: c161 :: c162 :: c163 :: c164 :: c165 :: c166 :: c167 :: c168 :: c169 :: c170 :: c171 :: c172 :: c173 :: c174 :: c175 :: c176 :: c177 :: c178 :: c179 :: c180 :: c181 :: c182 :: c183 :: c184 :: c185 :: c186 :: c187 :: c188 :: c189 :: c190 :: []).toArray, []⟩ wq := by
 conv => arg 2; whnf
 go_loopw [13] (fun i wr => ∃ (n : Nat) (O : List Nat), n ≤ 10 ∧ i = .int .i64 (n : Int) ∧ SmAt N0 H n O ∧ Blk wr gn 43 (vq O) ∧ wq.grownBy wr (some gn)) (fun i _ => 10 - (intOf i).toNat)
 case atStart => exact ⟨0, N0, by omega, rfl, ⟨nl, fun j => by have := HNB.out j; omega, fun j _ => HNB.out j, by rw [List.take_zero]; rfl⟩, HN.out, g1_refl _ _⟩
 case round =>
  rename World => wr
  obtain ⟨i, O, hi, rfl, hsm, hat, hgr⟩ := hrel
  have SM := Li hsm
  have AT := Li hat
  have GR := Li hgr
  clear hsm hat hgr
  by_cases hlt : i < 10
  ·have p1 : (i : Int) < 10 := by omega
   have p2 : (i : Int) < 11 := by omega
   have d0 := (AT.out.cell i).trans (vq_at O i (by rw [SM.out.len]; omega))
   have e0 := AT.out.free i
   have d1 := ((g1_blk GR.out HH.out hne).cell i).trans (vq_at H i (by omega))
   have HE := Li (SM.out.step (by omega) (by omega) (HHB.out i))
   have b1 := HHB.out i
   have b2 := SM.out.lt i
   have HS := Li (show ∀ v : Nat, Blk (wr.setCell ⟨gn, i, none⟩ (.int .u64 (v : Int))).drew gn 43 (vq (O.set i v)) ∧ wq.grownBy (wr.setCell ⟨gn, i, none⟩ (.int .u64 (v : Int))).drew (some gn) from fun v => ⟨by rw [← vq_set]; exact AT.out.set_ _ _, g1_drew (g1_set GR.out _ _)⟩)
   have f1 : IntKind.u64.wrap (((O.getD i 0 : Nat) : Int) + ((H.getD i 0 : Nat) : Int)) = ((O.getD i 0 + H.getD i 0 : Nat) : Int) := by rw [← Int.natCast_add, wrap_lt _ (by omega)]
   obtain ⟨v, hv⟩ : ∃ v, v = O.getD i 0 + H.getD i 0 := ⟨_, rfl⟩
   rw [← hv] at f1 HE
   clear hv b1 b2
   generalize O.getD i 0 = o at *
   generalize H.getD i 0 = h at *
   go_wp2_with fail
   go_still_tail 12, (by kernel_rfl)
   go_wp2_with fail
   exact ⟨⟨i + 1, _, by omega, by go_num, HE.out, HS.out v⟩, by simp only [intOf]; omega⟩
  ·obtain rfl : i = 10 := by omega
   go_wp2_with fail
   exact hexit _ _ _ _ _ _ _ _ _ _ _ _ _ _ _ _ _ _ _ SM.out AT.out GR.out
structure MlAt (A F : List Nat) (i k : Nat) (O : List Nat) : Prop where
 len : O.length = 22
 bnd : ∀ j, O.getD j 0 ≤ (11 * i + k) * 134193153
 val : V13 O = V13 (A.take i) * V13 F + 8192 ^ i * (A.getD i 0 * V13 (F.take k))
theorem MlAt.zero (A F : List Nat) : MlAt A F 0 0 (List.replicate 22 0) := ⟨rfl, fun j => by rw [rep_at]; omega, by rw [V13_rep, List.take_zero, List.take_zero, V13, Nat.zero_mul, Nat.mul_zero]⟩
theorem MlAt.step {A F O : List Nat} {i k : Nat} (h : MlAt A F i k O) (hi : i < 11) (hk : k < 11) (hF : F.length = 11) (ha : A.getD i 0 ≤ 16383) (hf : F.getD k 0 ≤ 8191) :
  MlAt A F i (k + 1) (O.set (i + k) (O.getD (i + k) 0 + A.getD i 0 * F.getD k 0)) ∧ A.getD i 0 * F.getD k 0 ≤ 134193153 := by
 have hl : i + k < O.length := by rw [h.len]; omega
 have hm : A.getD i 0 * F.getD k 0 ≤ 134193153 := Nat.mul_le_mul ha hf
 refine ⟨⟨by rw [List.length_set]; exact h.len, fun j => ?_, ?_⟩, hm⟩
 ·rw [getD_set _ _ _ _ hl]
  have e : (11 * i + (k + 1)) * 134193153 = (11 * i + k) * 134193153 + 134193153 := by rw [← Nat.add_assoc, Nat.add_mul, Nat.one_mul]
  rw [e]
  split
  ·exact Nat.add_le_add (h.bnd (i + k)) hm
  ·exact Nat.le_trans (h.bnd j) (Nat.le_add_right _ _)
 ·have h1 := V13_set O (i + k) (O.getD (i + k) 0 + A.getD i 0 * F.getD k 0) hl
  rw [Nat.mul_add] at h1
  rw [V13_take F k (by omega), Nat.mul_add, Nat.mul_add]
  have h2 := h.val
  have e : 8192 ^ i * (A.getD i 0 * (8192 ^ k * F.getD k 0)) = 8192 ^ (i + k) * (A.getD i 0 * F.getD k 0) := by
   rw [Nat.pow_add, Nat.mul_assoc]
   congr 1
   exact Nat.mul_left_comm _ _ _
  omega
theorem MlAt.row {A F O : List Nat} {i : Nat} (h : MlAt A F i 11 O) (hA : i < A.length) (hF : F.length = 11) : MlAt A F (i + 1) 0 O :=
 ⟨h.len, fun j => by have := h.bnd j; omega, by
  rw [h.val, V13_take A i hA, List.take_of_length_le (l := F) (by omega), List.take_zero, V13, Nat.mul_zero, Nat.mul_zero, Nat.add_zero, Nat.add_mul, Nat.mul_assoc]⟩
set_option maxRecDepth 1000000 in
theorem tloop6 (Q : Exit → Act → World → Prop) (wq : World) (gf gn gp : Nat) (F A : List Nat) (c0 c1 c2 c3 c4 c5 c6 c7 c9 c10 c11 c13 c16 c17 c18 c19 c20 c21 c22 c23 c24 c25 c26 c27 c28 c29 c30 c31 c32 c33 c34 c35 c36 c37 c38 c39 c40 c41 c42 c43 c44 c45 c46 c47 c48 c49 c50 c51 c52 c53 c54 c55 c56 c57 c58 c59 c60 c61 c62 c63 c64 c65 c66 c67 c68 c69 c70 c71 c72 c73 c74 c75 c76 c77 c78 c79 c80 c81 c82 c83 c84 c85 c86 c87 c88 c89 c90 c91 c92 c93 c94 c95 c96 c97 c98 c99 c100 c101 c102 c103 c104 c105 c106 c107 c108 c109 c110 c111 c112 c113 c114 c115 c116 c117 c118 c119 c120 c121 c122 c123 c124 c125 c126 c127 c128 c129 c130 c131 c132 c133 c134 c135 c136 c137 c138 c139 c140 c141 c142 c143 c144 c145 c146 c147 c148 c149 c150 c151 c152 c153 c154 c155 c156 c157 c158 c159 c160 c161 c162 c163 c164 c165 c166 c167 c168 c169 c170 c171 c172 c173 c174 c175 c176 c177 c178 c179 c180 c181 c182 c183 c184 c185 c186 c187 c188 c189 c190 : Value)
  (hne : gf ≠ gp) (hne2 : gn ≠ gp) (HF : Hid (Blk wq gf 43 (vq F))) (HN : Hid (Blk wq gn 43 (vq A))) (HP : Hid (Blk wq gp 43 (vq (List.replicate 22 0)))) (fl : F.length = 11) (nl : A.length = 11) (HFB : Hid (∀ j, F.getD j 0 ≤ 8191)) (HNB : Hid (∀ j, A.getD j 0 ≤ 16383))
  (hexit : ∀ (u15 u16 u90 u91 u92 u93 u94 u95 u96 u97 u98 u99 u100 u101 u102 u103 u104 u105 u106 u107 u108 u109 u110 u111 u112 u113 u114 u115 u116 u117 u118 : Value) (O : List Nat) (ws : World), MlAt A F 11 0 O → Blk ws gp 43 (vq O) → wq.grownBy ws (some gp) → Q (.exit 6) ⟨(c0 :: c1 :: c2 :: c3 :: c4 :: c5 :: c6 :: c7 :: (.slice (some ⟨gf, 0, none⟩) 11 11) :: c9 :: c10 :: c11 :: (.slice (some ⟨gn, 0, none⟩) 11 11) :: c13 :: (.slice (some ⟨gp, 0, none⟩) 22 22) :: u15 :: u16 :: c17 :: c18 :: c19 :: c20 :: c21 :: c22 :: c23 :: c24 :: c25 :: c26 :: c27 :: c28 :: c29 :: c30 :: c31 :: c32 :: c33 :: c34 :: c35 :: c36 :: c37 :: c38 :: c39 :: c40 :: c41 :: c42 :: c43 :: c44 :: c45 :: c46 :: c47 :: c48 :: c49 :: c50 :: c51 :: c52 :: c53 :: c54 :: c55 :: c56 :: c57 :: c58 :: c59 :: c60 :: c61 :: c62 :: c63 :: c64 :: c65 :: c66 :: c67 :: c68 :: c69 :: c70 :: c71 :: c72 :: c73 :: c74 :: c75 :: c76 :: c77 :: c78 :: c79 :: c80 :: c81 :: c82 :: c83 :: c84 :: c85 :: c86 :: c87 :: c88 :: c89 :: u90 :: u91 :: u92 :: u93 :: u94 :: u95 :: u96 :: u97 :: u98 :: u99 :: u100 :: u101 :: u102 :: u103 :: u104 :: u105 :: u106 :: u107 :: u108 :: u109 :: u110 :: u111 :: u112 :: u113 :: u114 :: u115 :: u116 :: u117 :: u118 :: c119 :: c120 :: c121 :: c122 :: c123 :: c124 :: c125 :: c126 :: c127 :: c128 :: c129 :: c130 :: c131 :: c132 :: c133 :: c134 :: c135 :: c136 :: c137 :: c138 :: c139 :: c140 :: c141 :: c142 :: c143 :: c144 :: c145 :: c146 :: c147 :: c148 :: c149 :: c150 :: c151 :: c152 :: c153 :: c154 :: c155 :: c156 :: c157 :: c158 :: c159 :: c160 :: c161 :: c162 :: c163 :: c164 :: c165 :: c166 :: c167 :: c168 :: c169 :: c170 :: c171 :: c172 :: c173 :: c174 :: c175 :: c176 :: c177 :: c178 :: c179 :: c180 :: c181 :: c182 :: c183 :: c184 :: c185 :: c186 :: c187 :: c188 :: c189 :: c190 :: []).toArray, []⟩ ws) :
  Code.wp Tryz.prog (tgl 6) Q ⟨(c0 :: c1 :: c2 :: c3 :: c4 :: c5 :: c6 :: c7 :: (.slice (some ⟨gf, 0, none⟩) 11 11) :: c9 :: c10 :: c11 :: (.slice (some ⟨gn, 0, none⟩) 11 11) :: c13 :: (.slice (some ⟨gp, 0, none⟩) 22 22) :: (.int .i64 0) :: c16 :: c17 :: c18 :: c19 :: c20 :: c21 :: c22 :: c23 :: c24 :: c25 :: c26 :: c27 :: c28 :: c29 :: c30 :: c31 :: c32 :: c33 :: c34 :: c35 :: c36 :: c37 :: c38 :: c39 :: c40 :: c41 :: c42 :: c43 :: c44 :: c45 :: c46 :: c47 :: c48 :: c49 :: c50 :: c51 :: c52 :: c53 :: c54 :: c55 :: c56 :: c57 :: c58 :: c59 :: c60 :: c61 :: c62 :: c63 :: c64 :: c65 :: c66 :: c67 :: c68 :: c69 :: c70 :: c71 :: c72 :: c73 :: c74 :: c75 :: c76 :: c77 :: c78 :: c79 :: c80 :: c81 :: c82 :: c83 :: c84 :: c85 :: c86 :: c87 :: c88 :: c89 :: c90 :: c91 :: c92 :: c93 :: c94 :: c95 :: c96 :: c97 :: c98 :: c99 :: c100 :: c101 :: c102 :: c103 :: c104 :: c105 :: c106 :: c107 :: c108 :: c109 :: c110 :: c111 :: c112 :: c113 :: c114 :: c115 :: c116 :: c117 :: c118 :: c119 :: c120 :: c121 :: c122 :: c123 :: c124 :: c125 :: c126 :: c127 :: c128 :: c129 :: c130 :: c131 :: c132 :: c133 :: c134 :: c135 :: c136 :: c137 :: c138 :: c139 :: c140 :: c141 :: c142 :: c143 :: c144 :: c145 :: c146 :: c147 :: c148 :: c149 :: c150 :: c151 :: c152 :: c153 :: c154 :: c155 :: c156 :: c157 :: c158 :: c159 :: c160 :: c161 :: c162 :: c163 :: c164 :: c165 :: c166 :: c167 :: c168 :: c169 :: c170 :: c171 :: c172 :: c173 :: c174 :: c175 :: c176 :: c177 :: c178 :: c179 :: c180 :: c181 :: c182 :: c183 :: c184 :: c185 :: c186 :: c187 :: c188 :: c189 :: c190 :: []).toArray, []⟩ wq := by
 conv => arg 2; whnf
 go_loopw [15] (fun i wr => ∃ (n : Nat) (O : List Nat), n ≤ 11 ∧ i = .int .i64 (n : Int) ∧ MlAt A F n 0 O ∧ Blk wr gp 43 (vq O) ∧ wq.grownBy wr (some gp)) (fun i _ => 11 - (intOf i).toNat)
 case atStart => exact ⟨0, _, by omega, rfl, MlAt.zero _ _, HP.out, g1_refl _ _⟩
 case round =>
  rename World => wr
  obtain ⟨i, O, hi, rfl, hml, hat, hgr⟩ := hrel
  have ML := Li hml
  have AT := Li hat
  have GR := Li hgr
  clear hml hat hgr
  by_cases hlt : i < 11
  ·have p1 : (i : Int) < 11 := by omega
   have HA := Li (HNB.out i)
   have b1 := HNB.out i
   generalize ha : A.getD i 0 = a at *
   have HAA := Li ha
   clear ha
   go_wp2_with fail
   obtain ⟨wo, hwo⟩ : ∃ wo : World, wo = wr := ⟨_, rfl⟩
   rw [← hwo] at AT GR ⊢
   clear hwo
   go_loopw [16] (fun k ws => ∃ (n : Nat) (O : List Nat), n ≤ 11 ∧ k = .int .i64 (n : Int) ∧ MlAt A F i n O ∧ Blk ws gp 43 (vq O) ∧ wq.grownBy ws (some gp)) (fun k _ => 11 - (intOf k).toNat)
   case atStart => exact ⟨0, O, by omega, rfl, ML.out, AT.out, GR.out⟩
   case round =>
    rename World => ws
    obtain ⟨k, O', hk, rfl, hml, hat, hgr⟩ := hrel
    clear ML AT GR
    have ML := Li hml
    have AT := Li hat
    have GR := Li hgr
    clear hml hat hgr
    by_cases hlk : k < 11
    ·obtain ⟨m, hm⟩ : ∃ m, m = i + k := ⟨_, rfl⟩
     have p2 : (k : Int) < 11 := by omega
     have p3 : (m : Int) < 22 := by omega
     have g1 : (i : Int) + (k : Int) = (m : Int) := by omega
     have g2 : IntKind.i64.wrap (m : Int) = (m : Int) := IntWalk.i64_in _ (by omega)
     have hst := ML.out.step hlt hlk fl (by rw [HAA.out]; exact HA.out) (HFB.out k)
     rw [← hm, HAA.out] at hst
     have hob := ML.out.bnd m
     have d0 := (AT.out.cell m).trans (vq_at O' m (by rw [ML.out.len]; omega))
     have e0 := AT.out.free m
     have d1 := ((g1_blk GR.out HN.out hne2).cell i).trans (vq_at A i (by omega))
     rw [HAA.out] at d1
     have d2 := ((g1_blk GR.out HF.out hne).cell k).trans (vq_at F k (by omega))
     have HS := Li (show ∀ v : Nat, Blk (ws.setCell ⟨gp, m, none⟩ (.int .u64 (v : Int))).drew gp 43 (vq (O'.set m v)) ∧ wq.grownBy (ws.setCell ⟨gp, m, none⟩ (.int .u64 (v : Int))).drew (some gp) from fun v => ⟨by rw [← vq_set]; exact AT.out.set_ _ _, g1_drew (g1_set GR.out _ _)⟩)
     have hb2 := hst.2
     have HE := Li hst.1
     have hbb : (11 * i + k) * 134193153 ≤ 17179869184 := by
      have : 11 * i + k ≤ 120 := by omega
      exact Nat.le_trans (Nat.mul_le_mul_right _ this) (by decide)
     have f0 : IntKind.u64.wrap ((a : Int) * ((F.getD k 0 : Nat) : Int)) = ((a * F.getD k 0 : Nat) : Int) := by rw [← Int.natCast_mul, wrap_lt _ (by omega)]
     have f1 : IntKind.u64.wrap (((O'.getD m 0 : Nat) : Int) + ((a * F.getD k 0 : Nat) : Int)) = ((O'.getD m 0 + a * F.getD k 0 : Nat) : Int) := by rw [← Int.natCast_add, wrap_lt _ (by omega)]
     obtain ⟨v, hv⟩ : ∃ v, v = O'.getD m 0 + a * F.getD k 0 := ⟨_, rfl⟩
     rw [← hv] at f1 HE
     clear hv hst hob hbb hb2 hm
     generalize F.getD k 0 = f at *
     generalize O'.getD m 0 = o at *
     generalize a * f = af at *
     go_wp2_with fail
     go_still_tail 20, (by kernel_rfl)
     go_wp2_with fail
     exact ⟨⟨k + 1, _, by omega, by go_num, HE.out, HS.out v⟩, by simp only [intOf]; omega⟩
    ·obtain rfl : k = 11 := by omega
     have HRW := Li (ML.out.row (by omega) fl)
     go_wp2_with fail
     exact ⟨⟨i + 1, _, by omega, by go_num, HRW.out, AT.out, GR.out⟩, by simp only [intOf]; omega⟩
  ·obtain rfl : i = 11 := by omega
   go_wp2_with fail
   exact hexit _ _ _ _ _ _ _ _ _ _ _ _ _ _ _ _ _ _ _ _ _ _ _ _ _ _ _ _ _ _ _ _ _ ML.out AT.out GR.out
theorem V13_digit : ∀ (l : List Nat) (j : Nat), (∀ i, l.getD i 0 < 8192) → V13 l / 8192 ^ j % 8192 = l.getD j 0
 | [], j, _ => by simp [V13]
 | c :: l, 0, h => by
  have := h 0
  simp only [V13, List.getD_cons_zero, Nat.pow_zero, Nat.div_one] at *
  omega
 | c :: l, j + 1, h => by
  have h0 := h 0
  have ih := V13_digit l j (fun i => by have := h (i + 1); simpa using this)
  rw [V13, List.getD_cons_succ, ← ih, Nat.pow_succ', ← Nat.div_div_eq_div_mul]
  congr 2
  simp only [List.getD_cons_zero] at h0
  omega
theorem bit13 (x m : Nat) (hm : m < 13) : x % 8192 / 2 ^ m % 2 = x / 2 ^ m % 2 := by
 have : m = 0 ∨ m = 1 ∨ m = 2 ∨ m = 3 ∨ m = 4 ∨ m = 5 ∨ m = 6 ∨ m = 7 ∨ m = 8 ∨ m = 9 ∨ m = 10 ∨ m = 11 ∨ m = 12 := by omega
 rcases this with rfl | rfl | rfl | rfl | rfl | rfl | rfl | rfl | rfl | rfl | rfl | rfl | rfl <;> omega
theorem bit_of (L : List Nat) (h : ∀ i, L.getD i 0 < 8192) (a : Nat) : L.getD (a / 13) 0 / 2 ^ (a % 13) % 2 = V13 L / 2 ^ a % 2 := by
 rw [← V13_digit L (a / 13) h, bit13 _ _ (Nat.mod_lt _ (by decide)), pow13, Nat.div_div_eq_div_mul, ← Nat.pow_add, show 13 * (a / 13) + a % 13 = a by omega]
structure OtAt (S i : Nat) (O : List Nat) : Prop where
 len : O.length = 16
 at_ : ∀ j, j < i → O.getD j 0 = S / 256 ^ j % 256
theorem OtAt.step {S i v : Nat} {O : List Nat} (h : OtAt S i O) (hi : i < 16) (hv : v = S / 256 ^ i % 256) : OtAt S (i + 1) (O.set i v) :=
 ⟨by rw [List.length_set]; exact h.len, fun j hj => by
  rw [getD_set _ _ _ _ (by rw [h.len]; exact hi)]
  split
  ·subst_vars; rfl
  ·exact h.at_ j (by omega)⟩
theorem OtAt.all {S : Nat} {O : List Nat} (h : OtAt S 16 O) : O = form S 16 :=
 list_ext (by rw [h.len, form_len]) fun j hj => by rw [h.len] at hj; rw [h.at_ j hj, form_at 16 S j hj]
theorem key_at (k : List Nat) (hk : k.length = 32) (hl : ∀ c ∈ k, c < 256) (i : Nat) (hi : i < 16) : k.getD (16 + i) 0 = number (k.drop 16) / 256 ^ i % 256 := by
 have h := byte_of (k.drop 16) (fun c hc => hl c (List.mem_of_mem_drop hc)) i (by rw [List.length_drop, hk]; omega)
 rw [← h, jA, jA, List.getElem?_drop]
set_option maxRecDepth 1000000 in
theorem tloop10 (Q : Exit → Act → World → Prop) (wq : World) (kb gl go : Nat) (k L O0 : List Nat) (c0 c1 c3 c4 c5 c6 c7 c8 c10 c11 c12 c13 c14 c15 c16 c17 c21 c22 c23 c24 c25 c26 c27 c28 c29 c30 c31 c32 c33 c34 c35 c36 c37 c38 c39 c40 c41 c42 c43 c44 c45 c46 c47 c48 c49 c50 c51 c52 c53 c54 c55 c56 c57 c58 c59 c60 c61 c62 c63 c64 c65 c66 c67 c68 c69 c70 c71 c72 c73 c74 c75 c76 c77 c78 c79 c80 c81 c82 c83 c84 c85 c86 c87 c88 c89 c90 c91 c92 c93 c94 c95 c96 c97 c98 c99 c100 c101 c102 c103 c104 c105 c106 c107 c108 c109 c110 c111 c112 c113 c114 c115 c116 c117 c118 c119 c120 c121 c122 c123 c124 c125 c126 c127 c128 c129 c130 c131 c132 c133 c134 c135 c136 c137 c138 c139 c140 c141 c142 c143 c144 c145 c146 c147 c148 c149 c150 c151 c152 c153 c154 c155 c156 c157 c158 c159 c160 c161 c162 c163 c164 c165 c166 c167 c168 c169 c170 c171 c172 c173 c174 c175 c176 c177 c178 c179 c180 c181 c182 c183 c184 c185 c186 c187 c188 c189 c190 : Value)
  (hne : kb ≠ go) (hne2 : gl ≠ go) (HK : Hid (Blk wq kb 44 (vb k))) (HG : Hid (Blk wq gl 43 (vq L))) (HO : Hid (Blk wq go 117 (vb O0))) (hk : k.length = 32) (HKL : Hid (∀ c ∈ k, c < 256)) (hl : L.length = 10) (ol : O0.length = 16) (HLB : Hid (∀ j, L.getD j 0 < 8192))
  (hexit : ∀ (u19 u20 u21 u22 u23 u147 u148 u149 u150 u151 u152 u153 u154 u155 u156 u157 u158 u159 u160 u161 u162 u163 u164 u165 u166 u167 u168 u169 u170 u171 u172 u173 u174 u175 u176 u177 u178 u179 u180 u181 u182 u183 u184 u185 u186 u187 u188 u189 : Value) (ws : World), Blk ws go 117 (vb (form (V13 L + number (k.drop 16)) 16)) → wq.grownBy ws (some go) → Q (.exit 10) ⟨(c0 :: c1 :: (.pointer (some ⟨kb, 0, none⟩)) :: c3 :: c4 :: c5 :: c6 :: c7 :: c8 :: (.slice (some ⟨gl, 0, none⟩) 10 10) :: c10 :: c11 :: c12 :: c13 :: c14 :: c15 :: c16 :: c17 :: (.pointer (some ⟨go, 0, none⟩)) :: u19 :: u20 :: u21 :: u22 :: u23 :: c24 :: c25 :: c26 :: c27 :: c28 :: c29 :: c30 :: c31 :: c32 :: c33 :: c34 :: c35 :: c36 :: c37 :: c38 :: c39 :: c40 :: c41 :: c42 :: c43 :: c44 :: c45 :: c46 :: c47 :: c48 :: c49 :: c50 :: c51 :: c52 :: c53 :: c54 :: c55 :: c56 :: c57 :: c58 :: c59 :: c60 :: c61 :: c62 :: c63 :: c64 :: c65 :: c66 :: c67 :: c68 :: c69 :: c70 :: c71 :: c72 :: c73 :: c74 :: c75 :: c76 :: c77 :: c78 :: c79 :: c80 :: c81 :: c82 :: c83 :: c84 :: c85 :: c86 :: c87 :: c88 :: c89 :: c90 :: c91 :: c92 :: c93 :: c94 :: c95 :: c96 :: c97 :: c98 :: c99 :: c100 :: c101 :: c102 :: c103 :: c104 :: c105 :: c106 :: c107 :: c108 :: c109 :: c110 :: c111 :: c112 :: c113 :: c114 :: c115 :: c116 :: c117 :: c118 :: c119 :: c120 :: c121 :: c122 :: c123 :: c124 :: c125 :: c126 :: c127 :: c128 :: c129 :: c130 :: c131 :: c132 :: c133 :: c134 :: c135 :: c136 :: c137 :: c138 :: c139 :: c140 :: c141 :: c142 :: c143 :: c144 :: c145 :: c146 :: u147 :: u148 :: u149 :: u150 :: u151 :: u152 :: u153 :: u154 :: u155 :: u156 :: u157 :: u158 :: u159 :: u160 :: u161 :: u162 :: u163 :: u164 :: u165 :: u166 :: u167 :: u168 :: u169 :: u170 :: u171 :: u172 :: u173 :: u174 :: u175 :: u176 :: u177 :: u178 :: u179 :: u180 :: u181 :: u182 :: u183 :: u184 :: u185 :: u186 :: u187 :: u188 :: u189 :: c190 :: []).toArray, []⟩ ws) :
  Code.wp Tryz.prog (tgl 10) Q ⟨(c0 :: c1 :: (.pointer (some ⟨kb, 0, none⟩)) :: c3 :: c4 :: c5 :: c6 :: c7 :: c8 :: (.slice (some ⟨gl, 0, none⟩) 10 10) :: c10 :: c11 :: c12 :: c13 :: c14 :: c15 :: c16 :: c17 :: (.pointer (some ⟨go, 0, none⟩)) :: (.int .u64 0) :: (.int .i64 0) :: c21 :: c22 :: c23 :: c24 :: c25 :: c26 :: c27 :: c28 :: c29 :: c30 :: c31 :: c32 :: c33 :: c34 :: c35 :: c36 :: c37 :: c38 :: c39 :: c40 :: c41 :: c42 :: c43 :: c44 :: c45 :: c46 :: c47 :: c48 :: c49 :: c50 :: c51 :: c52 :: c53 :: c54 :: c55 :: c56 :: c57 :: c58 :: c59 :: c60 :: c61 :: c62 :: c63 :: c64 :: c65 :: c66 :: c67 :: c68 :: c69 :: c70 :: c71 :: c72 :: c73 :: c74 :: c75 :: c76 :: c77 :: c78 :: c79 :: c80 :: c81 :: c82 :: c83 :: c84 :: c85 :: c86 :: c87 :: c88 :: c89 :: c90 :: c91 :: c92 :: c93 :: c94 :: c95 :: c96 :: c97 :: c98 :: c99 :: c100 :: c101 :: c102 :: c103 :: c104 :: c105 :: c106 :: c107 :: c108 :: c109 :: c110 :: c111 :: c112 :: c113 :: c114 :: c115 :: c116 :: c117 :: c118 :: c119 :: c120 :: c121 :: c122 :: c123 :: c124 :: c125 :: c126 :: c127 :: c128 :: c129 :: c130 :: c131 :: c132 :: c133 :: c134 :: c135 :: c136 :: c137 :: c138 :: c139 :: c140 :: c141 :: c142 :: c143 :: c144 :: c145 :: c146 :: c147 :: c148 :: c149 :: c150 :: c151 :: c152 :: c153 :: c154 :: c155 :: c156 :: c157 :: c158 :: c159 :: c160 :: c161 :: c162 :: c163 :: c164 :: c165 :: c166 :: c167 :: c168 :: c169 :: c170 :: c171 :: c172 :: c173 :: c174 :: c175 :: c176 :: c177 :: c178 :: c179 :: c180 :: c181 :: c182 :: c183 :: c184 :: c185 :: c186 :: c187 :: c188 :: c189 :: c190 :: []).toArray, []⟩ wq := by
 conv => arg 2; whnf
 obtain ⟨V, hV⟩ : ∃ V, V = V13 L := ⟨_, rfl⟩
 obtain ⟨K, hK⟩ : ∃ K, K = number (k.drop 16) := ⟨_, rfl⟩
 rw [← hV, ← hK] at hexit
 have HKA := Li (fun i hi => key_at k hk HKL.out i hi)
 rw [← hK] at HKA
 have HBO := Li (fun a => bit_of L HLB.out a)
 rw [← hV] at HBO
 clear hV hK
 go_loopw [19, 20] (fun c i wr => ∃ (n cc : Nat) (O : List Nat), n ≤ 16 ∧ i = .int .i64 (n : Int) ∧ c = .int .u64 (cc : Int) ∧ cc = pcy V K n ∧ OtAt (V + K) n O ∧ Blk wr go 117 (vb O) ∧ wq.grownBy wr (some go)) (fun _ i _ => 16 - (intOf i).toNat)
 case atStart => exact ⟨0, 0, O0, by omega, rfl, rfl, rfl, ⟨ol, fun j hj => by omega⟩, HO.out, g1_refl _ _⟩
 case round =>
  rename World => wr
  obtain ⟨i, cc, O, hi, rfl, rfl, hcc, hot, hat, hgr⟩ := hrel
  have HCC := Li hcc
  have OT := Li hot
  have AT := Li hat
  have GR := Li hgr
  have hc1 := pcy_le V K i
  rw [← hcc] at hc1
  clear hcc hot hat hgr
  by_cases hlt : i < 16
  ·have p1 : (i : Int) < 16 := by omega
   go_wp2_with fail
   obtain ⟨wo, hwo⟩ : ∃ wo : World, wo = wr := ⟨_, rfl⟩
   rw [← hwo] at AT GR ⊢
   clear hwo
   go_loopw [21, 22] (fun n k ws => ∃ (x t q : Nat), x ≤ 8 ∧ k = .int .i64 (x : Int) ∧ n = .int .u64 (t : Int) ∧ t = V / 256 ^ i % 2 ^ x ∧ ws = wo.drewN q) (fun _ k _ => 8 - (intOf k).toNat)
   case atStart => exact ⟨0, 0, 0, by omega, rfl, rfl, by rw [Nat.pow_zero, Nat.mod_one], rfl⟩
   case round =>
    rename World => wx
    obtain ⟨x, t, q, hx, rfl, rfl, ht, hwx⟩ := hrel
    have HWX := Li hwx
    clear hwx
    have ht8 : t < 2 ^ x := by rw [ht]; exact Nat.mod_lt _ (Nat.two_pow_pos _)
    have HTT := Li ht
    clear ht
    by_cases hlx : x < 8
    ·obtain ⟨a, ha⟩ : ∃ a, a = 8 * i + x := ⟨_, rfl⟩
     obtain ⟨d, hd⟩ : ∃ d, d = a / 13 := ⟨_, rfl⟩
     obtain ⟨m, hm⟩ : ∃ m, m = a % 13 := ⟨_, rfl⟩
     have p2 : (x : Int) < 8 := by omega
     have ea : 8 * (i : Int) + (x : Int) = (a : Int) := by omega
     have g1 : IntKind.i64.wrap ((a : Int) / 13) = (d : Int) := by rw [IntWalk.i64_in _ (by omega)]; omega
     have g2 : (a : Int).tmod 13 = (m : Int) := by rw [Int.tmod_eq_emod_of_nonneg (by omega)]; omega
     have hd2 : (d : Int) < 10 := by omega
     have hm64 : (m : Int) < 64 := by omega
     have h3 := shl1 m (by omega)
     have h4 := shl1 x (by omega)
     obtain ⟨sm, hsm⟩ : ∃ s, s = 2 ^ m := ⟨_, rfl⟩
     obtain ⟨sx, hsx⟩ : ∃ s, s = 2 ^ x := ⟨_, rfl⟩
     rw [← hsm] at h3
     rw [← hsx] at h4 ht8
     have d0 := ((g1_blk GR.out HG.out hne2).cell d).trans (vq_at L d (by omega))
     have hld := HLB.out d
     obtain ⟨b, hb⟩ : ∃ b, b = L.getD d 0 / sm % 2 := ⟨_, rfl⟩
     have hb2 : b ≤ 1 := by omega
     have hsm0 : 0 < sm := by rw [hsm]; exact Nat.two_pow_pos _
     have hsx8 : sx ≤ 128 := by rw [hsx]; exact Nat.pow_le_pow_right (show 0 < 2 by decide) (show x ≤ 7 by omega)
     have HB := Li (show b = V / 256 ^ i / 2 ^ x % 2 by
      rw [hb, hsm, hm, hd, HBO.out a, ha, Nat.pow_add, Nat.pow_mul, ← Nat.div_div_eq_div_mul])
     have f3 : IntKind.u64.wrap (((L.getD d 0 : Nat) : Int) / (sm : Int)) = ((L.getD d 0 / sm : Nat) : Int) := by rw [ediv_nat, wrap_lt _ (Nat.lt_of_le_of_lt (Nat.div_le_self _ _) (by omega))]
     have f4 : (((L.getD d 0 / sm : Nat) : Int)).tmod 2 = (b : Int) := by rw [tmod2, ← hb]
     have hbs : b * sx ≤ 128 := Nat.le_trans (Nat.mul_le_mul hb2 hsx8) (by decide)
     have f5 : IntKind.u64.wrap ((b : Int) * (sx : Int)) = ((b * sx : Nat) : Int) := by rw [← Int.natCast_mul, wrap_lt _ (by omega)]
     have f6 : IntKind.u64.wrap ((t : Int) + ((b * sx : Nat) : Int)) = ((t + b * sx : Nat) : Int) := by rw [← Int.natCast_add, wrap_lt _ (by omega)]
     have HT2 := Li (show t + b * sx = V / 256 ^ i % 2 ^ (x + 1) by rw [mod_bit, ← HTT.out, ← HB.out, ← hsx, Nat.mul_comm])
     obtain ⟨t2, ht2⟩ : ∃ t2, t2 = t + b * sx := ⟨_, rfl⟩
     rw [← ht2] at f6 HT2
     have hsz : ¬ (sm : Int) = 0 := by omega
     have hsb : ((sm : Int) == 0) = false := by simpa using hsz
     have d1 : wx.cell? ⟨gl, d, none⟩ = some (.int .u64 (L.getD d 0 : Nat)) := by rw [HWX.out]; exact d0
     clear ht2 hd hm ha hsm hsx hb hbs d0
     generalize b * sx = bs at *
     generalize L.getD d 0 / sm = e at *
     generalize L.getD d 0 = ld at *
     go_wp2_with fail
     go_quiet (fail)
     go_wp2_with fail
     exact ⟨⟨x + 1, t2, _, by omega, by go_num, rfl, HT2.out, by rw [HWX.out]; exact World.drewN_drewN ..⟩, by simp only [intOf]; omega⟩
    ·obtain rfl : x = 8 := by omega
     have hkb := HKA.out i hlt
     have d0 := ((g1_blk GR.out HK.out hne).cell (16 + i)).trans (vb_at k (16 + i) (by omega))
     have d1 := (AT.out.cell i).trans (vb_at O i (by rw [OT.out.len]; exact hlt))
     have e1 := AT.out.free i
     have hkl := getD_lt HKL.out (16 + i)
     obtain ⟨y, hy⟩ : ∃ y, y = 16 + i := ⟨_, rfl⟩
     have ey : 16 + (i : Int) = (y : Int) := by omega
     have hy32 : (y : Int) < 32 := by omega
     rw [← hy] at d0 hkl hkb
     have ht2 : t < 256 := ht8
     have f1 : IntKind.u64.wrap ((cc : Int) + (t : Int)) = ((cc + t : Nat) : Int) := by rw [← Int.natCast_add, wrap_lt _ (by omega)]
     have f2 := wrap_lt (k.getD y 0) (by omega)
     have f3 : IntKind.u64.wrap (((cc + t : Nat) : Int) + ((k.getD y 0 : Nat) : Int)) = ((cc + t + k.getD y 0 : Nat) : Int) := by rw [← Int.natCast_add, wrap_lt _ (by omega)]
     obtain ⟨z, hz⟩ : ∃ z, z = cc + t + k.getD y 0 := ⟨_, rfl⟩
     have hzb : z < 600 := by omega
     have HZ := Li (show z = pcy V K i + V / 256 ^ i % 256 + K / 256 ^ i % 256 by rw [hz, hkb, HCC.out, HTT.out])
     rw [← hz] at f3
     obtain ⟨v, hv⟩ : ∃ v, v = z % 256 := ⟨_, rfl⟩
     obtain ⟨c2, hc2⟩ : ∃ c2, c2 = z / 256 := ⟨_, rfl⟩
     have HO2 := Li (OT.out.step hlt (show v = (V + K) / 256 ^ i % 256 by rw [hv, HZ.out]; exact pcy_byte V K i))
     have HC2 := Li (show c2 = pcy V K (i + 1) by rw [hc2, HZ.out]; rfl)
     have f4 : (z : Int) % 256 = (v : Int) := by omega
     have f5 : (z : Int) / 256 = (c2 : Int) := by omega
     have f6 : (v : Int) % 256 = (v : Int) := by omega
     have HS := Li (show ∀ q, Blk ((wo.drewN q).setCell ⟨go, i, none⟩ (.int .u8 (v : Int))) go 117 (vb (O.set i v)) ∧ wq.grownBy ((wo.drewN q).setCell ⟨go, i, none⟩ (.int .u8 (v : Int))) (some go) from fun q => ⟨by rw [← vb_set]; exact Blk.set_ (show Blk (wo.drewN q) _ _ _ from AT.out) _ _, g1_set (show wq.grownBy (wo.drewN q) (some go) from ⟨GR.out.os, GR.out.tape, GR.out.output, GR.out.size, GR.out.block⟩) _ _⟩)
     have d2 : wx.cell? ⟨kb, y, none⟩ = some (.int .u8 (k.getD y 0 : Nat)) := by rw [HWX.out]; exact d0
     have d3 : wx.cell? ⟨go, i, none⟩ = some (.int .u8 (O.getD i 0 : Nat)) := by rw [HWX.out]; exact d1
     have e3 : wx.frozen? ⟨go, i, none⟩ = false := by rw [HWX.out]; exact e1
     have HSQ := Li (HS.out q)
     rw [← HWX.out] at HSQ
     clear hz hv hc2 hy d0 d1 e1 hkb hc1 HS
     generalize k.getD y 0 = ky at *
     generalize O.getD i 0 = oi at *
     generalize cc + t = ct at *
     go_wp2_with fail
     exact ⟨⟨i + 1, c2, _, by omega, by go_num, rfl, HC2.out, HO2.out, HSQ.out⟩, by simp only [intOf]; omega⟩
  ·obtain rfl : i = 16 := by omega
   go_wp2_with fail
   have h2 := AT.out
   rw [OT.out.all] at h2
   exact hexit _ _ _ _ _ _ _ _ _ _ _ _ _ _ _ _ _ _ _ _ _ _ _ _ _ _ _ _ _ _ _ _ _ _ _ _ _ _ _ _ _ _ _ _ _ _ _ _ _ h2 GR.out
theorem addr_add (a : Addr) (i j : Nat) : (a.add i).add j = a.add (i + j) := by
 unfold Addr.add
 split
 ·subst_vars; rw [Nat.add_zero]
 ·split
  ·subst_vars; rw [if_neg (by omega), Nat.zero_add]
  ·rw [if_neg (by omega)]; simp; omega
theorem Rd.sub {w : World} {B : Nat} {ad : Addr} {l : List Nat} (h : Rd w B (some ad) (byt l)) (i n : Nat) : Rd w B (some (ad.add i)) (byt ((l.drop i).take n)) := fun hn => by
 obtain ⟨ad', e, hb, hc⟩ := h (fun h0 => hn (by
  have : l = [] := by cases l with
   | nil => rfl
   | cons c l => simp [byt] at h0
  rw [this]; simp [byt]))
 injection e with e
 subst e
 refine ⟨_, rfl, by rw [add_block]; exact hb, fun j u hu => ?_⟩
 rw [addr_add]
 refine hc _ u ?_
 unfold byt at *
 rw [List.map_take, List.map_drop, List.getElem?_take] at hu
 split at hu
 ·rw [List.getElem?_drop] at hu; exact hu
 ·cases hu
structure HsAt (r : Nat) (m : List Nat) (q : Nat) (L : List Nat) : Prop where
 len : L.length = 10
 lt : ∀ j, L.getD j 0 < 8192
 val : V13 L % P130 = polA r m q
theorem pow20 : 8192 ^ 20 = P130 * (P130 + 10) + 25 := by decide +kernel
theorem V13_22 (P : List Nat) (h : P.length = 22) : V13 P = V13 (P.take 20) + 8192 ^ 20 * (P.getD 20 0 + 8192 * P.getD 21 0) := by
 have e : P = P.take 22 := by rw [List.take_of_length_le (by omega)]
 have h1 := V13_take P 21 (by omega)
 have h2 := V13_take P 20 (by omega)
 rw [← e] at h1
 rw [h1, h2, Nat.mul_add, Nat.add_assoc]
 congr 2
 rw [show (8192 : Nat) ^ 21 = 8192 ^ 20 * 8192 from Nat.pow_succ .., Nat.mul_assoc]
theorem bl_of (m : List Nat) (q n : Nat) (hn : n = min (16 * q + 16) m.length) : ((m.drop (16 * q)).take 16).length = n - 16 * q := by
 rw [List.length_take, List.length_drop]; omega
theorem round_val (r q : Nat) (m H A P L2 L3 : List Nat) (q1 q2 : Nat) (hH : V13 H % P130 = polA r m q) (hA : V13 A = blkV ((m.drop (16 * q)).take 16) + V13 H) (hP : V13 P = V13 A * r) (hp : P.length = 22)
  (h1 : V13 (P.take 20) = V13 L2 + P130 * q1) (h2 : V13 L2 + 25 * P.getD 20 0 + 8192 * (25 * P.getD 21 0) = V13 L3 + P130 * q2) : V13 L3 % P130 = polA r m (q + 1) := by
 have e1 := V13_22 P hp
 rw [pow20, Nat.add_mul, Nat.mul_assoc] at e1
 have e2 : V13 P = V13 L3 + P130 * (q2 + q1 + (P130 + 10) * (P.getD 20 0 + 8192 * P.getD 21 0)) := by
  rw [Nat.mul_add, Nat.mul_add]
  omega
 have e3 : V13 P % P130 = V13 L3 % P130 := by rw [e2, Nat.add_mul_mod_self_left]
 rw [← e3, hP, hA, polA, ← hH, Nat.mul_mod, Nat.mul_mod (V13 H % P130 + _), Nat.mod_add_mod, Nat.add_comm (blkV _)]
set_option maxRecDepth 1000000 in
theorem tloop2 (Q : Exit → Act → World → Prop) (wq : World) (gf gh ca : Nat) (A : Option Addr) (m F H0 : List Nat) (c0 c2 c3 c4 c5 c6 c7 c11 c12 c13 c14 c15 c16 c17 c18 c19 c20 c21 c22 c23 c24 c25 c26 c27 c28 c29 c30 c31 c32 c33 c34 c35 c36 c37 c38 c39 c40 c41 c42 c43 c44 c45 c46 c47 c48 c49 c50 c51 c52 c53 c54 c55 c56 c57 c58 c59 c60 c61 c62 c63 c64 c65 c66 c67 c68 c69 c70 c71 c72 c73 c74 c75 c76 c77 c78 c79 c80 c81 c82 c83 c84 c85 c86 c87 c88 c89 c90 c91 c92 c93 c94 c95 c96 c97 c98 c99 c100 c101 c102 c103 c104 c105 c106 c107 c108 c109 c110 c111 c112 c113 c114 c115 c116 c117 c118 c119 c120 c121 c122 c123 c124 c125 c126 c127 c128 c129 c130 c131 c132 c133 c134 c135 c136 c137 c138 c139 c140 c141 c142 c143 c144 c145 c146 c147 c148 c149 c150 c151 c152 c153 c154 c155 c156 c157 c158 c159 c160 c161 c162 c163 c164 c165 c166 c167 c168 c169 c170 c171 c172 c173 c174 c175 c176 c177 c178 c179 c180 c181 c182 c183 c184 c185 c186 c187 c188 c189 c190 : Value)
  (HM : Hid (Rd wq wq.heap.size A (byt m))) (HF : Hid (Blk wq gf 43 (vq F))) (HH : Hid (Blk wq gh 43 (vq H0))) (fl : F.length = 11) (HFB : Hid (∀ j, F.getD j 0 ≤ 8191)) (HS0 : Hid (HsAt (V13 F) m 0 H0)) (HML : Hid (∀ c ∈ m, c < 256)) (hml : m.length ≤ 10000) (hca : m.length ≤ ca) (hca2 : ca ≤ maxLen)
  (hexit : ∀ (u10 u11 u12 u13 u14 u15 u16 u17 u53 u54 u55 u56 u57 u58 u59 u60 u61 u62 u63 u64 u65 u66 u67 u68 u69 u70 u71 u72 u73 u74 u75 u76 u77 u78 u79 u80 u81 u82 u83 u84 u85 u86 u87 u88 u89 u90 u91 u92 u93 u94 u95 u96 u97 u98 u99 u100 u101 u102 u103 u104 u105 u106 u107 u108 u109 u110 u111 u112 u113 u114 u115 u116 u117 u118 u119 u120 u121 u122 u123 u124 u125 u126 u127 u128 u129 u130 u131 u132 u133 u134 u135 u136 u137 u138 u139 u140 u141 u142 u143 : Value) (gl : Nat) (L : List Nat) (ws : World), HsAt (V13 F) m ((m.length + 15) / 16) L → Blk ws gl 43 (vq L) → Below wq.heap.size wq ws → Q (.exit 2) ⟨(c0 :: (.slice A m.length ca) :: c2 :: c3 :: c4 :: c5 :: c6 :: c7 :: (.slice (some ⟨gf, 0, none⟩) 11 11) :: (.slice (some ⟨gl, 0, none⟩) 10 10) :: u10 :: u11 :: u12 :: u13 :: u14 :: u15 :: u16 :: u17 :: c18 :: c19 :: c20 :: c21 :: c22 :: c23 :: c24 :: c25 :: c26 :: c27 :: c28 :: c29 :: c30 :: c31 :: c32 :: c33 :: c34 :: c35 :: c36 :: c37 :: c38 :: c39 :: c40 :: c41 :: c42 :: c43 :: c44 :: c45 :: c46 :: c47 :: c48 :: c49 :: c50 :: c51 :: c52 :: u53 :: u54 :: u55 :: u56 :: u57 :: u58 :: u59 :: u60 :: u61 :: u62 :: u63 :: u64 :: u65 :: u66 :: u67 :: u68 :: u69 :: u70 :: u71 :: u72 :: u73 :: u74 :: u75 :: u76 :: u77 :: u78 :: u79 :: u80 :: u81 :: u82 :: u83 :: u84 :: u85 :: u86 :: u87 :: u88 :: u89 :: u90 :: u91 :: u92 :: u93 :: u94 :: u95 :: u96 :: u97 :: u98 :: u99 :: u100 :: u101 :: u102 :: u103 :: u104 :: u105 :: u106 :: u107 :: u108 :: u109 :: u110 :: u111 :: u112 :: u113 :: u114 :: u115 :: u116 :: u117 :: u118 :: u119 :: u120 :: u121 :: u122 :: u123 :: u124 :: u125 :: u126 :: u127 :: u128 :: u129 :: u130 :: u131 :: u132 :: u133 :: u134 :: u135 :: u136 :: u137 :: u138 :: u139 :: u140 :: u141 :: u142 :: u143 :: c144 :: c145 :: c146 :: c147 :: c148 :: c149 :: c150 :: c151 :: c152 :: c153 :: c154 :: c155 :: c156 :: c157 :: c158 :: c159 :: c160 :: c161 :: c162 :: c163 :: c164 :: c165 :: c166 :: c167 :: c168 :: c169 :: c170 :: c171 :: c172 :: c173 :: c174 :: c175 :: c176 :: c177 :: c178 :: c179 :: c180 :: c181 :: c182 :: c183 :: c184 :: c185 :: c186 :: c187 :: c188 :: c189 :: c190 :: []).toArray, []⟩ ws) :
  Code.wp Tryz.prog (tgl 2) Q ⟨(c0 :: (.slice A m.length ca) :: c2 :: c3 :: c4 :: c5 :: c6 :: c7 :: (.slice (some ⟨gf, 0, none⟩) 11 11) :: (.slice (some ⟨gh, 0, none⟩) 10 10) :: (.int .i64 0) :: c11 :: c12 :: c13 :: c14 :: c15 :: c16 :: c17 :: c18 :: c19 :: c20 :: c21 :: c22 :: c23 :: c24 :: c25 :: c26 :: c27 :: c28 :: c29 :: c30 :: c31 :: c32 :: c33 :: c34 :: c35 :: c36 :: c37 :: c38 :: c39 :: c40 :: c41 :: c42 :: c43 :: c44 :: c45 :: c46 :: c47 :: c48 :: c49 :: c50 :: c51 :: c52 :: c53 :: c54 :: c55 :: c56 :: c57 :: c58 :: c59 :: c60 :: c61 :: c62 :: c63 :: c64 :: c65 :: c66 :: c67 :: c68 :: c69 :: c70 :: c71 :: c72 :: c73 :: c74 :: c75 :: c76 :: c77 :: c78 :: c79 :: c80 :: c81 :: c82 :: c83 :: c84 :: c85 :: c86 :: c87 :: c88 :: c89 :: c90 :: c91 :: c92 :: c93 :: c94 :: c95 :: c96 :: c97 :: c98 :: c99 :: c100 :: c101 :: c102 :: c103 :: c104 :: c105 :: c106 :: c107 :: c108 :: c109 :: c110 :: c111 :: c112 :: c113 :: c114 :: c115 :: c116 :: c117 :: c118 :: c119 :: c120 :: c121 :: c122 :: c123 :: c124 :: c125 :: c126 :: c127 :: c128 :: c129 :: c130 :: c131 :: c132 :: c133 :: c134 :: c135 :: c136 :: c137 :: c138 :: c139 :: c140 :: c141 :: c142 :: c143 :: c144 :: c145 :: c146 :: c147 :: c148 :: c149 :: c150 :: c151 :: c152 :: c153 :: c154 :: c155 :: c156 :: c157 :: c158 :: c159 :: c160 :: c161 :: c162 :: c163 :: c164 :: c165 :: c166 :: c167 :: c168 :: c169 :: c170 :: c171 :: c172 :: c173 :: c174 :: c175 :: c176 :: c177 :: c178 :: c179 :: c180 :: c181 :: c182 :: c183 :: c184 :: c185 :: c186 :: c187 :: c188 :: c189 :: c190 :: []).toArray, []⟩ wq := by
 conv => arg 2; whnf
 obtain ⟨i0, hi, hz0, hz1, hz2⟩ := info_parts byteInfo
 unfold maxLen at hca2
 go_loopw [9, 10] (fun h i wr => ∃ (q : Nat) (g : Nat) (L : List Nat), 16 * q < m.length + 16 ∧ i = .int .i64 ((16 * q : Nat) : Int) ∧ h = .slice (some ⟨g, 0, none⟩) 10 10 ∧ HsAt (V13 F) m q L ∧ Blk wr g 43 (vq L) ∧ Below wq.heap.size wq wr) (fun _ i _ => m.length + 16 - (intOf i).toNat)
 case atStart => exact ⟨0, gh, H0, by omega, rfl, rfl, HS0.out, HH.out, jE _ _⟩
 case round =>
  rename World => wr
  obtain ⟨q, g, H, hq, rfl, rfl, hhs, hat, hbel⟩ := hrel
  have HS := Li hhs
  have AT := Li hat
  have BL := Li hbel
  clear hhs hat hbel HH HS0
  by_cases hlt : 16 * q < m.length
  ·obtain ⟨i, hi16⟩ : ∃ i, i = 16 * q := ⟨_, rfl⟩
   rw [← hi16]
   have HI := Li hi16
   obtain ⟨ad, rfl, hab, hca0⟩ := (HM.out.below BL.out).byte hlt
   obtain ⟨n, hn⟩ : ∃ n, n = min (16 * q + 16) m.length := ⟨_, rfl⟩
   have hbl := bl_of m q n hn
   have p1 : (i : Int) < (m.length : Int) := by omega
   have p2 : (i : Int) ≤ (ca : Int) := by omega
   clear hca0
   obtain ⟨bl, hblk⟩ : ∃ bl, bl = (m.drop (16 * q)).take 16 := ⟨_, rfl⟩
   rw [← hblk, ← hi16] at hbl
   have HRS := Li (show ∀ W, Below wq.heap.size wq W → Rd W wq.heap.size (some (ad.add i)) (byt bl) from fun W hW => by rw [hblk, hi16]; exact (HM.out.below hW).sub (16 * q) 16)
   have HBC := Li (show ∀ c ∈ bl, c < 256 from fun c hc => HML.out c (by rw [hblk] at hc; exact List.mem_of_mem_drop (List.mem_of_mem_take hc)))
   have HBK := Li hblk
   have hb16 : bl.length ≤ 16 := by omega
   obtain ⟨b1, hb1⟩ : ∃ b1, b1 = bl ++ [1] := ⟨_, rfl⟩
   have hb17 : b1.length ≤ 17 := by rw [hb1, jC, List.length_singleton]; omega
   have HNB := Li (show number b1 = blkV bl by rw [hb1, number_append, blkV]; simp [number])
   have HB1 := Li hb1
   have HNL := Li (show ∀ c ∈ b1, c < 256 from fun c hc => by
    rw [hb1] at hc
    rcases List.mem_append.1 hc with h | h
    ·exact HBC.out c h
    ·rw [List.mem_singleton.1 h]; decide)
   have HN143 := Li (show number b1 < 2 ^ 143 from jH (number_lt _ HNL.out) (by
    rw [show (256 : Nat) = 2 ^ 8 from rfl, ← Nat.pow_mul]
    exact Nat.pow_le_pow_right (by decide) (by omega)))
   have HDG := Li (fun (W : World) (A6 : Option Addr) (c6 : Nat) (h : Rd W W.heap.size A6 (byt b1)) => digits_c W.heap.size A6 c6 b1 W h (jD _) HNL.out hb17 HN143.out)
   have HEV := Li (fun (W : World) (gp : Nat) (P : List Nat) (h : Blk W gp 43 (vq P)) (hl : P.length = 22) (hb : ∀ j, P.getD j 0 ≤ 1125899906842624) => by
    have h1 := even_c (gp + 1) (some ⟨gp, 0, none⟩) 22 (P.take 20) W (rd_blk h (q64 (P.take 20)) 20 (by simp [vq, q64, List.map_take])) h.lt (by rw [List.length_take]; omega) (by rw [List.length_take]; omega) (fun j => by
     rcases Nat.lt_or_ge j 20 with h3 | h3
     ·rw [jA, List.getElem?_take_of_lt h3, ← jA]; exact hb j
     ·rw [jA, List.getElem?_eq_none (by rw [List.length_take]; omega)]; exact Nat.zero_le _)
    rw [show (P.take 20).length = 20 by rw [List.length_take]; omega] at h1
    exact h1)
   have HEW := Li (fun (W : World) (gp : Nat) (P : List Nat) (h : Blk W gp 43 (vq P)) (hl : P.length = 10) (hb : ∀ j, P.getD j 0 ≤ 1125899906842624) => by
    have h1 := even_c (gp + 1) (some ⟨gp, 0, none⟩) 10 P W (rd_blk h (q64 P) 10 (by simp [vq]; rw [List.take_of_length_le (by rw [q64_len]; omega)])) h.lt (by omega) (by omega) hb
    rw [hl] at h1
    exact h1)
   clear hblk hi16 hlt hb1
   by_cases h16 : m.length < 16 * q + 16
   ·have hbl2 : m.length - i = bl.length := by have := HI.out; omega
    have t1 : (m.length : Int) < (i : Int) + 16 := by have := HI.out; omega
    clear h16 hbl hn
    go_upto_region 18 with (first
     | (at_builtin; refine wpList_app _ rfl (.tmp 59) (.tmp 67) _ rfl wr.heap.size 5 i0 (.int .u8 0) 1 1 Tryz.underlying23 hi hz0 hz1 hz2 rfl (by decide) _ 0 [] rfl (by exact OwnB.new wr wr.heap.size [] (jD _) (by decide)) wq.heap.size (some (ad.add i)) bl.length (ca - i) (byt bl) rfl (by simp [byt_len]) (HRS.out _ (BL.out.alloc BL.out.size _)) (byt_one _) (by omega) (by omega) (by simp) ?_; intro v5 w5 hap; have HO5 := Li (show OwnB w5 wr.heap.size v5 bl from by have h1 := OwnB.app (l := []) (show Apped _ _ _ _ _ _ _ (([] : List Nat).length + bl.length) (byt [] ++ byt bl) from hap); exact h1); have HB5 := Li (((jE wr.heap.size wr).alloc (jD _) _).trans (hap.below (OwnB.new wr wr.heap.size [] (jD _) (by decide)) (by simp))); clear hap)
     | (at_builtin; refine wpList_app _ rfl (.tmp 69) (.tmp 70) _ rfl wr.heap.size 5 i0 (.int .u8 0) 1 1 Tryz.underlying23 hi hz0 hz1 hz2 rfl (by decide) v5 bl.length (byt bl) rfl (HO5.out.alloc _) _ _ 1 1 [.int .u8 (1 : Nat)] rfl rfl (by exact rd_one _ _ _) (byt_one [1]) (by omega) (by omega) (by have := HB5.out.size; simp; omega) ?_; intro v6 w6 hap; have ho6 := OwnB.snoc hap; rw [← HB1.out] at ho6; have HB6 := Li ((HB5.out.alloc HB5.out.size _).trans (hap.below (HO5.out.alloc _) (by have := HB5.out.size; simp; omega))); clear hap; obtain ⟨A6, c6, rfl, _, _, hr6⟩ := ho6.rd; have HR6 := Li hr6; clear hr6 ho6)
     | (go_at_call 76; (refine (HDG.out w6 A6 c6 HR6.out).mono ?_); rintro e w7 ⟨rfl, hb7, N0, nl, nb, nv, na⟩; have HB7 := Li (HB6.out.trans (hb7.mono HB6.out.size)); have NB := Li nb; have NV := Li (nv.trans HNB.out); have NA := Li na; clear hb7 nb nv na))
    have hgn : wr.heap.size ≤ w6.heap.size := HB6.out.size
    generalize w6.heap.size = gn at *
    have AT7 := Li (AT.out.below HB7.out AT.out.lt)
    have BQ7 := Li (BL.out.trans (HB7.out.mono BL.out.size))
    have hgf : gf < wq.heap.size := HF.out.lt
    have hgq : wq.heap.size ≤ wr.heap.size := BL.out.size
    have hgl : g < wr.heap.size := AT.out.lt
    have hn7 : gn < w7.heap.size := NA.out.lt
    clear HRS HR6 HO5 HB5 HB6 HDG
    go_wp2_with fail
    refine tloop4 _ w7 g gn H N0 _ _ _ _ _ _ _ _ _ _ _ _ _ _ _ _ _ _ _ _ _ _ _ _ _ _ _ _ _ _ _ _ _ _ _ _ _ _ _ _ _ _ _ _ _ _ _ _ _ _ _ _ _ _ _ _ _ _ _ _ _ _ _ _ _ _ _ _ _ _ _ _ _ _ _ _ _ _ _ _ _ _ _ _ _ _ _ _ _ _ _ _ _ _ _ _ _ _ _ _ _ _ _ _ _ _ _ _ _ _ _ _ _ _ _ _ _ _ _ _ _ _ _ _ _ _ _ _ _ _ _ _ _ _ _ _ _ _ _ _ _ _ _ _ _ _ _ _ _ _ _ _ _ _ _ _ _ _ _ _ _ _ _ _ _ _ _ _ _ _ _ _ _ _ _ _ _ _ _ _ _ _ _ _ _ _ _ _ (by omega) AT7 NA HS.out.len nl (Li HS.out.lt) NB ?_
    intro x13 x73 x74 x75 x76 x77 x78 x79 x80 x81 x82 x83 x84 x85 x86 x87 x88 O4 ws4 sm4 at4 gr4
    have SM4 := Li sm4
    have AT4 := Li at4
    have BR4 := Li (g1_below_refl gr4 HB7.out hgn HB7.out.size)
    have hz4 : w7.heap.size ≤ ws4.heap.size := gr4.size
    clear sm4 at4 gr4
    have hmk4 := run_make_q 22 (by decide) ws4
    rw [show ((22 : Nat) : Int) = 22 from rfl] at hmk4
    obtain ⟨Y, hY⟩ : ∃ Y, Y = ws4.alloc (.cells (vq (List.replicate 22 0)) 43) := ⟨_, rfl⟩
    rw [← hY] at hmk4
    have YP := Li (show Blk Y ws4.heap.size 43 (vq (List.replicate 22 0)) by rw [hY]; exact Blk.new _ _ _)
    have YN := Li (show Blk Y gn 43 (vq O4) by rw [hY]; exact AT4.out.alloc _)
    have YB := Li (show Below wr.heap.size wr Y by rw [hY]; exact BR4.out.alloc BR4.out.size _)
    have YF := Li (show Blk Y gf 43 (vq F) from (HF.out.below BL.out hgf).below YB.out (by omega))
    clear hY
    go_wp2_with fail
    clear hmk4
    generalize ws4.heap.size = gp at *
    refine tloop6 _ Y gf gn gp F O4 _ _ _ _ _ _ _ _ _ _ _ _ _ _ _ _ _ _ _ _ _ _ _ _ _ _ _ _ _ _ _ _ _ _ _ _ _ _ _ _ _ _ _ _ _ _ _ _ _ _ _ _ _ _ _ _ _ _ _ _ _ _ _ _ _ _ _ _ _ _ _ _ _ _ _ _ _ _ _ _ _ _ _ _ _ _ _ _ _ _ _ _ _ _ _ _ _ _ _ _ _ _ _ _ _ _ _ _ _ _ _ _ _ _ _ _ _ _ _ _ _ _ _ _ _ _ _ _ _ _ _ _ _ _ _ _ _ _ _ _ _ _ _ _ _ _ _ _ _ _ _ _ _ _ _ _ _ _ _ _ _ _ _ _ _ _ _ _ _ _ _ _ _ _ _ _ _ _ _ _ _ _ _ _ _ _ _ (by omega) (by omega) YF YN YP fl SM4.out.len HFB (Li (fun j => by have := SM4.out.lt j; omega)) ?_
    intro y15 y16 y90 y91 y92 y93 y94 y95 y96 y97 y98 y99 y100 y101 y102 y103 y104 y105 y106 y107 y108 y109 y110 y111 y112 y113 y114 y115 y116 y117 y118 P ws6 ml6 at6 gr6
    have ML6 := Li ml6
    have PB := Li (show ∀ j, P.getD j 0 ≤ 17179869184 from fun j => Nat.le_trans (ml6.bnd j) (by decide))
    have AT6 := Li at6
    have BR6 := Li (g1_below_refl gr6 YB.out (by omega) YB.out.size)
    have hev := HEV.out ws6 gp P at6 ml6.len (fun j => Nat.le_trans (PB.out j) (by decide))
    have HEV6 := Li hev
    clear ml6 at6 gr6 hev
    have hg2 : gp < ws6.heap.size := AT6.out.lt
    go_upto_region 31 with (go_at_call 77; (refine HEV6.out.mono ?_); rintro e w8 ⟨rfl, hb8, L2, q1, l2, b2, v2, a2⟩; have BR8 := Li (BR6.out.trans (hb8.mono BR6.out.size)); have AP8 := Li (AT6.out.below hb8 AT6.out.lt); have LB := Li b2; have LV := Li v2; have LA := Li a2; clear hb8 b2 v2 a2)
    have hg3 : wr.heap.size ≤ ws6.heap.size := BR6.out.size
    generalize ws6.heap.size = g2 at *
    clear HEV6 HEV
    have d0 := (LA.out.cell 0).trans (vq_at L2 0 (by omega))
    have e0 := LA.out.free 0
    have d1 := (AP8.out.cell 20).trans (vq_at P 20 (by rw [ML6.out.len]; decide))
    have b0 := LB.out 0
    have bp := PB.out 20
    have f0 : IntKind.u64.wrap (25 * ((P.getD 20 0 : Nat) : Int)) = ((25 * P.getD 20 0 : Nat) : Int) := by rw [show (25 : Int) * ((P.getD 20 0 : Nat) : Int) = ((25 * P.getD 20 0 : Nat) : Int) by omega, wrap_lt _ (by omega)]
    have f1 : IntKind.u64.wrap (((L2.getD 0 0 : Nat) : Int) + ((25 * P.getD 20 0 : Nat) : Int)) = ((L2.getD 0 0 + 25 * P.getD 20 0 : Nat) : Int) := by rw [← Int.natCast_add, wrap_lt _ (by omega)]
    obtain ⟨x0, hx0⟩ : ∃ x, x = L2.getD 0 0 + 25 * P.getD 20 0 := ⟨_, rfl⟩
    rw [← hx0] at f1
    have HX0 := Li hx0
    have hxb : x0 ≤ 1125899906842624 := by omega
    clear hx0 b0 bp
    obtain ⟨w9, hw9⟩ : ∃ w9, w9 = (w8.setCell ⟨g2, 0, none⟩ (.int .u64 (x0 : Int))).drew := ⟨_, rfl⟩
    have LA9 := Li (show Blk w9 g2 43 (vq (L2.set 0 x0)) by rw [hw9, ← vq_set]; exact LA.out.set_ _ _)
    have AP9 := Li (show Blk w9 gp 43 (vq P) by rw [hw9]; exact AP8.out.far (by show gp ≠ g2; omega) _)
    have BR9 := Li (show Below wr.heap.size wr w9 by rw [hw9]; exact (BR8.out.setCell hg3 _).drew)
    have HW9 := Li hw9
    clear hw9
    generalize hl20 : L2.getD 0 0 = l20 at *
    have HL20 := Li hl20
    clear hl20
    generalize hp20 : P.getD 20 0 = p20 at *
    have HP20 := Li hp20
    clear hp20
    generalize 25 * p20 = p25 at f0 f1
    go_wp2_with fail
    go_still_tail 10, (by kernel_rfl)
    go_upto_region 32 with fail
    rw [← HW9.out]
    clear d0 d1 e0 f0 f1 HW9 AP8 LA BR8
    obtain ⟨L9, hL9⟩ : ∃ L, L = L2.set 0 x0 := ⟨_, rfl⟩
    rw [← hL9] at LA9
    have hl9 : L9.length = 10 := by rw [hL9, List.length_set]; exact l2
    have h91 : L9.getD 1 0 < 8192 := by rw [hL9, getD_set _ _ _ _ (by omega), if_neg (by decide)]; exact LB.out 1
    have HV9 := Li (show V13 L9 = V13 L2 + 25 * p20 by
     have h1 := V13_set L2 0 x0 (by omega)
     rw [← hL9, Nat.pow_zero, Nat.one_mul, Nat.one_mul, HL20.out] at h1
     have := HX0.out
     omega)
    have HB9 := Li (show ∀ j, L9.getD j 0 ≤ 1125899906842624 from fun j => by
     rw [hL9, getD_set _ _ _ _ (by omega)]
     split
     ·exact hxb
     ·have := LB.out j; omega)
    clear hL9 hxb
    have d0 := (LA9.out.cell 1).trans (vq_at L9 1 (by omega))
    have e0 := LA9.out.free 1
    have d1 := (AP9.out.cell 21).trans (vq_at P 21 (by rw [ML6.out.len]; decide))
    have bp := PB.out 21
    have f0 : IntKind.u64.wrap (25 * ((P.getD 21 0 : Nat) : Int)) = ((25 * P.getD 21 0 : Nat) : Int) := by rw [show (25 : Int) * ((P.getD 21 0 : Nat) : Int) = ((25 * P.getD 21 0 : Nat) : Int) by omega, wrap_lt _ (by omega)]
    have f1 : IntKind.u64.wrap (((L9.getD 1 0 : Nat) : Int) + ((25 * P.getD 21 0 : Nat) : Int)) = ((L9.getD 1 0 + 25 * P.getD 21 0 : Nat) : Int) := by rw [← Int.natCast_add, wrap_lt _ (by omega)]
    obtain ⟨x1, hx1⟩ : ∃ x, x = L9.getD 1 0 + 25 * P.getD 21 0 := ⟨_, rfl⟩
    rw [← hx1] at f1
    have hxb : x1 ≤ 1125899906842624 := by omega
    have HX1 := Li hx1
    obtain ⟨w10, hw10⟩ : ∃ w10, w10 = (w9.setCell ⟨g2, 1, none⟩ (.int .u64 (x1 : Int))).drew := ⟨_, rfl⟩
    obtain ⟨L10, hL10⟩ : ∃ L, L = L9.set 1 x1 := ⟨_, rfl⟩
    have LA10 := Li (show Blk w10 g2 43 (vq L10) by rw [hw10, hL10, ← vq_set]; exact LA9.out.set_ _ _)
    have BR10 := Li (show Below wr.heap.size wr w10 by rw [hw10]; exact (BR9.out.setCell hg3 _).drew)
    have HW10 := Li hw10
    have hl10 : L10.length = 10 := by rw [hL10, List.length_set]; exact hl9
    have HV10 := Li (show V13 L10 = V13 L2 + 25 * p20 + 8192 * (25 * P.getD 21 0) by
     have h1 := V13_set L9 1 x1 (by omega)
     rw [← hL10, Nat.pow_one] at h1
     have := HV9.out
     omega)
    have HB10 := Li (show ∀ j, L10.getD j 0 ≤ 1125899906842624 from fun j => by
     rw [hL10, getD_set _ _ _ _ (by omega)]
     split
     ·exact hxb
     ·exact HB9.out j)
    clear hw10 hL10 hx1 bp h91 hxb
    have hew := HEW.out w10 g2 L10 LA10.out hl10 HB10.out
    have HEW10 := Li hew
    clear hew HEW
    generalize hp21 : P.getD 21 0 = p21 at *
    have HP21 := Li hp21
    clear hp21
    generalize 25 * p21 = p25' at f0 f1
    generalize L9.getD 1 0 = l91 at f1 d0
    go_wp2_with fail
    go_still_tail 10, (by kernel_rfl)
    go_upto_region 33 with fail
    rw [← HW10.out]
    clear d0 d1 e0 f0 f1 HW10 AP9 LA9 BR9
    go_wp2_with (go_at_call 77; (refine HEW10.out.mono ?_); rintro e w11 ⟨rfl, hb11, L3, q2, l3, b3, v3, a3⟩; have BR11 := Li (BR10.out.trans (hb11.mono BR10.out.size)); have L3B := Li b3; have L3V := Li v3; have L3A := Li a3; clear hb11 b3 v3 a3)
    have hfin := round_val (V13 F) q m H O4 P L2 L3 q1 q2 HS.out.val (by rw [SM4.out.val, NV.out, HBK.out, List.take_of_length_le (l := H) (by rw [HS.out.len]; exact jD _)]) (by have h := ML6.out.val; rw [List.take_of_length_le (l := O4) (by rw [SM4.out.len]; exact jD _), List.take_zero, V13, Nat.mul_zero, Nat.mul_zero, Nat.add_zero] at h; exact h) ML6.out.len LV.out (by rw [HP20.out, HP21.out, ← HV10.out]; exact L3V.out)
    have hI := HI.out
    exact ⟨⟨q + 1, _, L3, by omega, by congr 1; omega, rfl, ⟨l3, L3B.out, hfin⟩, L3A.out, BL.out.trans (BR11.out.mono BL.out.size)⟩, by simp only [intOf]; omega⟩
   ·have hbl2 : bl.length = 16 := by have := HI.out; omega
    have t1 : ¬ (m.length : Int) < (i : Int) + 16 := by have := HI.out; omega
    have p4 : (i : Int) + 16 ≤ (ca : Int) := by have := HI.out; omega
    have HB2 := Li hbl2
    clear h16 hbl hn hbl2
    go_upto_region 18 with (first
     | (at_builtin; refine wpList_app _ rfl (.tmp 59) (.tmp 67) _ rfl wr.heap.size 5 i0 (.int .u8 0) 1 1 Tryz.underlying23 hi hz0 hz1 hz2 rfl (by decide) _ 0 [] rfl (by exact OwnB.new wr wr.heap.size [] (jD _) (by decide)) wq.heap.size (some (ad.add i)) bl.length (ca - i) (byt bl) (by refine (show _ = Value.slice (some (ad.add i)) _ (ca - i) from rfl).trans ?_; congr 1; have := HB2.out; omega) (by simp [byt_len]) (HRS.out _ (BL.out.alloc BL.out.size _)) (byt_one _) (by omega) (by omega) (by simp) ?_; intro v5 w5 hap; have HO5 := Li (show OwnB w5 wr.heap.size v5 bl from by have h1 := OwnB.app (l := []) (show Apped _ _ _ _ _ _ _ (([] : List Nat).length + bl.length) (byt [] ++ byt bl) from hap); exact h1); have HB5 := Li (((jE wr.heap.size wr).alloc (jD _) _).trans (hap.below (OwnB.new wr wr.heap.size [] (jD _) (by decide)) (by simp))); clear hap)
     | (at_builtin; refine wpList_app _ rfl (.tmp 69) (.tmp 70) _ rfl wr.heap.size 5 i0 (.int .u8 0) 1 1 Tryz.underlying23 hi hz0 hz1 hz2 rfl (by decide) v5 bl.length (byt bl) rfl (HO5.out.alloc _) _ _ 1 1 [.int .u8 (1 : Nat)] rfl rfl (by exact rd_one _ _ _) (byt_one [1]) (by omega) (by omega) (by have := HB5.out.size; simp; omega) ?_; intro v6 w6 hap; have ho6 := OwnB.snoc hap; rw [← HB1.out] at ho6; have HB6 := Li ((HB5.out.alloc HB5.out.size _).trans (hap.below (HO5.out.alloc _) (by have := HB5.out.size; simp; omega))); clear hap; obtain ⟨A6, c6, rfl, _, _, hr6⟩ := ho6.rd; have HR6 := Li hr6; clear hr6 ho6)
     | (go_at_call 76; (refine (HDG.out w6 A6 c6 HR6.out).mono ?_); rintro e w7 ⟨rfl, hb7, N0, nl, nb, nv, na⟩; have HB7 := Li (HB6.out.trans (hb7.mono HB6.out.size)); have NB := Li nb; have NV := Li (nv.trans HNB.out); have NA := Li na; clear hb7 nb nv na))
    have hgn : wr.heap.size ≤ w6.heap.size := HB6.out.size
    generalize w6.heap.size = gn at *
    have AT7 := Li (AT.out.below HB7.out AT.out.lt)
    have BQ7 := Li (BL.out.trans (HB7.out.mono BL.out.size))
    have hgf : gf < wq.heap.size := HF.out.lt
    have hgq : wq.heap.size ≤ wr.heap.size := BL.out.size
    have hgl : g < wr.heap.size := AT.out.lt
    have hn7 : gn < w7.heap.size := NA.out.lt
    clear HRS HR6 HO5 HB5 HB6 HDG
    go_wp2_with fail
    refine tloop4 _ w7 g gn H N0 _ _ _ _ _ _ _ _ _ _ _ _ _ _ _ _ _ _ _ _ _ _ _ _ _ _ _ _ _ _ _ _ _ _ _ _ _ _ _ _ _ _ _ _ _ _ _ _ _ _ _ _ _ _ _ _ _ _ _ _ _ _ _ _ _ _ _ _ _ _ _ _ _ _ _ _ _ _ _ _ _ _ _ _ _ _ _ _ _ _ _ _ _ _ _ _ _ _ _ _ _ _ _ _ _ _ _ _ _ _ _ _ _ _ _ _ _ _ _ _ _ _ _ _ _ _ _ _ _ _ _ _ _ _ _ _ _ _ _ _ _ _ _ _ _ _ _ _ _ _ _ _ _ _ _ _ _ _ _ _ _ _ _ _ _ _ _ _ _ _ _ _ _ _ _ _ _ _ _ _ _ _ _ _ _ _ _ _ (by omega) AT7 NA HS.out.len nl (Li HS.out.lt) NB ?_
    intro x13 x73 x74 x75 x76 x77 x78 x79 x80 x81 x82 x83 x84 x85 x86 x87 x88 O4 ws4 sm4 at4 gr4
    have SM4 := Li sm4
    have AT4 := Li at4
    have BR4 := Li (g1_below_refl gr4 HB7.out hgn HB7.out.size)
    have hz4 : w7.heap.size ≤ ws4.heap.size := gr4.size
    clear sm4 at4 gr4
    have hmk4 := run_make_q 22 (by decide) ws4
    rw [show ((22 : Nat) : Int) = 22 from rfl] at hmk4
    obtain ⟨Y, hY⟩ : ∃ Y, Y = ws4.alloc (.cells (vq (List.replicate 22 0)) 43) := ⟨_, rfl⟩
    rw [← hY] at hmk4
    have YP := Li (show Blk Y ws4.heap.size 43 (vq (List.replicate 22 0)) by rw [hY]; exact Blk.new _ _ _)
    have YN := Li (show Blk Y gn 43 (vq O4) by rw [hY]; exact AT4.out.alloc _)
    have YB := Li (show Below wr.heap.size wr Y by rw [hY]; exact BR4.out.alloc BR4.out.size _)
    have YF := Li (show Blk Y gf 43 (vq F) from (HF.out.below BL.out hgf).below YB.out (by omega))
    clear hY
    go_wp2_with fail
    clear hmk4
    generalize ws4.heap.size = gp at *
    refine tloop6 _ Y gf gn gp F O4 _ _ _ _ _ _ _ _ _ _ _ _ _ _ _ _ _ _ _ _ _ _ _ _ _ _ _ _ _ _ _ _ _ _ _ _ _ _ _ _ _ _ _ _ _ _ _ _ _ _ _ _ _ _ _ _ _ _ _ _ _ _ _ _ _ _ _ _ _ _ _ _ _ _ _ _ _ _ _ _ _ _ _ _ _ _ _ _ _ _ _ _ _ _ _ _ _ _ _ _ _ _ _ _ _ _ _ _ _ _ _ _ _ _ _ _ _ _ _ _ _ _ _ _ _ _ _ _ _ _ _ _ _ _ _ _ _ _ _ _ _ _ _ _ _ _ _ _ _ _ _ _ _ _ _ _ _ _ _ _ _ _ _ _ _ _ _ _ _ _ _ _ _ _ _ _ _ _ _ _ _ _ _ _ _ _ _ (by omega) (by omega) YF YN YP fl SM4.out.len HFB (Li (fun j => by have := SM4.out.lt j; omega)) ?_
    intro y15 y16 y90 y91 y92 y93 y94 y95 y96 y97 y98 y99 y100 y101 y102 y103 y104 y105 y106 y107 y108 y109 y110 y111 y112 y113 y114 y115 y116 y117 y118 P ws6 ml6 at6 gr6
    have ML6 := Li ml6
    have PB := Li (show ∀ j, P.getD j 0 ≤ 17179869184 from fun j => Nat.le_trans (ml6.bnd j) (by decide))
    have AT6 := Li at6
    have BR6 := Li (g1_below_refl gr6 YB.out (by omega) YB.out.size)
    have hev := HEV.out ws6 gp P at6 ml6.len (fun j => Nat.le_trans (PB.out j) (by decide))
    have HEV6 := Li hev
    clear ml6 at6 gr6 hev
    have hg2 : gp < ws6.heap.size := AT6.out.lt
    go_upto_region 31 with (go_at_call 77; (refine HEV6.out.mono ?_); rintro e w8 ⟨rfl, hb8, L2, q1, l2, b2, v2, a2⟩; have BR8 := Li (BR6.out.trans (hb8.mono BR6.out.size)); have AP8 := Li (AT6.out.below hb8 AT6.out.lt); have LB := Li b2; have LV := Li v2; have LA := Li a2; clear hb8 b2 v2 a2)
    have hg3 : wr.heap.size ≤ ws6.heap.size := BR6.out.size
    generalize ws6.heap.size = g2 at *
    clear HEV6 HEV
    have d0 := (LA.out.cell 0).trans (vq_at L2 0 (by omega))
    have e0 := LA.out.free 0
    have d1 := (AP8.out.cell 20).trans (vq_at P 20 (by rw [ML6.out.len]; decide))
    have b0 := LB.out 0
    have bp := PB.out 20
    have f0 : IntKind.u64.wrap (25 * ((P.getD 20 0 : Nat) : Int)) = ((25 * P.getD 20 0 : Nat) : Int) := by rw [show (25 : Int) * ((P.getD 20 0 : Nat) : Int) = ((25 * P.getD 20 0 : Nat) : Int) by omega, wrap_lt _ (by omega)]
    have f1 : IntKind.u64.wrap (((L2.getD 0 0 : Nat) : Int) + ((25 * P.getD 20 0 : Nat) : Int)) = ((L2.getD 0 0 + 25 * P.getD 20 0 : Nat) : Int) := by rw [← Int.natCast_add, wrap_lt _ (by omega)]
    obtain ⟨x0, hx0⟩ : ∃ x, x = L2.getD 0 0 + 25 * P.getD 20 0 := ⟨_, rfl⟩
    rw [← hx0] at f1
    have HX0 := Li hx0
    have hxb : x0 ≤ 1125899906842624 := by omega
    clear hx0 b0 bp
    obtain ⟨w9, hw9⟩ : ∃ w9, w9 = (w8.setCell ⟨g2, 0, none⟩ (.int .u64 (x0 : Int))).drew := ⟨_, rfl⟩
    have LA9 := Li (show Blk w9 g2 43 (vq (L2.set 0 x0)) by rw [hw9, ← vq_set]; exact LA.out.set_ _ _)
    have AP9 := Li (show Blk w9 gp 43 (vq P) by rw [hw9]; exact AP8.out.far (by show gp ≠ g2; omega) _)
    have BR9 := Li (show Below wr.heap.size wr w9 by rw [hw9]; exact (BR8.out.setCell hg3 _).drew)
    have HW9 := Li hw9
    clear hw9
    generalize hl20 : L2.getD 0 0 = l20 at *
    have HL20 := Li hl20
    clear hl20
    generalize hp20 : P.getD 20 0 = p20 at *
    have HP20 := Li hp20
    clear hp20
    generalize 25 * p20 = p25 at f0 f1
    go_wp2_with fail
    go_still_tail 10, (by kernel_rfl)
    go_upto_region 32 with fail
    rw [← HW9.out]
    clear d0 d1 e0 f0 f1 HW9 AP8 LA BR8
    obtain ⟨L9, hL9⟩ : ∃ L, L = L2.set 0 x0 := ⟨_, rfl⟩
    rw [← hL9] at LA9
    have hl9 : L9.length = 10 := by rw [hL9, List.length_set]; exact l2
    have h91 : L9.getD 1 0 < 8192 := by rw [hL9, getD_set _ _ _ _ (by omega), if_neg (by decide)]; exact LB.out 1
    have HV9 := Li (show V13 L9 = V13 L2 + 25 * p20 by
     have h1 := V13_set L2 0 x0 (by omega)
     rw [← hL9, Nat.pow_zero, Nat.one_mul, Nat.one_mul, HL20.out] at h1
     have := HX0.out
     omega)
    have HB9 := Li (show ∀ j, L9.getD j 0 ≤ 1125899906842624 from fun j => by
     rw [hL9, getD_set _ _ _ _ (by omega)]
     split
     ·exact hxb
     ·have := LB.out j; omega)
    clear hL9 hxb
    have d0 := (LA9.out.cell 1).trans (vq_at L9 1 (by omega))
    have e0 := LA9.out.free 1
    have d1 := (AP9.out.cell 21).trans (vq_at P 21 (by rw [ML6.out.len]; decide))
    have bp := PB.out 21
    have f0 : IntKind.u64.wrap (25 * ((P.getD 21 0 : Nat) : Int)) = ((25 * P.getD 21 0 : Nat) : Int) := by rw [show (25 : Int) * ((P.getD 21 0 : Nat) : Int) = ((25 * P.getD 21 0 : Nat) : Int) by omega, wrap_lt _ (by omega)]
    have f1 : IntKind.u64.wrap (((L9.getD 1 0 : Nat) : Int) + ((25 * P.getD 21 0 : Nat) : Int)) = ((L9.getD 1 0 + 25 * P.getD 21 0 : Nat) : Int) := by rw [← Int.natCast_add, wrap_lt _ (by omega)]
    obtain ⟨x1, hx1⟩ : ∃ x, x = L9.getD 1 0 + 25 * P.getD 21 0 := ⟨_, rfl⟩
    rw [← hx1] at f1
    have hxb : x1 ≤ 1125899906842624 := by omega
    have HX1 := Li hx1
    obtain ⟨w10, hw10⟩ : ∃ w10, w10 = (w9.setCell ⟨g2, 1, none⟩ (.int .u64 (x1 : Int))).drew := ⟨_, rfl⟩
    obtain ⟨L10, hL10⟩ : ∃ L, L = L9.set 1 x1 := ⟨_, rfl⟩
    have LA10 := Li (show Blk w10 g2 43 (vq L10) by rw [hw10, hL10, ← vq_set]; exact LA9.out.set_ _ _)
    have BR10 := Li (show Below wr.heap.size wr w10 by rw [hw10]; exact (BR9.out.setCell hg3 _).drew)
    have HW10 := Li hw10
    have hl10 : L10.length = 10 := by rw [hL10, List.length_set]; exact hl9
    have HV10 := Li (show V13 L10 = V13 L2 + 25 * p20 + 8192 * (25 * P.getD 21 0) by
     have h1 := V13_set L9 1 x1 (by omega)
     rw [← hL10, Nat.pow_one] at h1
     have := HV9.out
     omega)
    have HB10 := Li (show ∀ j, L10.getD j 0 ≤ 1125899906842624 from fun j => by
     rw [hL10, getD_set _ _ _ _ (by omega)]
     split
     ·exact hxb
     ·exact HB9.out j)
    clear hw10 hL10 hx1 bp h91 hxb
    have hew := HEW.out w10 g2 L10 LA10.out hl10 HB10.out
    have HEW10 := Li hew
    clear hew HEW
    generalize hp21 : P.getD 21 0 = p21 at *
    have HP21 := Li hp21
    clear hp21
    generalize 25 * p21 = p25' at f0 f1
    generalize L9.getD 1 0 = l91 at f1 d0
    go_wp2_with fail
    go_still_tail 10, (by kernel_rfl)
    go_upto_region 33 with fail
    rw [← HW10.out]
    clear d0 d1 e0 f0 f1 HW10 AP9 LA9 BR9
    go_wp2_with (go_at_call 77; (refine HEW10.out.mono ?_); rintro e w11 ⟨rfl, hb11, L3, q2, l3, b3, v3, a3⟩; have BR11 := Li (BR10.out.trans (hb11.mono BR10.out.size)); have L3B := Li b3; have L3V := Li v3; have L3A := Li a3; clear hb11 b3 v3 a3)
    have hfin := round_val (V13 F) q m H O4 P L2 L3 q1 q2 HS.out.val (by rw [SM4.out.val, NV.out, HBK.out, List.take_of_length_le (l := H) (by rw [HS.out.len]; exact jD _)]) (by have h := ML6.out.val; rw [List.take_of_length_le (l := O4) (by rw [SM4.out.len]; exact jD _), List.take_zero, V13, Nat.mul_zero, Nat.mul_zero, Nat.add_zero] at h; exact h) ML6.out.len LV.out (by rw [HP20.out, HP21.out, ← HV10.out]; exact L3V.out)
    have hI := HI.out
    exact ⟨⟨q + 1, _, L3, by omega, by congr 1; omega, rfl, ⟨l3, L3B.out, hfin⟩, L3A.out, BL.out.trans (BR11.out.mono BL.out.size)⟩, by simp only [intOf]; omega⟩
  ·have e : (m.length + 15) / 16 = q := by omega
   have HE := Li e
   have p1 : ¬ ((16 * q : Nat) : Int) < (m.length : Int) := by omega
   obtain ⟨i, hi16⟩ : ∃ i, i = 16 * q := ⟨_, rfl⟩
   rw [← hi16] at p1 ⊢
   clear e hi16 hlt
   go_wp2_with fail
   exact hexit _ _ _ _ _ _ _ _ _ _ _ _ _ _ _ _ _ _ _ _ _ _ _ _ _ _ _ _ _ _ _ _ _ _ _ _ _ _ _ _ _ _ _ _ _ _ _ _ _ _ _ _ _ _ _ _ _ _ _ _ _ _ _ _ _ _ _ _ _ _ _ _ _ _ _ _ _ _ _ _ _ _ _ _ _ _ _ _ _ _ _ _ _ _ _ _ _ _ _ g H _ (by rw [HE.out]; exact HS.out) AT.out BL.out
theorem zero_t16 (w : World) : (zeroValue 117).run Tryz.prog w = .ok (.agg zT) w := by kernel_rfl
theorem t16Sz {L : List Nat} (h : L.length = 16) : (Tryz.prog.info? 117).map (·.size) = some (vb L).size := by rw [vb_size, h]; kernel_rfl
theorem t16Ln {L : List Nat} (h : L.length = 16) : (Tryz.prog.info? 117).map (·.size) = some (byt L).length := by rw [byt_len, h]; kernel_rfl
set_option maxRecDepth 1000000 in
theorem rtag_c (k m : List Nat) (A : Option Addr) (ca : Nat) (w : World) (hk : k.length = 32) (hl : ∀ c ∈ k, c < 256) (hm : ∀ c ∈ m, c < 256) (hr : Rd w w.heap.size A (byt m)) (hml : m.length ≤ 10000) (hca : m.length ≤ ca) (hca2 : ca ≤ maxLen) :
  Calls Tryz.prog 55 #[.agg (vb k), .slice A m.length ca] w fun e w' => e = .returned (.agg (vb (polT k m))) ∧ Below w.heap.size w w' := by
 have zt := zero_t16
 have zt1 : zT.size = 16 := by rfl
 have zt2 : ¬ zT = #[] := by intro h; have := congrArg Array.size h; rw [zt1] at this; cases this
 have ksz : (vb k).size = 32 := by rw [vb_size, hk]
 have HKL := Li hl
 have HML := Li hm
 have HR := Li hr
 have HCL := Li (clampL_lt k hl)
 obtain ⟨Z, hZ⟩ : ∃ Z, Z = (w.alloc (Obj.cells (vb k) 44)).alloc (Obj.cells zT 117) := ⟨_, rfl⟩
 have ZK := Li (show Blk Z w.heap.size 44 (vb k) by rw [hZ]; exact (Blk.new _ _ _).alloc _)
 have ZO := Li (show Blk Z (w.heap.size + 1) 117 zT by
  have h1 := Blk.new (w.alloc (Obj.cells (vb k) 44)) 117 zT
  rw [show (w.alloc (Obj.cells (vb k) 44)).heap.size = w.heap.size + 1 by simp] at h1
  rw [hZ]; exact h1)
 have ZB := Li (show Below w.heap.size w Z by rw [hZ]; exact ((jE _ _).alloc (jD _) _).alloc (by simp) _)
 have ZZ : Z.heap.size = w.heap.size + 1 + 1 := by rw [hZ]; simp
 clear hl hm hr
 go_enter Tryz.func55, Tryz.ntmps55
 go_upto_region 1 with fail
 rw [← hZ]
 clear hZ zt zt1 zt2 ksz
 have HZZ := Li ZZ
 clear ZZ
 go_wp2_with fail
 refine tloop0 _ Z w.heap.size k _ _ _ _ _ _ _ _ _ _ _ _ _ _ _ _ _ _ _ _ _ _ _ _ _ _ _ _ _ _ _ _ _ _ _ _ _ _ _ _ _ _ _ _ _ _ _ _ _ _ _ _ _ _ _ _ _ _ _ _ _ _ _ _ _ _ _ _ _ _ _ _ _ _ _ _ _ _ _ _ _ _ _ _ _ _ _ _ _ _ _ _ _ _ _ _ _ _ _ _ _ _ _ _ _ _ _ _ _ _ _ _ _ _ _ _ _ _ _ _ _ _ _ _ _ _ _ _ _ _ _ _ _ _ _ _ _ _ _ _ _ _ _ _ _ _ _ _ _ _ _ _ _ _ _ _ _ _ _ _ _ _ _ _ _ _ _ _ _ _ _ _ _ _ _ _ _ _ _ _ _ _ _ _ _ _ _ _ ZK hk HKL ?_
 intro x6 x7 x24 x25 x26 x27 x28 x29 x30 x31 x32 x33 x34 x35 x36 x37 x38 x39 x40 x41 x42 x43 x44 x45 x46 x47 x48 x49 v1 w1 ho1 hb1
 obtain ⟨A1, c1, rfl, _, _, hr1⟩ := ho1.rd
 have B1 := Li hb1
 have HDG := Li (digits_c w1.heap.size A1 c1 (clampL k) w1 hr1 (jD _) HCL.out (by rw [clampL_len]; decide) (jH (number_lt _ HCL.out) (by rw [clampL_len]; decide)))
 rw [clampL_len] at HDG ⊢
 clear ho1 hb1 hr1
 go_upto_region 12 with (go_at_call 76; (refine HDG.out.mono ?_); rintro e w2 ⟨rfl, hb2, F, fl, fb, fv, fa⟩; have B2 := Li (B1.out.trans (hb2.mono B1.out.size)); have FB := Li fb; have FV := Li fv; have FA := Li fa; clear hb2 fb fv fa)
 have hgf1 : Z.heap.size ≤ w1.heap.size := B1.out.size
 generalize w1.heap.size = gf at *
 clear HDG
 have hmk := run_make_q 10 (by decide) w2
 rw [show ((10 : Nat) : Int) = 10 from rfl] at hmk
 obtain ⟨Y, hY⟩ : ∃ Y, Y = w2.alloc (.cells (vq (List.replicate 10 0)) 43) := ⟨_, rfl⟩
 rw [← hY] at hmk
 have YH := Li (show Blk Y w2.heap.size 43 (vq (List.replicate 10 0)) by rw [hY]; exact Blk.new _ _ _)
 have YF := Li (show Blk Y gf 43 (vq F) by rw [hY]; exact FA.out.alloc _)
 have YB := Li (show Below Z.heap.size Z Y by rw [hY]; exact B2.out.alloc B2.out.size _)
 have YW := Li (show Below w.heap.size w Y from ZB.out.trans (YB.out.mono ZB.out.size))
 have YM := Li (show Rd Y Y.heap.size A (byt m) from (HR.out.below YW.out).more YW.out.size)
 clear hY
 go_wp2_with fail
 clear hmk
 refine tloop2 _ Y gf w2.heap.size ca A m F (List.replicate 10 0) _ _ _ _ _ _ _ _ _ _ _ _ _ _ _ _ _ _ _ _ _ _ _ _ _ _ _ _ _ _ _ _ _ _ _ _ _ _ _ _ _ _ _ _ _ _ _ _ _ _ _ _ _ _ _ _ _ _ _ _ _ _ _ _ _ _ _ _ _ _ _ _ _ _ _ _ _ _ _ _ _ _ _ _ _ _ _ _ _ _ _ _ _ _ _ _ _ _ _ _ _ _ _ _ _ _ _ _ _ _ _ _ _ _ _ _ _ _ _ _ _ _ _ _ _ _ _ _ _ _ _ _ _ _ _ _ _ _ _ _ _ _ _ _ _ _ _ _ _ _ _ _ _ _ _ _ _ _ _ _ _ _ _ _ _ _ _ _ _ _ _ _ _ _ _ _ _ _ _ _ _ _ _ _ _ _ _ YM YF YH fl (Li (fun j => by have := FB.out j; omega)) (Li ⟨rfl, fun j => by rw [rep_at]; decide, by rw [V13_rep]; rfl⟩) HML hml hca hca2 ?_
 intro y10 y11 y12 y13 y14 y15 y16 y17 y53 y54 y55 y56 y57 y58 y59 y60 y61 y62 y63 y64 y65 y66 y67 y68 y69 y70 y71 y72 y73 y74 y75 y76 y77 y78 y79 y80 y81 y82 y83 y84 y85 y86 y87 y88 y89 y90 y91 y92 y93 y94 y95 y96 y97 y98 y99 y100 y101 y102 y103 y104 y105 y106 y107 y108 y109 y110 y111 y112 y113 y114 y115 y116 y117 y118 y119 y120 y121 y122 y123 y124 y125 y126 y127 y128 y129 y130 y131 y132 y133 y134 y135 y136 y137 y138 y139 y140 y141 y142 y143 gl L w3 hs3 ha3 hb3
 have S3 := Li hs3
 have A3 := Li ha3
 have B3 := Li (YB.out.trans (hb3.mono YB.out.size))
 have HEW := Li (show Calls Tryz.prog 77 #[.slice (some ⟨gl, 0, none⟩) 10 10] w3 _ by
  have h1 := even_c (gl + 1) (some ⟨gl, 0, none⟩) 10 L w3 (rd_blk ha3 (q64 L) 10 (by simp [vq]; rw [List.take_of_length_le (by rw [q64_len, hs3.len]; exact jD _)])) ha3.lt (by rw [hs3.len]; exact jD _) (by rw [hs3.len]; decide) (fun j => by have := hs3.lt j; omega)
  rw [hs3.len] at h1
  exact h1)
 have HLE := Li (fun (g : Nat) (D : List Nat) (W : World) (hb : Blk W g 43 (vq D)) (h10 : D.length = 10) (hD : ∀ j, D.getD j 0 < 8192) => least_c g D W hb h10 hD)
 clear hs3 ha3 hb3
 go_upto_region 35 with (first
  | (go_at_call 77; (refine HEW.out.mono ?_); rintro e w4 ⟨rfl, hb4, L4, q4, l4, b4, v4, a4⟩; have B4 := Li (B3.out.trans (hb4.mono B3.out.size)); have V4 := Li v4; have HL4 := Li (HLE.out _ L4 w4 a4 l4 b4); clear hb4 v4 a4 b4)
  | (go_at_call 78; (refine HL4.out.mono ?_); rintro e w5 ⟨g5, L5, rfl, hb5, l5, b5, v5, a5⟩; have B5 := Li (B4.out.trans (hb5.mono B4.out.size)); have V5' := Li v5; have LB5 := Li b5; have A5 := Li a5; clear hb5 v5 a5 b5))
 clear HEW HLE HL4
 have HV := Li (show V13 L5 = polV k m by
  have h1 := S3.out.val
  rw [V4.out, Nat.add_mul_mod_self_left, ← V5'.out, FV.out] at h1
  rw [h1]; rfl)
 have zt := zero_t16
 have zt1 : zT.size = 16 := by rfl
 have zt2 : ¬ zT = #[] := by intro h; have := congrArg Array.size h; rw [zt1] at this; cases this
 obtain ⟨X, hX⟩ : ∃ X, X = w5.alloc (Obj.cells zT 117) := ⟨_, rfl⟩
 have hlt5 : Z.heap.size ≤ w5.heap.size := B5.out.size
 have XO := Li (show Blk X w5.heap.size 117 zT by rw [hX]; exact Blk.new _ _ _)
 have XL := Li (show Blk X g5 43 (vq L5) by rw [hX]; exact A5.out.alloc _)
 have XB := Li (show Below Z.heap.size Z X by rw [hX]; exact B5.out.alloc B5.out.size _)
 have XK := Li (ZK.out.below XB.out ZK.out.lt)
 have hg5 : g5 < w5.heap.size := A5.out.lt
 have hzz := HZZ.out
 go_upto_region 36 with fail
 rw [← hX]
 clear hX zt zt1 zt2
 generalize w5.heap.size = go at *
 go_wp2_with fail
 refine tloop10 _ X w.heap.size g5 go k L5 (List.replicate 16 0) _ _ _ _ _ _ _ _ _ _ _ _ _ _ _ _ _ _ _ _ _ _ _ _ _ _ _ _ _ _ _ _ _ _ _ _ _ _ _ _ _ _ _ _ _ _ _ _ _ _ _ _ _ _ _ _ _ _ _ _ _ _ _ _ _ _ _ _ _ _ _ _ _ _ _ _ _ _ _ _ _ _ _ _ _ _ _ _ _ _ _ _ _ _ _ _ _ _ _ _ _ _ _ _ _ _ _ _ _ _ _ _ _ _ _ _ _ _ _ _ _ _ _ _ _ _ _ _ _ _ _ _ _ _ _ _ _ _ _ _ _ _ _ _ _ _ _ _ _ _ _ _ _ _ _ _ _ _ _ _ _ _ _ _ _ _ _ _ _ _ _ _ _ _ _ _ _ _ _ _ _ _ _ _ _ _ (by omega) (by omega) XK XL XO hk HKL l5 rfl LB5 ?_
 intro z19 z20 z21 z22 z23 z147 z148 z149 z150 z151 z152 z153 z154 z155 z156 z157 z158 z159 z160 z161 z162 z163 z164 z165 z166 z167 z168 z169 z170 z171 z172 z173 z174 z175 z176 z177 z178 z179 z180 z181 z182 z183 z184 z185 z186 z187 z188 z189 w6 ha6 hg6
 have htl : (form (V13 L5 + number (k.drop 16)) 16).length = 16 := form_len _ _
 have HPT := Li (show form (V13 L5 + number (k.drop 16)) 16 = polT k m by
  rw [polT, HV.out, List.take_of_length_le (l := k.drop 16) (by rw [List.length_drop, hk]; decide)]
  exact (form_mod 16 _).symm)
 have HT1 := Li (t16Sz htl)
 have HT2 := Li (t16Ln htl)
 have HT3 := Li (show zT.size = (vb (form (V13 L5 + number (k.drop 16)) 16)).size by rw [vb_size, htl]; rfl)
 clear htl
 generalize form (V13 L5 + number (k.drop 16)) 16 = T at *
 have A6 := Li ha6
 have B6 := Li (g1_below_refl hg6 XB.out (by omega) XB.out.size)
 have O6 := Li (ZO.out.below B6.out ZO.out.lt)
 clear ha6 hg6
 have BF := Li (show Below w.heap.size w (w6.setRow (w.heap.size + 1) (vb T)) from below_row (ZB.out.trans (B6.out.mono ZB.out.size)) (by omega) _)
 have RF := Li (show Blk (w6.setRow (w.heap.size + 1) (vb T)) (w.heap.size + 1) 117 (vb T) from setRow_heap _ _ zT _ _ (0, 0) O6.out)
 go_wp2_with (first
  | (refine wpList_loadG rfl 117 (.tmp 18) rfl go 0 rfl (byt T) _ (by have := rangeAt_blk A6.out; simpa [vb] using this) Tryz.underlying117 rfl HT2.out ?_)
  | (refine wpList_store_rowTo rfl 117 (.tmp 4) (.tmp 190) rfl rfl (w.heap.size + 1) (vb T) rfl rfl 117 zT O6.out HT1.out HT3.out (vb_one _) ?_))
 first
  | rw [Exit.noGoto_ret]
  | skip
 refine bodyPost_ret (results_cell_row rfl _ _ (w.heap.size + 1) 117 (vb T) (0, 0) _ rfl RF.out Tryz.underlying117 rfl HT1.out) rfl ?_
 exact ⟨by rw [HPT.out], BF.out⟩
theorem results_row_tmp {P : Program} {fn : Func} {p u : Tmp} {ty : TypeId} (h : fn.results = #[.cell p ty, .tmp u]) (tmps : Array Value) (w : World) (g : Nat) (t : TypeId) (cs : Array Value) (fr : Nat × Nat) (d : TypeDesc)
  (hp : tmps.getD p undef = .pointer (some ⟨g, 0, none⟩)) (hg : w.heap[g]? = some (.cells cs t fr))
  (hu : P.underlying ty = some d) (hd : (match d with | .struct _ | .array _ _ => true | _ => false) = true) (hi : (P.info? ty).map (·.size) = some cs.size) :
  (results fn tmps).run P w = .ok (.tuple #[.agg cs, tmps.getD u undef]) w := by
 rw [results_cell_tmp h, hp]
 simp [asAddr, run_loadVar_row w g t ty cs fr d hg hu hd hi, Result.andThen]
theorem nonSz {L : List Nat} (h : L.length = 12) : (Tryz.prog.info? 57).map (·.size) = some (vb L).size := by rw [vb_size, h]; kernel_rfl
theorem n12Sz {L : List Nat} (h : L.length = 12) : (Tryz.prog.info? 56).map (·.size) = some (vb L).size := by rw [vb_size, h]; kernel_rfl
theorem zero_b32 (w : World) : (zeroValue 44).run Tryz.prog w = .ok (.agg (vb (List.replicate 32 0))) w := by kernel_rfl
theorem b32Sz {L : List Nat} (h : L.length = 32) : (Tryz.prog.info? 44).map (·.size) = some (vb L).size := by rw [vb_size, h]; kernel_rfl
theorem pad_step (n j : Nat) (h : j < padN n) : (n + j) % 16 ≠ 0 := by unfold padN at h; omega
theorem pad_end (n : Nat) : (n + padN n) % 16 = 0 := by unfold padN; omega
theorem pad_more (n m : Nat) (h : n % 16 = 0) : padN (n + m) = padN m := by unfold padN; omega
theorem zs_snoc (l : List Nat) (j : Nat) : l ++ zs (j + 1) = (l ++ zs j) ++ [0] := by
 unfold zs
 rw [List.replicate_succ', List.append_assoc]
theorem mapZ_getD (l : List Nat) (n : Nat) (h : n ≤ l.length) : (List.range n).map (fun i => l.getD i 0) = l.take n := by
 apply List.ext_getElem
 ·simp; omega
 ·intro i h1 h2
  simp at h1
  simp [jA, jB (show i < l.length by omega)]
theorem rseal_c (A1 A2 : Option Addr) (c1 c2 : Nat) (k nonce beside plain : List Nat) (w : World) (hk : k.length = 32) (hkl : ∀ c ∈ k, c < 256) (hc : nonce.length = 12) (hcl : ∀ c ∈ nonce, c < 256)
  (hr1 : Rd w w.heap.size A1 (byt beside)) (hr2 : Rd w w.heap.size A2 (byt plain)) (hb1 : ∀ c ∈ beside, c < 256) (hb2 : ∀ c ∈ plain, c < 256) (hl1 : beside.length ≤ 4200) (hl2 : plain.length ≤ 4200) :
  Calls Tryz.prog 32 #[.agg (vb k), .agg (vb nonce), .slice A1 beside.length c1, .slice A2 plain.length c2] w (Gives (sealL k nonce beside plain) w) := by
 obtain ⟨i0, hib, hz0, hz1, hz2⟩ := info_parts byteInfo
 have zf := zero_b32
 have zs1 : (vb (List.replicate 32 0)).size = 32 := by rfl
 have zs2 : ¬ vb (List.replicate 32 0) = #[] := by intro h; have := congrArg Array.size h; rw [zs1] at this; cases this
 have zt := zero_t16
 have zt1 : zT.size = 16 := by rfl
 have zt2 : ¬ zT = #[] := by intro h; have := congrArg Array.size h; rw [zt1] at this; cases this
 have HIK := Li (b32Sz hk)
 have HIN := Li (n12Sz hc)
 have HXC := Li (fun W (hW : Below w.heap.size w W) => rxor_c w.heap.size A2 c2 k nonce 1 plain W hk hkl (by decide) hc hcl (hr2.below hW) hW.size hb2 (by omega))
 have HBC := Li (fun W => rblock_c k 0 nonce W hk hkl (by decide) hc hcl)
 have HBL := Li (blkL_len k 0 nonce)
 have HBT := Li (blkL_lt k 0 nonce)
 have HXL := Li (xorL_len k nonce 1 plain)
 have HXT := Li (xorL_lt k nonce 1 hb2)
 have HSL := Li (show sealL k nonce beside plain = xorL k nonce 1 plain ++ polT ((blkL k 0 nonce).take 32) (taggedL beside (xorL k nonce 1 plain)) from rfl)
 have HR1 := Li hr1
 have HB1L := Li hb1
 have f1 : IntKind.u64.wrap (beside.length : Int) = (beside.length : Int) := by simp [IntKind.wrap, IntKind.signed, IntKind.bits]; omega
 have f2 : IntKind.u64.wrap (plain.length : Int) = (plain.length : Int) := by simp [IntKind.wrap, IntKind.signed, IntKind.bits]; omega
 clear hkl hcl hr1 hr2 hb1 hb2 hk hc
 generalize xorL k nonce 1 plain = un at *
 generalize blkL k 0 nonce = bl at *
 generalize sealL k nonce beside plain = res at *
 have hbx := Rbx.begin2 w k nonce
 go_enter Tryz.func32, Tryz.ntmps32
 go_upto_region 1 with (first
  | (refine Go.Great.wpList_boxTo rfl 44 (.tmp 0) rfl (some 4) rfl w.heap.size rfl (vb k) rfl ?_)
  | (refine Go.Great.wpList_boxTo rfl 56 (.tmp 1) rfl (some 5) rfl (w.heap.size + 1) (by simp) (vb nonce) rfl ?_))
 generalize (w.alloc (Obj.cells (vb k) 44)).alloc (Obj.cells (vb nonce) 56) = Z at *
 have HB := Li hbx
 clear hbx
 go_upto_region 3 with (first
  | (refine wpList_load_row rfl 44 (.tmp 4) rfl w.heap.size rfl 44 (vb k) (0, 0) _ (by first | exact HB.out.kA | exact HBX.out.kA) Tryz.underlying44 rfl HIK.out ?_)
  | (refine wpList_load_row rfl 56 (.tmp 5) rfl (w.heap.size + 1) rfl 56 (vb nonce) (0, 0) _ (by first | exact HB.out.nA | exact HBX.out.nA) Tryz.underlying56 rfl HIN.out ?_)
  | (go_at_call 52; (refine (HXC.out Z HB.out.bel).mono ?_); rintro e W1 ⟨v1, rfl, ho, hb⟩; have HO1 := Li (own_base_le ho HB.out.sz); have HBX := Li (HB.out.next (hb.mono HB.out.sz)); clear ho hb)
  | (go_at_call 53; (refine (HBC.out W1).mono ?_); rintro e W2 ⟨v2, rfl, ho, hb⟩; have HU2 := Li (OwnB.next HO1.out hb); have HW2 := Li (HBX.out.bel.trans (hb.mono HBX.out.bel.size)); have HSZ2 := Li (Nat.le_trans HBX.out.sz hb.size); obtain ⟨A10, c10, rfl, _, _, r10⟩ := ho.rd; obtain ⟨ad10, rfl, _, _⟩ := r10.byte (k := 0) (by rw [HBL.out]; decide); rw [HBL.out]; have HK10 := Li r10; clear ho hb r10))
 clear HB HBX HO1 HXC HBC HIK HIN
 have HR12 := Li (HR1.out.below HW2.out)
 clear HR1
 go_wp2_with fail
 go_loopw [12] (fun i wr => ∃ j : Nat, j ≤ 32 ∧ i = .int .i64 j ∧ Below W2.heap.size W2 wr ∧ Blk wr W2.heap.size 44 (vb (mapZ (fun i => bl.getD i 0) 32 j))) (fun i _ => 32 - (intOf i).toNat)
 case atStart => exact ⟨0, by omega, rfl, (jE _ _).alloc (jD _) _, by rw [mapZ_zero]; exact Blk.new W2 _ _⟩
 case round =>
  rename World => wr
  obtain ⟨j, hj, rfl, hb, hB⟩ := hrel
  have HB := Li hb
  have HBK := Li hB
  clear hb hB
  by_cases hlt : j < 32
  ·have p1 : (j : Int) < 32 := by omega
   have p2 : (j : Int) < 64 := by omega
   have e0 := rd_cell (HK10.out.below HB.out) j (by rw [HBL.out]; omega)
   have e1 := (HBK.out.cell j).trans (vb_at _ j (by rw [mapZ_len _ _ _ hj]; exact hlt))
   have e2 := HBK.out.free j
   have HZS := Li (mapZ_set (fun i => bl.getD i 0) 32 j hlt)
   have HBS := Li (HBK.out.set_ j (.int .u8 (bl.getD j 0 : Nat)))
   have hx := getD_lt HBT.out j
   generalize (mapZ (fun i => bl.getD i 0) 32 j).getD j 0 = old at *
   generalize bl.getD j 0 = x at *
   go_wp2_with fail
   go_roundw
   case rel => exact ⟨j + 1, by omega, by go_num, HB.out.setCell (by show W2.heap.size ≤ W2.heap.size; exact jD _) _, by have h := HBS.out; rw [vb_set, HZS.out] at h; exact h⟩
   case measure => simp only [intOf]; omega
  ·obtain rfl : j = 32 := by omega
   have hmz : mapZ (fun i => bl.getD i 0) 32 32 = bl.take 32 := by rw [mapZ_end, mapZ_getD _ _ (by rw [HBL.out]; decide)]
   rw [hmz] at HBK
   clear hmz hlt
   have HU := Li (OwnB.next HU2.out HB.out)
   have HR := Li (HR12.out.below (HB.out.mono (by have := HW2.out.size; omega)))
   have HW := Li (HW2.out.trans (HB.out.mono HW2.out.size))
   have HWS := Li (show w.heap.size + 1 + 1 ≤ wr.heap.size from Nat.le_trans HSZ2.out HB.out.size)
   have HK32 := Li (show (bl.take 32).length = 32 by rw [List.length_take, HBL.out]; rfl)
   have HKT := Li (show ∀ c ∈ bl.take 32, c < 256 from fun c hc => HBT.out c (List.mem_of_mem_take hc))
   generalize W2.heap.size = gK at *
   clear HU2 HR12 HW2 HB HK10 HBL HBT
   generalize wr = X at *
   generalize bl.take 32 = kk at *
   clear zf zs1 zs2
   obtain ⟨A7, c7, rfl, _, _, r7⟩ := HU.out.rd
   have HR7 := Li r7
   clear r7
   have HF1 := Li (show ∀ W, Calls Tryz.prog 54 #[.int .u64 (beside.length : Nat), .int .i64 8] W (Gives (form beside.length 8) W) from fun W => rform_c beside.length 8 W (by omega) (by decide))
   have HF2 := Li (show ∀ W, Calls Tryz.prog 54 #[.int .u64 (plain.length : Nat), .int .i64 8] W (Gives (form plain.length 8) W) from fun W => rform_c plain.length 8 W (by omega) (by decide))
   have hul : un.length ≤ 4200 := by rw [HXL.out]; exact hl2
   go_upto_region 9 with (at_builtin; go_loud (refine wpList_app _ rfl (.tmp 32) (.tmp 33) _ rfl X.heap.size 5 i0 (.int .u8 0) 1 1 Tryz.underlying23 hib hz0 hz1 hz2 rfl (by decide) (.slice (some ⟨X.heap.size, 0, none⟩) 0 0) 0 (byt []) rfl (by exact OwnB.new X _ [] (jD _) (by simp [maxLen])) _ A1 beside.length c1 (byt beside) rfl (by simp [byt_len]) (by exact HR.out.ext ((jE _ _).alloc (jD _) _)) (byt_one _) (by omega) (by omega) (by simp) ?_; intro v3 X3 hap; have HM := Li (show OwnB X3 X.heap.size v3 beside from OwnB.app (l := []) (by simpa using hap)); have HX3 := Li (show Below X.heap.size X X3 from ((jE _ _).alloc (jD _) _).trans ((hap.below (OwnB.new X _ [] (jD _) (by simp [maxLen])) (by simp)))); clear hap))
   go_loopw [13] (fun v wr => ∃ j : Nat, j ≤ padN beside.length ∧ OwnB wr X.heap.size v (beside ++ zs j) ∧ Below X.heap.size X wr) (fun v _ => match v with | .slice _ n _ => 20000 - n | _ => 0)
   case atStart => exact ⟨0, by omega, by simpa [zs] using HM.out, HX3.out⟩
   case round =>
    rename World => wr
    obtain ⟨j, hj, ho, hb⟩ := hrel
    obtain ⟨A5, c5, rfl, _, _, _⟩ := ho.rd
    obtain ⟨N, hN⟩ : ∃ N, N = (beside ++ zs j).length := ⟨_, rfl⟩
    rw [← hN] at ho ⊢
    have HO := Li ho
    have HB := Li hb
    have HNN := Li hN
    have hN2 : N = beside.length + j := by rw [hN]; simp [zs]
    have hpl := padN_lt beside.length
    obtain ⟨r, hr⟩ : ∃ r, r = N % 16 := ⟨_, rfl⟩
    have t1 : (N : Int) % 16 = (r : Int) := by omega
    have t2 : (N : Int).tmod 16 = (r : Int) := by rw [Int.tmod_eq_emod_of_nonneg (by omega)]; omega
    have HPS := Li (fun h => pad_step beside.length j h)
    have HPE := Li (pad_end beside.length)
    clear ho hb hN
    by_cases hlt : j < padN beside.length
    ·have hr0 : r ≠ 0 := by rw [hr, hN2]; exact HPS.out hlt
     have t3 : ((r : Int) != 0) = true := by rw [bne_iff_ne]; omega
     clear hr0 hr
     go_wp2_with (at_builtin; refine wpList_app _ rfl (.tmp 39) (.tmp 40) _ rfl X.heap.size 5 i0 (.int .u8 0) 1 1 Tryz.underlying23 hib hz0 hz1 hz2 rfl (by decide) _ _ _ rfl (HO.out.alloc _) _ _ 1 1 [.int .u8 (0 : Nat)] rfl rfl (by exact rd_one _ _ _) (byt_one [0]) (by have := HNN.out; omega) (by have := HNN.out; omega) (by have := HB.out.size; simp; omega) ?_; intro v5 w5 hap; have HOS := Li (OwnB.snoc hap); have HB5 := Li ((HB.out.alloc HB.out.size _).trans (hap.below (HO.out.alloc _) (by have := HB.out.size; simp; omega))); clear hap)
     obtain ⟨A6, c6, rfl, _, _, _⟩ := HOS.out.rd
     go_roundw
     case rel => exact ⟨j + 1, by omega, by rw [zs_snoc]; exact HOS.out, HB5.out⟩
     case measure => simp only [jC, List.length_cons, List.length_nil]; rw [← jC, ← HNN.out]; omega
    ·obtain rfl : j = padN beside.length := by omega
     have hr0 : r = 0 := by rw [hr, hN2]; exact HPE.out
     subst hr0
     clear hr hlt HPS HPE
     have t1 : (N : Int) % 16 = 0 := t1
     have t2 : (N : Int).tmod 16 = 0 := t2
     have hpb := padN_lt beside.length
     have HL1 := Li (show N = beside.length + padN beside.length from hN2)
     obtain ⟨L1, hL1⟩ : ∃ L1, L1 = beside ++ zs (padN beside.length) := ⟨_, rfl⟩
     have hL1n : L1.length = N := by rw [hL1]; exact HNN.out.symm
     have h160 : L1.length % 16 = 0 := by omega
     have HE1 := Li hL1
     have HO1 := Li (show OwnB wr X.heap.size (.slice A5 L1.length c5) L1 by rw [hL1n, hL1]; exact HO.out)
     rw [← hL1n] at t1 t2 ⊢
     have hL1b : L1.length ≤ 4300 := by omega
     clear HO hL1 hL1n HNN hpl hpb HL1 hN2 hj HM HX3
     have HX4 := Li HB.out
     generalize wr = X4 at *
     clear HB
     go_upto_region 12 with (at_builtin; go_loud (refine wpList_app _ rfl (.tmp 42) (.tmp 43) _ rfl X.heap.size 5 i0 (.int .u8 0) 1 1 Tryz.underlying23 hib hz0 hz1 hz2 rfl (by decide) (.slice A5 L1.length c5) L1.length (byt L1) rfl HO1.out X.heap.size A7 un.length c7 (byt un) rfl (by simp [byt_len]) (by exact HR7.out.below HX4.out) (byt_one _) (by omega) (by omega) HX4.out.size ?_; intro v6 X6 hap; have HM := Li (show OwnB X6 X.heap.size v6 (L1 ++ un) from OwnB.app hap); have HX3 := Li (HX4.out.trans (hap.below HO1.out HX4.out.size)); clear hap))
     have HPN := Li (show padN (L1 ++ un).length = padN un.length by rw [jC]; exact pad_more _ _ h160)
     obtain ⟨L2, hL2⟩ : ∃ L2, L2 = L1 ++ un := ⟨_, rfl⟩
     have hL2b : L2.length ≤ 8600 := by rw [hL2, jC]; omega
     rw [← hL2] at HM HPN
     have HE2 := Li hL2
     clear hL2 HO1 HX4 t1 t2 h160
     generalize hvv : Value.slice A5 L1.length c5 = vv at *
     clear hvv
     go_loopw [13] (fun v wr => ∃ j : Nat, j ≤ padN L2.length ∧ OwnB wr X.heap.size v (L2 ++ zs j) ∧ Below X.heap.size X wr) (fun v _ => match v with | .slice _ n _ => 20000 - n | _ => 0)
     case atStart => exact ⟨0, by omega, by simpa [zs] using HM.out, HX3.out⟩
     case round =>
      rename World => wr
      obtain ⟨j, hj, ho, hb⟩ := hrel
      obtain ⟨A5, c5, rfl, _, _, _⟩ := ho.rd
      obtain ⟨N, hN⟩ : ∃ N, N = (L2 ++ zs j).length := ⟨_, rfl⟩
      rw [← hN] at ho ⊢
      have HO := Li ho
      have HB := Li hb
      have HNN := Li hN
      have hN2 : N = L2.length + j := by rw [hN]; simp [zs]
      have hpl := padN_lt L2.length
      obtain ⟨r, hr⟩ : ∃ r, r = N % 16 := ⟨_, rfl⟩
      have t1 : (N : Int) % 16 = (r : Int) := by omega
      have t2 : (N : Int).tmod 16 = (r : Int) := by rw [Int.tmod_eq_emod_of_nonneg (by omega)]; omega
      have HPS := Li (fun h => pad_step L2.length j h)
      have HPE := Li (pad_end L2.length)
      clear ho hb hN
      by_cases hlt : j < padN L2.length
      ·have hr0 : r ≠ 0 := by rw [hr, hN2]; exact HPS.out hlt
       have t3 : ((r : Int) != 0) = true := by rw [bne_iff_ne]; omega
       clear hr0 hr
       go_wp2_with (at_builtin; refine wpList_app _ rfl (.tmp 49) (.tmp 50) _ rfl X.heap.size 5 i0 (.int .u8 0) 1 1 Tryz.underlying23 hib hz0 hz1 hz2 rfl (by decide) _ _ _ rfl (HO.out.alloc _) _ _ 1 1 [.int .u8 (0 : Nat)] rfl rfl (by exact rd_one _ _ _) (byt_one [0]) (by have := HNN.out; omega) (by have := HNN.out; omega) (by have := HB.out.size; simp; omega) ?_; intro v5 w5 hap; have HOS := Li (OwnB.snoc hap); have HB5 := Li ((HB.out.alloc HB.out.size _).trans (hap.below (HO.out.alloc _) (by have := HB.out.size; simp; omega))); clear hap)
       obtain ⟨A6, c6, rfl, _, _, _⟩ := HOS.out.rd
       go_roundw
       case rel => exact ⟨j + 1, by omega, by rw [zs_snoc]; exact HOS.out, HB5.out⟩
       case measure => simp only [jC, List.length_cons, List.length_nil]; rw [← jC, ← HNN.out]; omega
      ·obtain rfl : j = padN L2.length := by omega
       have hr0 : r = 0 := by rw [hr, hN2]; exact HPE.out
       subst hr0
       clear hr hlt HPS HPE
       have t1 : (N : Int) % 16 = 0 := t1
       have t2 : (N : Int).tmod 16 = 0 := t2
       have HPN2 := Li (show L2 ++ zs (padN L2.length) = L2 ++ zs (padN un.length) by rw [HPN.out])
       obtain ⟨L3, hL3⟩ : ∃ L3, L3 = L2 ++ zs (padN L2.length) := ⟨_, rfl⟩
       have HE3 := Li (show L3 = L2 ++ zs (padN un.length) by rw [hL3]; exact HPN2.out)
       have hL3n : L3.length = N := by rw [hL3]; exact HNN.out.symm
       have HO1 := Li (show OwnB wr X.heap.size (.slice A5 L3.length c5) L3 by rw [hL3n, hL3]; exact HO.out)
       rw [← hL3n] at t1 t2 ⊢
       have hL3b : L3.length ≤ 8700 := by omega
       clear HO hL3 hL3n HNN hpl hN2 hj HM HX3 HPN HPN2
       have HX4 := Li HB.out
       generalize wr = X4 at *
       clear HB
       go_upto_region 15 with (first
        | (go_at_call 54; (refine (HF1.out X4).mono ?_); rintro e W5 ⟨v5, rfl, ho, hb⟩; obtain ⟨A8, c8, rfl, _, _, r8⟩ := ho.rd; rw [form_len]; have HR8 := Li r8; have HO5 := Li (HO1.out.next hb); have HX5 := Li (HX4.out.trans (hb.mono HX4.out.size)); clear ho hb r8)
        | (at_builtin; go_loud (refine wpList_app _ rfl (.tmp 52) (.tmp 56) _ rfl X.heap.size 5 i0 (.int .u8 0) 1 1 Tryz.underlying23 hib hz0 hz1 hz2 rfl (by decide) (.slice A5 L3.length c5) L3.length (byt L3) rfl HO5.out W5.heap.size A8 8 c8 (byt (form beside.length 8)) rfl (by rw [byt_len, form_len]) HR8.out (byt_one _) (by omega) (by omega) HX5.out.size ?_; intro v6 X6 hap; have HM6 := Li (show OwnB X6 X.heap.size v6 (L3 ++ form beside.length 8) from OwnB.app (by rw [form_len]; exact hap)); have HX6 := Li (HX5.out.trans (hap.below HO5.out HX5.out.size)); clear hap)))
       clear HO1 HO5 HX5 HR8 HX4
       have HL4 := Li (show (L3 ++ form beside.length 8).length = L3.length + 8 by rw [jC, form_len])
       go_upto_region 16 with (first
        | (go_at_call 54; (refine (HF2.out X6).mono ?_); rintro e W5 ⟨v5, rfl, ho, hb⟩; obtain ⟨A8, c8, rfl, _, _, r8⟩ := ho.rd; rw [form_len]; have HR8 := Li r8; have HO5 := Li (HM6.out.next hb); have HX5 := Li (HX6.out.trans (hb.mono HX6.out.size)); clear ho hb r8)
        | (at_builtin; go_loud (refine wpList_app _ rfl (.tmp 58) (.tmp 62) _ rfl X.heap.size 5 i0 (.int .u8 0) 1 1 Tryz.underlying23 hib hz0 hz1 hz2 rfl (by decide) v6 (L3 ++ form beside.length 8).length (byt (L3 ++ form beside.length 8)) rfl HO5.out W5.heap.size A8 8 c8 (byt (form plain.length 8)) rfl (by rw [byt_len, form_len]) HR8.out (byt_one _) (by rw [HL4.out]; omega) (by rw [HL4.out]; omega) HX5.out.size ?_; intro v7 X7 hap; have HM7 := Li (show OwnB X7 X.heap.size v7 ((L3 ++ form beside.length 8) ++ form plain.length 8) from OwnB.app (by rw [form_len plain.length]; exact hap)); have HX7 := Li (HX5.out.trans (hap.below HO5.out HX5.out.size)); clear hap)))
       clear HO5 HX5 HR8 HM6 HX6
       have HTG := Li (show (L3 ++ form beside.length 8) ++ form plain.length 8 = taggedL beside un by rw [HE3.out, HE2.out, HE1.out, ← HXL.out]; simp only [taggedL, sizesL, List.append_assoc])
       rw [HTG.out] at HM7
       have HTL := Li (taggedL_lt HB1L.out HXT.out)
       have HTN := Li (taggedL_len beside un)
       generalize taggedL beside un = tg at *
       obtain ⟨A9, c9, rfl, hcc, hcm, r9⟩ := HM7.out.rd
       have HTC := Li (fun W (hW : Below X7.heap.size X7 W) => rtag_c kk tg A9 c9 W HK32.out HKT.out HTL.out ((r9.ext hW).more hW.size) (by have := HTN.out; omega) hcc hcm)
       have HBK7 := Li (HBK.out.below HX7.out HBK.out.lt)
       have HIK := Li (b32Sz HK32.out)
       have HTT := Li (t16Sz (polT_len kk tg))
       have HTZ := Li (show zT.size = (vb (polT kk tg)).size by rw [vb_size, polT_len]; rfl)
       have HPL := Li (polT_len kk tg)
       clear hcc hcm r9 HTG HTL HTN HE1 HE2 HE3 HL4 HF1 HF2
       generalize polT kk tg = tt at *
       go_upto_region 17 with (first
        | (refine wpList_load_row rfl 44 (.tmp 11) rfl gK rfl 44 (vb kk) (0, 0) _ HBK7.out Tryz.underlying44 rfl HIK.out ?_)
        | (go_at_call 55; (refine (HTC.out X7 (jE _ _)).mono ?_); rintro e W8 ⟨rfl, hb⟩; have HX8 := Li (HX7.out.trans (hb.mono HX7.out.size)); clear hb)
        | (refine wpList_store_rowTo rfl 117 (.tmp 14) (.tmp 66) rfl rfl W8.heap.size (vb tt) rfl rfl 117 zT (by exact Blk.new W8 _ _) HTT.out HTZ.out (vb_one _) ?_))
       have hnr := new_row W8 117 zT (vb tt)
       have HX9 := Li (HX8.out.trans (hnr.2.mono HX8.out.size))
       have HG := Li (rd_all hnr.1)
       generalize (W8.alloc (Obj.cells zT 117)).setRow W8.heap.size (vb tt) = W9 at *
       clear hnr
       have HU9 := Li (HU.out.next HX9.out)
       go_wp2_with (at_builtin; go_loud (refine wpList_app _ rfl (.tmp 67) (.tmp 68) _ rfl (w.heap.size + 1 + 1) 5 i0 (.int .u8 0) 1 1 Tryz.underlying23 hib hz0 hz1 hz2 rfl (by decide) _ un.length (byt un) rfl HU9.out _ (some ⟨W8.heap.size, 0, none⟩) 16 16 (byt tt) rfl (by rw [byt_len, HPL.out]) HG.out (byt_one _) (by omega) (by omega) (by have := HX9.out.size; have := HWS.out; omega) ?_; intro v5 w5 hap; have HO5 := Li (show OwnB w5 (w.heap.size + 1 + 1) v5 (un ++ tt) from OwnB.app (by rw [HPL.out]; exact hap)); have HB5 := Li ((HW.out.trans (HX9.out.mono HW.out.size)).trans ((hap.below HU9.out (by have := HX9.out.size; have := HWS.out; omega)).mono (by omega))); clear hap))
       refine bodyPost_ret (results_tmp rfl _ _ _) rfl ?_
       exact ⟨_, rfl, by rw [HSL.out]; exact own_base_le HO5.out (by omega), HB5.out⟩
def tailF (l : List Pc) : List Nat := ((grps l).map putL).flatten
def runAt (l : List Pc) (i : Nat) : Nat := run1 (l.getD i pc0).s (l.drop i)
theorem drop_getD {l : List Pc} {i : Nat} (h : i < l.length) : l.drop i = l.getD i pc0 :: l.drop (i + 1) := by
 rw [List.drop_eq_getElem_cons h]
 simp [jA, h]
theorem run1_atD {l : List Pc} {k : Nat} (s : ByteArray) (h : k < l.length) : run1 s (l.drop k) = if (l.getD k pc0).s = s then run1 s (l.drop (k + 1)) + 1 else 0 := by
 rw [drop_getD h]
 rfl
theorem run1_end {l : List Pc} {k : Nat} (s : ByteArray) (h : l.length ≤ k) : run1 s (l.drop k) = 0 := by rw [List.drop_of_length_le h]; rfl
theorem runAt_pos {l : List Pc} {i : Nat} (h : i < l.length) : 1 ≤ runAt l i ∧ i + runAt l i ≤ l.length := by
 unfold runAt
 have h1 := run1_atD (l.getD i pc0).s h
 rw [if_pos rfl] at h1
 have h2 := run1_le (l.getD i pc0).s (l.drop i)
 rw [List.length_drop] at h2
 omega
theorem grps_atD {l : List Pc} {i : Nat} (h : i < l.length) : grps (l.drop i) = (l.drop i).take (runAt l i) :: grps (l.drop (i + runAt l i)) := by
 unfold runAt
 have h1 := run1_atD (l.getD i pc0).s h
 rw [if_pos rfl] at h1
 rw [h1]
 rw [drop_getD h, grps_cons, List.take_succ_cons, List.drop_drop, show i + 1 + run1 (l.getD i pc0).s (l.drop (i + 1)) = i + (run1 (l.getD i pc0).s (l.drop (i + 1)) + 1) by omega]
def pT (l : List Pc) (i j : Nat) : Int := if j = i then 0 else (l.getD (j - 1) pc0).t
def pS1 (l : List Pc) (i j : Nat) : Int := if j = i then 0 else (l.getD (j - 1) pc0).t
def pS (l : List Pc) (i j : Nat) : Int := if j = i then 0 else if j = i + 1 then (l.getD i pc0).t else w64 ((l.getD (j - 1) pc0).t - (l.getD (j - 2) pc0).t)
def pVl (l : List Pc) (i j : Nat) : Int := if j = i then 0 else (l.getD (j - 1) pc0).v
def rowsAt (l : List Pc) (i j : Nat) : List Nat := rowsL (pT l i j) (pS l i j) (pVl l i j) (((l.drop i).take (runAt l i)).drop (j - i))
theorem tail_at {l : List Pc} {i : Nat} (h : i < l.length) : tailF (l.drop i) = ((sh (l.getD i pc0).s.size ++ sby (l.getD i pc0).s) ++ sh (runAt l i)) ++ (rowsAt l i i ++ tailF (l.drop (i + runAt l i))) := by
 have hr := runAt_pos h
 unfold tailF
 rw [grps_atD h, List.map_cons, List.flatten_cons]
 have hl : ((l.drop i).take (runAt l i)).length = runAt l i := by rw [List.length_take, List.length_drop]; omega
 have hg : (l.drop i).take (runAt l i) = l.getD i pc0 :: (l.drop (i + 1)).take (runAt l i - 1) := by
  rw [drop_getD h]
  obtain ⟨m, hm⟩ : ∃ m, runAt l i = m + 1 := ⟨runAt l i - 1, by omega⟩
  rw [hm, List.take_succ_cons]
  rfl
 unfold rowsAt pT pS pVl
 rw [Nat.sub_self, List.drop_zero, if_pos rfl, if_pos rfl, if_pos rfl]
 have hp : putL ((l.drop i).take (runAt l i)) = sh (l.getD i pc0).s.size ++ sby (l.getD i pc0).s ++ sh (runAt l i) ++ rowsL 0 0 0 ((l.drop i).take (runAt l i)) := by
  conv => lhs; rw [hg]
  unfold putL
  simp only
  rw [← hg, hl]
 rw [hp]
 simp only [List.append_assoc]
theorem rows_end (l : List Pc) (i : Nat) (h : i < l.length) : rowsAt l i (i + runAt l i) = [] := by
 unfold rowsAt
 have hr := runAt_pos h
 rw [List.drop_of_length_le (by rw [List.length_take, List.length_drop]; omega)]
 rfl
theorem rows_at {l : List Pc} {i j : Nat} (hl : ∀ p ∈ l, PcOk p) (h0 : i ≤ j) (h1 : j < i + runAt l i) (h2 : i + runAt l i ≤ l.length) :
  rowsAt l i j = (((sh (zig (w64 (w64 ((l.getD j pc0).t - pT l i j) - pS l i j))) ++ sh (zig (w64 ((l.getD j pc0).v - pVl l i j)))) ++ sh (l.getD j pc0).n) ++ form (l.getD j pc0).d 2) ++ rowsAt l i (j + 1) := by
 unfold rowsAt
 have hd : ((l.drop i).take (runAt l i)).drop (j - i) = l.getD j pc0 :: ((l.drop i).take (runAt l i)).drop (j + 1 - i) := by
  have hlt : j - i < ((l.drop i).take (runAt l i)).length := by rw [List.length_take, List.length_drop]; omega
  rw [List.drop_eq_getElem_cons hlt, show j - i + 1 = j + 1 - i by omega]
  congr 1
  rw [List.getElem_take, List.getElem_drop]
  simp only [show i + (j - i) = j by omega]
  simp [jA, show j < l.length by omega]
 rw [hd, rowsL]
 have e1 : pT l i (j + 1) = (l.getD j pc0).t := by unfold pT; rw [if_neg (by omega)]; rfl
 have e2 : pVl l i (j + 1) = (l.getD j pc0).v := by unfold pVl; rw [if_neg (by omega)]; rfl
 have e3 : pS l i (j + 1) = w64 ((l.getD j pc0).t - pT l i j) := by
  unfold pS pT
  rw [if_neg (by omega)]
  by_cases hji : j = i
  ·subst hji
   rw [if_pos rfl, if_pos rfl]
   have hm : l.getD j pc0 ∈ l := by simp [jA, show j < l.length by omega]
   have := hl _ hm
   rw [Int.sub_zero, w64_in _ this.t0 this.t1]
  ·rw [if_neg (by omega), if_neg hji, show j + 1 - 1 = j from rfl, show j + 1 - 2 = j - 1 from rfl]
 rw [e1, e2, e3]
theorem pT_bd {l : List Pc} {i j : Nat} (h : ∀ k, k < l.length → PcOk (l.getD k pc0)) (hj : j < l.length) : -9223372036854775808 ≤ pT l i j ∧ pT l i j ≤ 9223372036854775807 := by
 unfold pT
 split
 ·decide
 ·exact ⟨(h _ (by omega)).t0, (h _ (by omega)).t1⟩
theorem pV_bd {l : List Pc} {i j : Nat} (h : ∀ k, k < l.length → PcOk (l.getD k pc0)) (hj : j < l.length) : -9223372036854775808 ≤ pVl l i j ∧ pVl l i j ≤ 9223372036854775807 := by
 unfold pVl
 split
 ·decide
 ·exact ⟨(h _ (by omega)).v0, (h _ (by omega)).v1⟩
theorem pS_bd {l : List Pc} {i j : Nat} (h : ∀ k, k < l.length → PcOk (l.getD k pc0)) (hj : j < l.length) : -9223372036854775808 ≤ pS l i j ∧ pS l i j ≤ 9223372036854775807 := by
 unfold pS
 split
 ·decide
 ·split
  ·exact ⟨(h _ (by omega)).t0, (h _ (by omega)).t1⟩
  ·exact ⟨w64_lo _, w64_hi _⟩
theorem grps_len_le (l : List Pc) : (grps l).length ≤ l.length := by
 have hgn : ∀ l : List Pc, (grps l).length ≤ l.length := grps_ind (by rw [grps_nil]; exact jD _) fun p l ih => by
  rw [grps_cons, List.length_cons, List.length_cons]
  rw [List.length_drop] at ih
  omega
 exact hgn l
end Go.Proofs.YtfnhmnbcponkfaaGreatDoor
