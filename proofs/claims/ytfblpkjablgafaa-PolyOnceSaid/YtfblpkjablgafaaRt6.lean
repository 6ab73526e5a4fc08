/- The document's tag: the sum so far is added. -/
import Derived.Test.YtfblpkjablgafaaRt5
namespace Go.Proofs.Ytfblpkjablgafaa
open Go.RowKit
set_option linter.unusedVariables false
set_option linter.unusedSimpArgs false
structure SmAt (N0 H : List Nat) (i : Nat) (O : List Nat) : Prop where
  len : O.length = 11
  lt : ∀ j, O.getD j 0 < 16384
  up : ∀ j, i ≤ j → O.getD j 0 < 8192
  val : V13 O = V13 N0 + V13 (H.take i)
theorem SmAt.step {N0 H O : List Nat} {i : Nat} (h : SmAt N0 H i O) (hi : i < H.length) (h10 : H.length ≤ 10) (hh : H.getD i 0 < 8192) : SmAt N0 H (i + 1) (O.set i (O.getD i 0 + H.getD i 0)) := by
  have hl : i < O.length := by rw [h.len]; omega
  have hu := h.up i (Nat.le_refl _)
  refine ⟨by rw [List.length_set]; exact h.len, fun j => ?_, fun j hj => ?_, ?_⟩
  · rw [getD_set _ _ _ _ hl]
    split
    · omega
    · exact h.lt j
  · rw [getD_set _ _ _ _ hl, if_neg (by omega)]
    exact h.up j (by omega)
  · have h1 := V13_set O i (O.getD i 0 + H.getD i 0) hl
    have h2 := h.val
    rw [Nat.mul_add] at h1
    rw [V13_take H i hi]
    omega
set_option maxRecDepth 1000000 in
set_option maxHeartbeats 40000000 in
theorem tloop4 (Q : Exit → Act → World → Prop) (wq : World) (gh gn : Nat) (H N0 : List Nat) (c0 c1 c2 c3 c4 c5 c6 c7 c8 c10 c11 c14 c15 c16 c17 c18 c19 c20 c21 c22 c23 c24 c25 c26 c27 c28 c29 c30 c31 c32 c33 c34 c35 c36 c37 c38 c39 c40 c41 c42 c43 c44 c45 c46 c47 c48 c49 c50 c51 c52 c53 c54 c55 c56 c57 c58 c59 c60 c61 c62 c63 c64 c65 c66 c67 c68 c69 c70 c71 c72 c73 c74 c75 c76 c77 c78 c79 c80 c81 c82 c83 c84 c85 c86 c87 c88 c89 c90 c91 c92 c93 c94 c95 c96 c97 c98 c99 c100 c101 c102 c103 c104 c105 c106 c107 c108 c109 c110 c111 c112 c113 c114 c115 c116 c117 c118 c119 c120 c121 c122 c123 c124 c125 c126 c127 c128 c129 c130 c131 c132 c133 c134 c135 c136 c137 c138 c139 c140 c141 c142 c143 c144 c145 c146 c147 c148 c149 c150 c151 c152 c153 c154 c155 c156 c157 c158 c159 c160 c161 c162 c163 c164 c165 c166 c167 c168 c169 c170 c171 c172 c173 c174 c175 c176 c177 c178 c179 c180 c181 c182 c183 c184 c185 c186 c187 c188 c189 c190 : Value)
    (hne : gh ≠ gn) (HH : Hid (Blk wq gh 42 (vq H))) (HN : Hid (Blk wq gn 42 (vq N0))) (hl : H.length = 10) (nl : N0.length = 11) (HHB : Hid (∀ j, H.getD j 0 < 8192)) (HNB : Hid (∀ j, N0.getD j 0 < 8192))
    (hexit : ∀ (u13 u73 u74 u75 u76 u77 u78 u79 u80 u81 u82 u83 u84 u85 u86 u87 u88 : Value) (O : List Nat) (ws : World), SmAt N0 H 10 O → Blk ws gn 42 (vq O) → wq.grownBy ws (some gn) → Q (.exit 4) ⟨(c0 :: c1 :: c2 :: c3 :: c4 :: c5 :: c6 :: c7 :: c8 :: (.slice (some ⟨gh, 0, none⟩) 10 10) :: c10 :: c11 :: (.slice (some ⟨gn, 0, none⟩) 11 11) :: u13 :: c14 :: c15 :: c16 :: c17 :: c18 :: c19 :: c20 :: c21 :: c22 :: c23 :: c24 :: c25 :: c26 :: c27 :: c28 :: c29 :: c30 :: c31 :: c32 :: c33 :: c34 :: c35 :: c36 :: c37 :: c38 :: c39 :: c40 :: c41 :: c42 :: c43 :: c44 :: c45 :: c46 :: c47 :: c48 :: c49 :: c50 :: c51 :: c52 :: c53 :: c54 :: c55 :: c56 :: c57 :: c58 :: c59 :: c60 :: c61 :: c62 :: c63 :: c64 :: c65 :: c66 :: c67 :: c68 :: c69 :: c70 :: c71 :: c72 :: u73 :: u74 :: u75 :: u76 :: u77 :: u78 :: u79 :: u80 :: u81 :: u82 :: u83 :: u84 :: u85 :: u86 :: u87 :: u88 :: c89 :: c90 :: c91 :: c92 :: c93 :: c94 :: c95 :: c96 :: c97 :: c98 :: c99 :: c100 :: c101 :: c102 :: c103 :: c104 :: c105 :: c106 :: c107 :: c108 :: c109 :: c110 :: c111 :: c112 :: c113 :: c114 :: c115 :: c116 :: c117 :: c118 :: c119 :: c120 :: c121 :: c122 :: c123 :: c124 :: c125 :: c126 :: c127 :: c128 :: c129 :: c130 :: c131 :: c132 :: c133 :: c134 :: c135 :: c136 :: c137 :: c138 :: c139 :: c140 :: c141 :: c142 :: c143 :: c144 :: c145 :: c146 :: c147 :: c148 :: c149 :: c150 :: c151 :: c152 :: c153 :: c154 :: c155 :: c156 :: c157 :: c158 :: c159 :: c160 :: c161 :: c162 :: c163 :: c164 :: c165 :: c166 :: c167 :: c168 :: c169 :: c170 :: c171 :: c172 :: c173 :: c174 :: c175 :: c176 :: c177 :: c178 :: c179 :: c180 :: c181 :: c182 :: c183 :: c184 :: c185 :: c186 :: c187 :: c188 :: c189 :: c190 :: []).toArray, []⟩ ws) :
    Code.wp Try.prog (tgl 4) Q ⟨(c0 :: c1 :: c2 :: c3 :: c4 :: c5 :: c6 :: c7 :: c8 :: (.slice (some ⟨gh, 0, none⟩) 10 10) :: c10 :: c11 :: (.slice (some ⟨gn, 0, none⟩) 11 11) :: (.int .i64 0) :: c14 :: c15 :: c16 :: c17 :: c18 :: c19 :: c20 :: c21 :: c22 :: c23 :: c24 :: c25 :: c26 :: c27 :: c28 :: c29 :: c30 :: c31 :: c32 :: c33 :: c34 :: c35 :: c36 :: c37 :: c38 :: c39 :: c40 :: c41 :: c42 :: c43 :: c44 :: c45 :: c46 :: c47 :: c48 :: c49 :: c50 :: c51 :: c52 :: c53 :: c54 :: c55 :: c56 :: c57 :: c58 :: c59 :: c60 :: c61 :: c62 :: c63 :: c64 :: c65 :: c66 :: c67 :: c68 :: c69 :: c70 :: c71 :: c72 :: c73 :: c74 :: c75 :: c76 :: c77 :: c78 :: c79 :: c80 :: c81 :: c82 :: c83 :: c84 :: c85 :: c86 :: c87 :: c88 :: c89 :: c90 :: c91 :: c92 :: c93 :: c94 :: c95 :: c96 :: c97 :: c98 :: c99 :: c100 :: c101 :: c102 :: c103 :: c104 :: c105 :: c106 :: c107 :: c108 :: c109 :: c110 :: c111 :: c112 :: c113 :: c114 :: c115 :: c116 :: c117 :: c118 :: c119 :: c120 :: c121 :: c122 :: c123 :: c124 :: c125 :: c126 :: c127 :: c128 :: c129 :: c130 :: c131 :: c132 :: c133 :: c134 :: c135 :: c136 :: c137 :: c138 :: c139 :: c140 :: c141 :: c142 :: c143 :: c144 :: c145 :: c146 :: c147 :: c148 :: c149 :: c150 :: c151 :: c152 :: c153 :: c154 :: c155 :: c156 :: c157 :: c158 :: c159 :: c160 :: c161 :: c162 :: c163 :: c164 :: c165 :: c166 :: c167 :: c168 :: c169 :: c170 :: c171 :: c172 :: c173 :: c174 :: c175 :: c176 :: c177 :: c178 :: c179 :: c180 :: c181 :: c182 :: c183 :: c184 :: c185 :: c186 :: c187 :: c188 :: c189 :: c190 :: []).toArray, []⟩ wq := by
  conv => arg 2; whnf
  go_loopw [13] (fun i wr => ∃ (n : Nat) (O : List Nat), n ≤ 10 ∧ i = .int .i64 (n : Int) ∧ SmAt N0 H n O ∧ Blk wr gn 42 (vq O) ∧ wq.grownBy wr (some gn)) (fun i _ => 10 - (intOf i).toNat)
  case atStart => exact ⟨0, N0, by omega, rfl, ⟨nl, fun j => by have := HNB.out j; omega, fun j _ => HNB.out j, by rw [List.take_zero]; rfl⟩, HN.out, g1_refl _ _⟩
  case round =>
    rename World => wr
    obtain ⟨i, O, hi, rfl, hsm, hat, hgr⟩ := hrel
    have SM := Lib.hid hsm
    have AT := Lib.hid hat
    have GR := Lib.hid hgr
    clear hsm hat hgr
    by_cases hlt : i < 10
    · have p1 : (i : Int) < 10 := by omega
      have p2 : (i : Int) < 11 := by omega
      have d0 := (AT.out.cell i).trans (vq_at O i (by rw [SM.out.len]; omega))
      have e0 := AT.out.free i
      have d1 := ((g1_blk GR.out HH.out hne).cell i).trans (vq_at H i (by omega))
      have HE := Lib.hid (SM.out.step (by omega) (by omega) (HHB.out i))
      have b1 := HHB.out i
      have b2 := SM.out.lt i
      have HS := Lib.hid (show ∀ v : Nat, Blk (wr.setCell ⟨gn, i, none⟩ (.int .u64 (v : Int))).drew gn 42 (vq (O.set i v)) ∧ wq.grownBy (wr.setCell ⟨gn, i, none⟩ (.int .u64 (v : Int))).drew (some gn) from fun v => ⟨by rw [← vq_set]; exact AT.out.set_ _ _, g1_drew (g1_set GR.out _ _)⟩)
      have f1 : IntKind.u64.wrap (((O.getD i 0 : Nat) : Int) + ((H.getD i 0 : Nat) : Int)) = ((O.getD i 0 + H.getD i 0 : Nat) : Int) := by rw [← Int.natCast_add, wrap_lt _ (by omega)]
      obtain ⟨v, hv⟩ : ∃ v, v = O.getD i 0 + H.getD i 0 := ⟨_, rfl⟩
      rw [← hv] at f1 HE
      clear hv b1 b2
      generalize O.getD i 0 = o at *
      generalize H.getD i 0 = h at *
      go_wp2_with fail
      go_still_tail 12, (by kernel_rfl)
      go_wp2_with fail
      exact ⟨⟨i + 1, _, by omega, by go_num, HE.out, HS.out v⟩, by simp only [intOf]; omega⟩
    · obtain rfl : i = 10 := by omega
      go_wp2_with fail
      exact hexit _ _ _ _ _ _ _ _ _ _ _ _ _ _ _ _ _ _ _ SM.out AT.out GR.out
end Go.Proofs.Ytfblpkjablgafaa
