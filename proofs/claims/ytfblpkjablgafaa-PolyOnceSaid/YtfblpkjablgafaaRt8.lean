/- The document's tag: its bytes. -/
import Derived.Test.YtfblpkjablgafaaRt7
namespace Go.Proofs.Ytfblpkjablgafaa
open Go.RowKit
set_option linter.unusedVariables false
set_option linter.unusedSimpArgs false
theorem V13_digit : ∀ (l : List Nat) (j : Nat), (∀ i, l.getD i 0 < 8192) → V13 l / 8192 ^ j % 8192 = l.getD j 0
  | [], j, _ => by simp [V13]
  | c :: l, 0, h => by
    have := h 0
    simp only [V13, List.getD_cons_zero, Nat.pow_zero, Nat.div_one] at *
    omega
  | c :: l, j + 1, h => by
    have h0 := h 0
    have ih := V13_digit l j (fun i => by have := h (i + 1); simpa using this)
    rw [V13, List.getD_cons_succ, ← ih, Nat.pow_succ', ← Nat.div_div_eq_div_mul]
    congr 2
    simp only [List.getD_cons_zero] at h0
    omega
theorem bit13 (x m : Nat) (hm : m < 13) : x % 8192 / 2 ^ m % 2 = x / 2 ^ m % 2 := by
  have : m = 0 ∨ m = 1 ∨ m = 2 ∨ m = 3 ∨ m = 4 ∨ m = 5 ∨ m = 6 ∨ m = 7 ∨ m = 8 ∨ m = 9 ∨ m = 10 ∨ m = 11 ∨ m = 12 := by omega
  rcases this with rfl | rfl | rfl | rfl | rfl | rfl | rfl | rfl | rfl | rfl | rfl | rfl | rfl <;> omega
theorem bit_of (L : List Nat) (h : ∀ i, L.getD i 0 < 8192) (a : Nat) : L.getD (a / 13) 0 / 2 ^ (a % 13) % 2 = V13 L / 2 ^ a % 2 := by
  rw [← V13_digit L (a / 13) h, bit13 _ _ (Nat.mod_lt _ (by decide)), pow13, Nat.div_div_eq_div_mul, ← Nat.pow_add, show 13 * (a / 13) + a % 13 = a by omega]
structure OtAt (S i : Nat) (O : List Nat) : Prop where
  len : O.length = 16
  at_ : ∀ j, j < i → O.getD j 0 = S / 256 ^ j % 256
theorem OtAt.step {S i v : Nat} {O : List Nat} (h : OtAt S i O) (hi : i < 16) (hv : v = S / 256 ^ i % 256) : OtAt S (i + 1) (O.set i v) :=
  ⟨by rw [List.length_set]; exact h.len, fun j hj => by
    rw [getD_set _ _ _ _ (by rw [h.len]; exact hi)]
    split
    · subst_vars; rfl
    · exact h.at_ j (by omega)⟩
theorem OtAt.all {S : Nat} {O : List Nat} (h : OtAt S 16 O) : O = form S 16 :=
  list_ext (by rw [h.len, form_len]) fun j hj => by rw [h.len] at hj; rw [h.at_ j hj, form_at 16 S j hj]
theorem key_at (k : List Nat) (hk : k.length = 32) (hl : ∀ c ∈ k, c < 256) (i : Nat) (hi : i < 16) : k.getD (16 + i) 0 = number (k.drop 16) / 256 ^ i % 256 := by
  have h := byte_of (k.drop 16) (fun c hc => hl c (List.mem_of_mem_drop hc)) i (by rw [List.length_drop, hk]; omega)
  rw [← h, List.getD_eq_getElem?_getD, List.getD_eq_getElem?_getD, List.getElem?_drop]
set_option maxRecDepth 1000000 in
set_option maxHeartbeats 40000000 in
theorem tloop10 (Q : Exit → Act → World → Prop) (wq : World) (kb gl go : Nat) (k L O0 : List Nat) (c0 c1 c3 c4 c5 c6 c7 c8 c10 c11 c12 c13 c14 c15 c16 c17 c21 c22 c23 c24 c25 c26 c27 c28 c29 c30 c31 c32 c33 c34 c35 c36 c37 c38 c39 c40 c41 c42 c43 c44 c45 c46 c47 c48 c49 c50 c51 c52 c53 c54 c55 c56 c57 c58 c59 c60 c61 c62 c63 c64 c65 c66 c67 c68 c69 c70 c71 c72 c73 c74 c75 c76 c77 c78 c79 c80 c81 c82 c83 c84 c85 c86 c87 c88 c89 c90 c91 c92 c93 c94 c95 c96 c97 c98 c99 c100 c101 c102 c103 c104 c105 c106 c107 c108 c109 c110 c111 c112 c113 c114 c115 c116 c117 c118 c119 c120 c121 c122 c123 c124 c125 c126 c127 c128 c129 c130 c131 c132 c133 c134 c135 c136 c137 c138 c139 c140 c141 c142 c143 c144 c145 c146 c147 c148 c149 c150 c151 c152 c153 c154 c155 c156 c157 c158 c159 c160 c161 c162 c163 c164 c165 c166 c167 c168 c169 c170 c171 c172 c173 c174 c175 c176 c177 c178 c179 c180 c181 c182 c183 c184 c185 c186 c187 c188 c189 c190 : Value)
    (hne : kb ≠ go) (hne2 : gl ≠ go) (HK : Hid (Blk wq kb 22 (vb k))) (HG : Hid (Blk wq gl 42 (vq L))) (HO : Hid (Blk wq go 28 (vb O0))) (hk : k.length = 32) (HKL : Hid (∀ c ∈ k, c < 256)) (hl : L.length = 10) (ol : O0.length = 16) (HLB : Hid (∀ j, L.getD j 0 < 8192))
    (hexit : ∀ (u19 u20 u21 u22 u23 u147 u148 u149 u150 u151 u152 u153 u154 u155 u156 u157 u158 u159 u160 u161 u162 u163 u164 u165 u166 u167 u168 u169 u170 u171 u172 u173 u174 u175 u176 u177 u178 u179 u180 u181 u182 u183 u184 u185 u186 u187 u188 u189 : Value) (ws : World), Blk ws go 28 (vb (form (V13 L + number (k.drop 16)) 16)) → wq.grownBy ws (some go) → Q (.exit 10) ⟨(c0 :: c1 :: (.pointer (some ⟨kb, 0, none⟩)) :: c3 :: c4 :: c5 :: c6 :: c7 :: c8 :: (.slice (some ⟨gl, 0, none⟩) 10 10) :: c10 :: c11 :: c12 :: c13 :: c14 :: c15 :: c16 :: c17 :: (.pointer (some ⟨go, 0, none⟩)) :: u19 :: u20 :: u21 :: u22 :: u23 :: c24 :: c25 :: c26 :: c27 :: c28 :: c29 :: c30 :: c31 :: c32 :: c33 :: c34 :: c35 :: c36 :: c37 :: c38 :: c39 :: c40 :: c41 :: c42 :: c43 :: c44 :: c45 :: c46 :: c47 :: c48 :: c49 :: c50 :: c51 :: c52 :: c53 :: c54 :: c55 :: c56 :: c57 :: c58 :: c59 :: c60 :: c61 :: c62 :: c63 :: c64 :: c65 :: c66 :: c67 :: c68 :: c69 :: c70 :: c71 :: c72 :: c73 :: c74 :: c75 :: c76 :: c77 :: c78 :: c79 :: c80 :: c81 :: c82 :: c83 :: c84 :: c85 :: c86 :: c87 :: c88 :: c89 :: c90 :: c91 :: c92 :: c93 :: c94 :: c95 :: c96 :: c97 :: c98 :: c99 :: c100 :: c101 :: c102 :: c103 :: c104 :: c105 :: c106 :: c107 :: c108 :: c109 :: c110 :: c111 :: c112 :: c113 :: c114 :: c115 :: c116 :: c117 :: c118 :: c119 :: c120 :: c121 :: c122 :: c123 :: c124 :: c125 :: c126 :: c127 :: c128 :: c129 :: c130 :: c131 :: c132 :: c133 :: c134 :: c135 :: c136 :: c137 :: c138 :: c139 :: c140 :: c141 :: c142 :: c143 :: c144 :: c145 :: c146 :: u147 :: u148 :: u149 :: u150 :: u151 :: u152 :: u153 :: u154 :: u155 :: u156 :: u157 :: u158 :: u159 :: u160 :: u161 :: u162 :: u163 :: u164 :: u165 :: u166 :: u167 :: u168 :: u169 :: u170 :: u171 :: u172 :: u173 :: u174 :: u175 :: u176 :: u177 :: u178 :: u179 :: u180 :: u181 :: u182 :: u183 :: u184 :: u185 :: u186 :: u187 :: u188 :: u189 :: c190 :: []).toArray, []⟩ ws) :
    Code.wp Try.prog (tgl 10) Q ⟨(c0 :: c1 :: (.pointer (some ⟨kb, 0, none⟩)) :: c3 :: c4 :: c5 :: c6 :: c7 :: c8 :: (.slice (some ⟨gl, 0, none⟩) 10 10) :: c10 :: c11 :: c12 :: c13 :: c14 :: c15 :: c16 :: c17 :: (.pointer (some ⟨go, 0, none⟩)) :: (.int .u64 0) :: (.int .i64 0) :: c21 :: c22 :: c23 :: c24 :: c25 :: c26 :: c27 :: c28 :: c29 :: c30 :: c31 :: c32 :: c33 :: c34 :: c35 :: c36 :: c37 :: c38 :: c39 :: c40 :: c41 :: c42 :: c43 :: c44 :: c45 :: c46 :: c47 :: c48 :: c49 :: c50 :: c51 :: c52 :: c53 :: c54 :: c55 :: c56 :: c57 :: c58 :: c59 :: c60 :: c61 :: c62 :: c63 :: c64 :: c65 :: c66 :: c67 :: c68 :: c69 :: c70 :: c71 :: c72 :: c73 :: c74 :: c75 :: c76 :: c77 :: c78 :: c79 :: c80 :: c81 :: c82 :: c83 :: c84 :: c85 :: c86 :: c87 :: c88 :: c89 :: c90 :: c91 :: c92 :: c93 :: c94 :: c95 :: c96 :: c97 :: c98 :: c99 :: c100 :: c101 :: c102 :: c103 :: c104 :: c105 :: c106 :: c107 :: c108 :: c109 :: c110 :: c111 :: c112 :: c113 :: c114 :: c115 :: c116 :: c117 :: c118 :: c119 :: c120 :: c121 :: c122 :: c123 :: c124 :: c125 :: c126 :: c127 :: c128 :: c129 :: c130 :: c131 :: c132 :: c133 :: c134 :: c135 :: c136 :: c137 :: c138 :: c139 :: c140 :: c141 :: c142 :: c143 :: c144 :: c145 :: c146 :: c147 :: c148 :: c149 :: c150 :: c151 :: c152 :: c153 :: c154 :: c155 :: c156 :: c157 :: c158 :: c159 :: c160 :: c161 :: c162 :: c163 :: c164 :: c165 :: c166 :: c167 :: c168 :: c169 :: c170 :: c171 :: c172 :: c173 :: c174 :: c175 :: c176 :: c177 :: c178 :: c179 :: c180 :: c181 :: c182 :: c183 :: c184 :: c185 :: c186 :: c187 :: c188 :: c189 :: c190 :: []).toArray, []⟩ wq := by
  conv => arg 2; whnf
  obtain ⟨V, hV⟩ : ∃ V, V = V13 L := ⟨_, rfl⟩
  obtain ⟨K, hK⟩ : ∃ K, K = number (k.drop 16) := ⟨_, rfl⟩
  rw [← hV, ← hK] at hexit
  have HKA := Lib.hid (fun i hi => key_at k hk HKL.out i hi)
  rw [← hK] at HKA
  have HBO := Lib.hid (fun a => bit_of L HLB.out a)
  rw [← hV] at HBO
  clear hV hK
  go_loopw [19, 20] (fun c i wr => ∃ (n cc : Nat) (O : List Nat), n ≤ 16 ∧ i = .int .i64 (n : Int) ∧ c = .int .u64 (cc : Int) ∧ cc = pcy V K n ∧ OtAt (V + K) n O ∧ Blk wr go 28 (vb O) ∧ wq.grownBy wr (some go)) (fun _ i _ => 16 - (intOf i).toNat)
  case atStart => exact ⟨0, 0, O0, by omega, rfl, rfl, rfl, ⟨ol, fun j hj => by omega⟩, HO.out, g1_refl _ _⟩
  case round =>
    rename World => wr
    obtain ⟨i, cc, O, hi, rfl, rfl, hcc, hot, hat, hgr⟩ := hrel
    have HCC := Lib.hid hcc
    have OT := Lib.hid hot
    have AT := Lib.hid hat
    have GR := Lib.hid hgr
    have hc1 := pcy_le V K i
    rw [← hcc] at hc1
    clear hcc hot hat hgr
    by_cases hlt : i < 16
    · have p1 : (i : Int) < 16 := by omega
      go_wp2_with fail
      obtain ⟨wo, hwo⟩ : ∃ wo : World, wo = wr := ⟨_, rfl⟩
      rw [← hwo] at AT GR ⊢
      clear hwo
      go_loopw [21, 22] (fun n k ws => ∃ (x t q : Nat), x ≤ 8 ∧ k = .int .i64 (x : Int) ∧ n = .int .u64 (t : Int) ∧ t = V / 256 ^ i % 2 ^ x ∧ ws = wo.drewN q) (fun _ k _ => 8 - (intOf k).toNat)
      case atStart => exact ⟨0, 0, 0, by omega, rfl, rfl, by rw [Nat.pow_zero, Nat.mod_one], rfl⟩
      case round =>
        rename World => wx
        obtain ⟨x, t, q, hx, rfl, rfl, ht, hwx⟩ := hrel
        have HWX := Lib.hid hwx
        clear hwx
        have ht8 : t < 2 ^ x := by rw [ht]; exact Nat.mod_lt _ (Nat.two_pow_pos _)
        have HTT := Lib.hid ht
        clear ht
        by_cases hlx : x < 8
        · obtain ⟨a, ha⟩ : ∃ a, a = 8 * i + x := ⟨_, rfl⟩
          obtain ⟨d, hd⟩ : ∃ d, d = a / 13 := ⟨_, rfl⟩
          obtain ⟨m, hm⟩ : ∃ m, m = a % 13 := ⟨_, rfl⟩
          have p2 : (x : Int) < 8 := by omega
          have ea : 8 * (i : Int) + (x : Int) = (a : Int) := by omega
          have g1 : IntKind.i64.wrap ((a : Int) / 13) = (d : Int) := by rw [IntWalk.i64_in _ (by omega)]; omega
          have g2 : (a : Int).tmod 13 = (m : Int) := by rw [Int.tmod_eq_emod_of_nonneg (by omega)]; omega
          have hd2 : (d : Int) < 10 := by omega
          have hm64 : (m : Int) < 64 := by omega
          have h3 := shl1 m (by omega)
          have h4 := shl1 x (by omega)
          obtain ⟨sm, hsm⟩ : ∃ s, s = 2 ^ m := ⟨_, rfl⟩
          obtain ⟨sx, hsx⟩ : ∃ s, s = 2 ^ x := ⟨_, rfl⟩
          rw [← hsm] at h3
          rw [← hsx] at h4 ht8
          have d0 := ((g1_blk GR.out HG.out hne2).cell d).trans (vq_at L d (by omega))
          have hld := HLB.out d
          obtain ⟨b, hb⟩ : ∃ b, b = L.getD d 0 / sm % 2 := ⟨_, rfl⟩
          have hb2 : b ≤ 1 := by omega
          have hsm0 : 0 < sm := by rw [hsm]; exact Nat.two_pow_pos _
          have hsx8 : sx ≤ 128 := by rw [hsx]; exact Nat.pow_le_pow_right (show 0 < 2 by decide) (show x ≤ 7 by omega)
          have HB := Lib.hid (show b = V / 256 ^ i / 2 ^ x % 2 by
            rw [hb, hsm, hm, hd, HBO.out a, ha, Nat.pow_add, Nat.pow_mul, ← Nat.div_div_eq_div_mul])
          have f3 : IntKind.u64.wrap (((L.getD d 0 : Nat) : Int) / (sm : Int)) = ((L.getD d 0 / sm : Nat) : Int) := by rw [ediv_nat, wrap_lt _ (Nat.lt_of_le_of_lt (Nat.div_le_self _ _) (by omega))]
          have f4 : (((L.getD d 0 / sm : Nat) : Int)).tmod 2 = (b : Int) := by rw [tmod2, ← hb]
          have hbs : b * sx ≤ 128 := Nat.le_trans (Nat.mul_le_mul hb2 hsx8) (by decide)
          have f5 : IntKind.u64.wrap ((b : Int) * (sx : Int)) = ((b * sx : Nat) : Int) := by rw [← Int.natCast_mul, wrap_lt _ (by omega)]
          have f6 : IntKind.u64.wrap ((t : Int) + ((b * sx : Nat) : Int)) = ((t + b * sx : Nat) : Int) := by rw [← Int.natCast_add, wrap_lt _ (by omega)]
          have HT2 := Lib.hid (show t + b * sx = V / 256 ^ i % 2 ^ (x + 1) by rw [mod_bit, ← HTT.out, ← HB.out, ← hsx, Nat.mul_comm])
          obtain ⟨t2, ht2⟩ : ∃ t2, t2 = t + b * sx := ⟨_, rfl⟩
          rw [← ht2] at f6 HT2
          have hsz : ¬ (sm : Int) = 0 := by omega
          have hsb : ((sm : Int) == 0) = false := by simpa using hsz
          have d1 : wx.cell? ⟨gl, d, none⟩ = some (.int .u64 (L.getD d 0 : Nat)) := by rw [HWX.out]; exact d0
          clear ht2 hd hm ha hsm hsx hb hbs d0
          generalize b * sx = bs at *
          generalize L.getD d 0 / sm = e at *
          generalize L.getD d 0 = ld at *
          go_wp2_with fail
          go_quiet (fail)
          go_wp2_with fail
          exact ⟨⟨x + 1, t2, _, by omega, by go_num, rfl, HT2.out, by rw [HWX.out]; exact World.drewN_drewN ..⟩, by simp only [intOf]; omega⟩
        · obtain rfl : x = 8 := by omega
          have hkb := HKA.out i hlt
          have d0 := ((g1_blk GR.out HK.out hne).cell (16 + i)).trans (vb_at k (16 + i) (by omega))
          have d1 := (AT.out.cell i).trans (vb_at O i (by rw [OT.out.len]; exact hlt))
          have e1 := AT.out.free i
          have hkl := getD_lt HKL.out (16 + i)
          obtain ⟨y, hy⟩ : ∃ y, y = 16 + i := ⟨_, rfl⟩
          have ey : 16 + (i : Int) = (y : Int) := by omega
          have hy32 : (y : Int) < 32 := by omega
          rw [← hy] at d0 hkl hkb
          have ht2 : t < 256 := ht8
          have f1 : IntKind.u64.wrap ((cc : Int) + (t : Int)) = ((cc + t : Nat) : Int) := by rw [← Int.natCast_add, wrap_lt _ (by omega)]
          have f2 := wrap_lt (k.getD y 0) (by omega)
          have f3 : IntKind.u64.wrap (((cc + t : Nat) : Int) + ((k.getD y 0 : Nat) : Int)) = ((cc + t + k.getD y 0 : Nat) : Int) := by rw [← Int.natCast_add, wrap_lt _ (by omega)]
          obtain ⟨z, hz⟩ : ∃ z, z = cc + t + k.getD y 0 := ⟨_, rfl⟩
          have hzb : z < 600 := by omega
          have HZ := Lib.hid (show z = pcy V K i + V / 256 ^ i % 256 + K / 256 ^ i % 256 by rw [hz, hkb, HCC.out, HTT.out])
          rw [← hz] at f3
          obtain ⟨v, hv⟩ : ∃ v, v = z % 256 := ⟨_, rfl⟩
          obtain ⟨c2, hc2⟩ : ∃ c2, c2 = z / 256 := ⟨_, rfl⟩
          have HO2 := Lib.hid (OT.out.step hlt (show v = (V + K) / 256 ^ i % 256 by rw [hv, HZ.out]; exact pcy_byte V K i))
          have HC2 := Lib.hid (show c2 = pcy V K (i + 1) by rw [hc2, HZ.out]; rfl)
          have f4 : (z : Int) % 256 = (v : Int) := by omega
          have f5 : (z : Int) / 256 = (c2 : Int) := by omega
          have f6 : (v : Int) % 256 = (v : Int) := by omega
          have HS := Lib.hid (show ∀ q, Blk ((wo.drewN q).setCell ⟨go, i, none⟩ (.int .u8 (v : Int))) go 28 (vb (O.set i v)) ∧ wq.grownBy ((wo.drewN q).setCell ⟨go, i, none⟩ (.int .u8 (v : Int))) (some go) from fun q => ⟨by rw [← vb_set]; exact Blk.set_ (show Blk (wo.drewN q) _ _ _ from AT.out) _ _, g1_set (show wq.grownBy (wo.drewN q) (some go) from ⟨GR.out.os, GR.out.tape, GR.out.output, GR.out.size, GR.out.block⟩) _ _⟩)
          have d2 : wx.cell? ⟨kb, y, none⟩ = some (.int .u8 (k.getD y 0 : Nat)) := by rw [HWX.out]; exact d0
          have d3 : wx.cell? ⟨go, i, none⟩ = some (.int .u8 (O.getD i 0 : Nat)) := by rw [HWX.out]; exact d1
          have e3 : wx.frozen? ⟨go, i, none⟩ = false := by rw [HWX.out]; exact e1
          have HSQ := Lib.hid (HS.out q)
          rw [← HWX.out] at HSQ
          clear hz hv hc2 hy d0 d1 e1 hkb hc1 HS
          generalize k.getD y 0 = ky at *
          generalize O.getD i 0 = oi at *
          generalize cc + t = ct at *
          go_wp2_with fail
          exact ⟨⟨i + 1, c2, _, by omega, by go_num, rfl, HC2.out, HO2.out, HSQ.out⟩, by simp only [intOf]; omega⟩
    · obtain rfl : i = 16 := by omega
      go_wp2_with fail
      have h2 := AT.out
      rw [OT.out.all] at h2
      exact hexit _ _ _ _ _ _ _ _ _ _ _ _ _ _ _ _ _ _ _ _ _ _ _ _ _ _ _ _ _ _ _ _ _ _ _ _ _ _ _ _ _ _ _ _ _ _ _ _ _ h2 GR.out
end Go.Proofs.Ytfblpkjablgafaa
