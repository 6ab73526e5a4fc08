/- The document's tag: its blocks. -/
import Derived.Test.YtfblpkjablgafaaRt8
namespace Go.Proofs.Ytfblpkjablgafaa
open Go.RowKit
set_option linter.unusedVariables false
set_option linter.unusedSimpArgs false
theorem addr_add (a : Addr) (i j : Nat) : (a.add i).add j = a.add (i + j) := by
  unfold Addr.add
  split
  · subst_vars; rw [Nat.add_zero]
  · split
    · subst_vars; rw [if_neg (by omega), Nat.zero_add]
    · rw [if_neg (by omega)]; simp; omega
theorem Rd.sub {w : World} {B : Nat} {ad : Addr} {l : List Nat} (h : Rd w B (some ad) (byt l)) (i n : Nat) : Rd w B (some (ad.add i)) (byt ((l.drop i).take n)) := fun hn => by
  obtain ⟨ad', e, hb, hc⟩ := h (fun h0 => hn (by
    have : l = [] := by cases l with
      | nil => rfl
      | cons c l => simp [byt] at h0
    rw [this]; simp [byt]))
  injection e with e
  subst e
  refine ⟨_, rfl, by rw [add_block]; exact hb, fun j u hu => ?_⟩
  rw [addr_add]
  refine hc _ u ?_
  unfold byt at *
  rw [List.map_take, List.map_drop, List.getElem?_take] at hu
  split at hu
  · rw [List.getElem?_drop] at hu; exact hu
  · cases hu
structure HsAt (r : Nat) (m : List Nat) (q : Nat) (L : List Nat) : Prop where
  len : L.length = 10
  lt : ∀ j, L.getD j 0 < 8192
  val : V13 L % P130 = polA r m q
theorem pow20 : 8192 ^ 20 = P130 * (P130 + 10) + 25 := by decide +kernel
theorem V13_22 (P : List Nat) (h : P.length = 22) : V13 P = V13 (P.take 20) + 8192 ^ 20 * (P.getD 20 0 + 8192 * P.getD 21 0) := by
  have e : P = P.take 22 := by rw [List.take_of_length_le (by omega)]
  have h1 := V13_take P 21 (by omega)
  have h2 := V13_take P 20 (by omega)
  rw [← e] at h1
  rw [h1, h2, Nat.mul_add, Nat.add_assoc]
  congr 2
  rw [show (8192 : Nat) ^ 21 = 8192 ^ 20 * 8192 from Nat.pow_succ .., Nat.mul_assoc]
theorem bl_of (m : List Nat) (q n : Nat) (hn : n = min (16 * q + 16) m.length) : ((m.drop (16 * q)).take 16).length = n - 16 * q := by
  rw [List.length_take, List.length_drop]; omega
theorem round_val (r q : Nat) (m H A P L2 L3 : List Nat) (q1 q2 : Nat) (hH : V13 H % P130 = polA r m q) (hA : V13 A = blkV ((m.drop (16 * q)).take 16) + V13 H) (hP : V13 P = V13 A * r) (hp : P.length = 22)
    (h1 : V13 (P.take 20) = V13 L2 + P130 * q1) (h2 : V13 L2 + 25 * P.getD 20 0 + 8192 * (25 * P.getD 21 0) = V13 L3 + P130 * q2) : V13 L3 % P130 = polA r m (q + 1) := by
  have e1 := V13_22 P hp
  rw [pow20, Nat.add_mul, Nat.mul_assoc] at e1
  have e2 : V13 P = V13 L3 + P130 * (q2 + q1 + (P130 + 10) * (P.getD 20 0 + 8192 * P.getD 21 0)) := by
    rw [Nat.mul_add, Nat.mul_add]
    omega
  have e3 : V13 P % P130 = V13 L3 % P130 := by rw [e2, Nat.add_mul_mod_self_left]
  rw [← e3, hP, hA, polA, ← hH, Nat.mul_mod, Nat.mul_mod (V13 H % P130 + _), Nat.mod_add_mod, Nat.add_comm (blkV _)]
set_option maxRecDepth 1000000 in
set_option maxHeartbeats 40000000 in
theorem tloop2 (Q : Exit → Act → World → Prop) (wq : World) (gf gh ca : Nat) (A : Option Addr) (m F H0 : List Nat) (c0 c2 c3 c4 c5 c6 c7 c11 c12 c13 c14 c15 c16 c17 c18 c19 c20 c21 c22 c23 c24 c25 c26 c27 c28 c29 c30 c31 c32 c33 c34 c35 c36 c37 c38 c39 c40 c41 c42 c43 c44 c45 c46 c47 c48 c49 c50 c51 c52 c53 c54 c55 c56 c57 c58 c59 c60 c61 c62 c63 c64 c65 c66 c67 c68 c69 c70 c71 c72 c73 c74 c75 c76 c77 c78 c79 c80 c81 c82 c83 c84 c85 c86 c87 c88 c89 c90 c91 c92 c93 c94 c95 c96 c97 c98 c99 c100 c101 c102 c103 c104 c105 c106 c107 c108 c109 c110 c111 c112 c113 c114 c115 c116 c117 c118 c119 c120 c121 c122 c123 c124 c125 c126 c127 c128 c129 c130 c131 c132 c133 c134 c135 c136 c137 c138 c139 c140 c141 c142 c143 c144 c145 c146 c147 c148 c149 c150 c151 c152 c153 c154 c155 c156 c157 c158 c159 c160 c161 c162 c163 c164 c165 c166 c167 c168 c169 c170 c171 c172 c173 c174 c175 c176 c177 c178 c179 c180 c181 c182 c183 c184 c185 c186 c187 c188 c189 c190 : Value)
    (HM : Hid (Rd wq wq.heap.size A (byt m))) (HF : Hid (Blk wq gf 42 (vq F))) (HH : Hid (Blk wq gh 42 (vq H0))) (fl : F.length = 11) (HFB : Hid (∀ j, F.getD j 0 ≤ 8191)) (HS0 : Hid (HsAt (V13 F) m 0 H0)) (HML : Hid (∀ c ∈ m, c < 256)) (hml : m.length ≤ 10000) (hca : m.length ≤ ca) (hca2 : ca ≤ maxLen)
    (hexit : ∀ (u10 u11 u12 u13 u14 u15 u16 u17 u53 u54 u55 u56 u57 u58 u59 u60 u61 u62 u63 u64 u65 u66 u67 u68 u69 u70 u71 u72 u73 u74 u75 u76 u77 u78 u79 u80 u81 u82 u83 u84 u85 u86 u87 u88 u89 u90 u91 u92 u93 u94 u95 u96 u97 u98 u99 u100 u101 u102 u103 u104 u105 u106 u107 u108 u109 u110 u111 u112 u113 u114 u115 u116 u117 u118 u119 u120 u121 u122 u123 u124 u125 u126 u127 u128 u129 u130 u131 u132 u133 u134 u135 u136 u137 u138 u139 u140 u141 u142 u143 : Value) (gl : Nat) (L : List Nat) (ws : World), HsAt (V13 F) m ((m.length + 15) / 16) L → Blk ws gl 42 (vq L) → Below wq.heap.size wq ws → Q (.exit 2) ⟨(c0 :: (.slice A m.length ca) :: c2 :: c3 :: c4 :: c5 :: c6 :: c7 :: (.slice (some ⟨gf, 0, none⟩) 11 11) :: (.slice (some ⟨gl, 0, none⟩) 10 10) :: u10 :: u11 :: u12 :: u13 :: u14 :: u15 :: u16 :: u17 :: c18 :: c19 :: c20 :: c21 :: c22 :: c23 :: c24 :: c25 :: c26 :: c27 :: c28 :: c29 :: c30 :: c31 :: c32 :: c33 :: c34 :: c35 :: c36 :: c37 :: c38 :: c39 :: c40 :: c41 :: c42 :: c43 :: c44 :: c45 :: c46 :: c47 :: c48 :: c49 :: c50 :: c51 :: c52 :: u53 :: u54 :: u55 :: u56 :: u57 :: u58 :: u59 :: u60 :: u61 :: u62 :: u63 :: u64 :: u65 :: u66 :: u67 :: u68 :: u69 :: u70 :: u71 :: u72 :: u73 :: u74 :: u75 :: u76 :: u77 :: u78 :: u79 :: u80 :: u81 :: u82 :: u83 :: u84 :: u85 :: u86 :: u87 :: u88 :: u89 :: u90 :: u91 :: u92 :: u93 :: u94 :: u95 :: u96 :: u97 :: u98 :: u99 :: u100 :: u101 :: u102 :: u103 :: u104 :: u105 :: u106 :: u107 :: u108 :: u109 :: u110 :: u111 :: u112 :: u113 :: u114 :: u115 :: u116 :: u117 :: u118 :: u119 :: u120 :: u121 :: u122 :: u123 :: u124 :: u125 :: u126 :: u127 :: u128 :: u129 :: u130 :: u131 :: u132 :: u133 :: u134 :: u135 :: u136 :: u137 :: u138 :: u139 :: u140 :: u141 :: u142 :: u143 :: c144 :: c145 :: c146 :: c147 :: c148 :: c149 :: c150 :: c151 :: c152 :: c153 :: c154 :: c155 :: c156 :: c157 :: c158 :: c159 :: c160 :: c161 :: c162 :: c163 :: c164 :: c165 :: c166 :: c167 :: c168 :: c169 :: c170 :: c171 :: c172 :: c173 :: c174 :: c175 :: c176 :: c177 :: c178 :: c179 :: c180 :: c181 :: c182 :: c183 :: c184 :: c185 :: c186 :: c187 :: c188 :: c189 :: c190 :: []).toArray, []⟩ ws) :
    Code.wp Try.prog (tgl 2) Q ⟨(c0 :: (.slice A m.length ca) :: c2 :: c3 :: c4 :: c5 :: c6 :: c7 :: (.slice (some ⟨gf, 0, none⟩) 11 11) :: (.slice (some ⟨gh, 0, none⟩) 10 10) :: (.int .i64 0) :: c11 :: c12 :: c13 :: c14 :: c15 :: c16 :: c17 :: c18 :: c19 :: c20 :: c21 :: c22 :: c23 :: c24 :: c25 :: c26 :: c27 :: c28 :: c29 :: c30 :: c31 :: c32 :: c33 :: c34 :: c35 :: c36 :: c37 :: c38 :: c39 :: c40 :: c41 :: c42 :: c43 :: c44 :: c45 :: c46 :: c47 :: c48 :: c49 :: c50 :: c51 :: c52 :: c53 :: c54 :: c55 :: c56 :: c57 :: c58 :: c59 :: c60 :: c61 :: c62 :: c63 :: c64 :: c65 :: c66 :: c67 :: c68 :: c69 :: c70 :: c71 :: c72 :: c73 :: c74 :: c75 :: c76 :: c77 :: c78 :: c79 :: c80 :: c81 :: c82 :: c83 :: c84 :: c85 :: c86 :: c87 :: c88 :: c89 :: c90 :: c91 :: c92 :: c93 :: c94 :: c95 :: c96 :: c97 :: c98 :: c99 :: c100 :: c101 :: c102 :: c103 :: c104 :: c105 :: c106 :: c107 :: c108 :: c109 :: c110 :: c111 :: c112 :: c113 :: c114 :: c115 :: c116 :: c117 :: c118 :: c119 :: c120 :: c121 :: c122 :: c123 :: c124 :: c125 :: c126 :: c127 :: c128 :: c129 :: c130 :: c131 :: c132 :: c133 :: c134 :: c135 :: c136 :: c137 :: c138 :: c139 :: c140 :: c141 :: c142 :: c143 :: c144 :: c145 :: c146 :: c147 :: c148 :: c149 :: c150 :: c151 :: c152 :: c153 :: c154 :: c155 :: c156 :: c157 :: c158 :: c159 :: c160 :: c161 :: c162 :: c163 :: c164 :: c165 :: c166 :: c167 :: c168 :: c169 :: c170 :: c171 :: c172 :: c173 :: c174 :: c175 :: c176 :: c177 :: c178 :: c179 :: c180 :: c181 :: c182 :: c183 :: c184 :: c185 :: c186 :: c187 :: c188 :: c189 :: c190 :: []).toArray, []⟩ wq := by
  conv => arg 2; whnf
  obtain ⟨i0, hi, hz0, hz1, hz2⟩ := info_parts byteInfo
  unfold maxLen at hca2
  go_loopw [9, 10] (fun h i wr => ∃ (q : Nat) (g : Nat) (L : List Nat), 16 * q < m.length + 16 ∧ i = .int .i64 ((16 * q : Nat) : Int) ∧ h = .slice (some ⟨g, 0, none⟩) 10 10 ∧ HsAt (V13 F) m q L ∧ Blk wr g 42 (vq L) ∧ Below wq.heap.size wq wr) (fun _ i _ => m.length + 16 - (intOf i).toNat)
  case atStart => exact ⟨0, gh, H0, by omega, rfl, rfl, HS0.out, HH.out, Below.refl _ _⟩
  case round =>
    rename World => wr
    obtain ⟨q, g, H, hq, rfl, rfl, hhs, hat, hbel⟩ := hrel
    have HS := Lib.hid hhs
    have AT := Lib.hid hat
    have BL := Lib.hid hbel
    clear hhs hat hbel HH HS0
    by_cases hlt : 16 * q < m.length
    · obtain ⟨i, hi16⟩ : ∃ i, i = 16 * q := ⟨_, rfl⟩
      rw [← hi16]
      have HI := Lib.hid hi16
      obtain ⟨ad, rfl, hab, hca0⟩ := (HM.out.below BL.out).byte hlt
      obtain ⟨n, hn⟩ : ∃ n, n = min (16 * q + 16) m.length := ⟨_, rfl⟩
      have hbl := bl_of m q n hn
      have p1 : (i : Int) < (m.length : Int) := by omega
      have p2 : (i : Int) ≤ (ca : Int) := by omega
      clear hca0
      obtain ⟨bl, hblk⟩ : ∃ bl, bl = (m.drop (16 * q)).take 16 := ⟨_, rfl⟩
      rw [← hblk, ← hi16] at hbl
      have HRS := Lib.hid (show ∀ W, Below wq.heap.size wq W → Rd W wq.heap.size (some (ad.add i)) (byt bl) from fun W hW => by rw [hblk, hi16]; exact (HM.out.below hW).sub (16 * q) 16)
      have HBC := Lib.hid (show ∀ c ∈ bl, c < 256 from fun c hc => HML.out c (by rw [hblk] at hc; exact List.mem_of_mem_drop (List.mem_of_mem_take hc)))
      have HBK := Lib.hid hblk
      have hb16 : bl.length ≤ 16 := by omega
      obtain ⟨b1, hb1⟩ : ∃ b1, b1 = bl ++ [1] := ⟨_, rfl⟩
      have hb17 : b1.length ≤ 17 := by rw [hb1, List.length_append, List.length_singleton]; omega
      have HNB := Lib.hid (show number b1 = blkV bl by rw [hb1, number_append, blkV]; simp [number])
      have HB1 := Lib.hid hb1
      have HNL := Lib.hid (show ∀ c ∈ b1, c < 256 from fun c hc => by
        rw [hb1] at hc
        rcases List.mem_append.1 hc with h | h
        · exact HBC.out c h
        · rw [List.mem_singleton.1 h]; decide)
      have HN143 := Lib.hid (show number b1 < 2 ^ 143 from Nat.lt_of_lt_of_le (number_lt _ HNL.out) (by
        rw [show (256 : Nat) = 2 ^ 8 from rfl, ← Nat.pow_mul]
        exact Nat.pow_le_pow_right (by decide) (by omega)))
      have HDG := Lib.hid (fun (W : World) (A6 : Option Addr) (c6 : Nat) (h : Rd W W.heap.size A6 (byt b1)) => digits_c W.heap.size A6 c6 b1 W h (Nat.le_refl _) HNL.out hb17 HN143.out)
      have HEV := Lib.hid (fun (W : World) (gp : Nat) (P : List Nat) (h : Blk W gp 42 (vq P)) (hl : P.length = 22) (hb : ∀ j, P.getD j 0 ≤ 1125899906842624) => by
        have h1 := even_c (gp + 1) (some ⟨gp, 0, none⟩) 22 (P.take 20) W (rd_blk h (q64 (P.take 20)) 20 (by simp [vq, q64, List.map_take])) h.lt (by rw [List.length_take]; omega) (by rw [List.length_take]; omega) (fun j => by
          rcases Nat.lt_or_ge j 20 with h3 | h3
          · rw [List.getD_eq_getElem?_getD, List.getElem?_take_of_lt h3, ← List.getD_eq_getElem?_getD]; exact hb j
          · rw [List.getD_eq_getElem?_getD, List.getElem?_eq_none (by rw [List.length_take]; omega)]; exact Nat.zero_le _)
        rw [show (P.take 20).length = 20 by rw [List.length_take]; omega] at h1
        exact h1)
      have HEW := Lib.hid (fun (W : World) (gp : Nat) (P : List Nat) (h : Blk W gp 42 (vq P)) (hl : P.length = 10) (hb : ∀ j, P.getD j 0 ≤ 1125899906842624) => by
        have h1 := even_c (gp + 1) (some ⟨gp, 0, none⟩) 10 P W (rd_blk h (q64 P) 10 (by simp [vq]; rw [List.take_of_length_le (by rw [q64_len]; omega)])) h.lt (by omega) (by omega) hb
        rw [hl] at h1
        exact h1)
      clear hblk hi16 hlt hb1
      by_cases h16 : m.length < 16 * q + 16
      · have hbl2 : m.length - i = bl.length := by have := HI.out; omega
        have t1 : (m.length : Int) < (i : Int) + 16 := by have := HI.out; omega
        clear h16 hbl hn
        go_upto_region 18 with (first
          | (at_builtin; refine wpList_app _ rfl (.tmp 59) (.tmp 67) _ rfl wr.heap.size 5 i0 (.int .u8 0) 1 1 Try.underlying24 hi hz0 hz1 hz2 rfl (by decide) _ 0 [] rfl (by exact OwnB.new wr wr.heap.size [] (Nat.le_refl _) (by decide)) wq.heap.size (some (ad.add i)) bl.length (ca - i) (byt bl) rfl (by simp [byt_len]) (HRS.out _ (BL.out.alloc BL.out.size _)) (byt_one _) (by omega) (by omega) (by simp) ?_; intro v5 w5 hap; have HO5 := Lib.hid (show OwnB w5 wr.heap.size v5 bl from by have h1 := OwnB.app (l := []) (show Apped _ _ _ _ _ _ _ (([] : List Nat).length + bl.length) (byt [] ++ byt bl) from hap); exact h1); have HB5 := Lib.hid (((Below.refl wr.heap.size wr).alloc (Nat.le_refl _) _).trans (hap.below (OwnB.new wr wr.heap.size [] (Nat.le_refl _) (by decide)) (by simp))); clear hap)
          | (at_builtin; refine wpList_app _ rfl (.tmp 69) (.tmp 70) _ rfl wr.heap.size 5 i0 (.int .u8 0) 1 1 Try.underlying24 hi hz0 hz1 hz2 rfl (by decide) v5 bl.length (byt bl) rfl (HO5.out.alloc _) _ _ 1 1 [.int .u8 (1 : Nat)] rfl rfl (by exact rd_one _ _ _) (byt_one [1]) (by omega) (by omega) (by have := HB5.out.size; simp; omega) ?_; intro v6 w6 hap; have ho6 := OwnB.snoc hap; rw [← HB1.out] at ho6; have HB6 := Lib.hid ((HB5.out.alloc HB5.out.size _).trans (hap.below (HO5.out.alloc _) (by have := HB5.out.size; simp; omega))); clear hap; obtain ⟨A6, c6, rfl, _, _, hr6⟩ := ho6.rd; have HR6 := Lib.hid hr6; clear hr6 ho6)
          | (go_at_call 18; (refine (HDG.out w6 A6 c6 HR6.out).mono ?_); rintro e w7 ⟨rfl, hb7, N0, nl, nb, nv, na⟩; have HB7 := Lib.hid (HB6.out.trans (hb7.mono HB6.out.size)); have NB := Lib.hid nb; have NV := Lib.hid (nv.trans HNB.out); have NA := Lib.hid na; clear hb7 nb nv na))
        have hgn : wr.heap.size ≤ w6.heap.size := HB6.out.size
        generalize w6.heap.size = gn at *
        have AT7 := Lib.hid (AT.out.below HB7.out AT.out.lt)
        have BQ7 := Lib.hid (BL.out.trans (HB7.out.mono BL.out.size))
        have hgf : gf < wq.heap.size := HF.out.lt
        have hgq : wq.heap.size ≤ wr.heap.size := BL.out.size
        have hgl : g < wr.heap.size := AT.out.lt
        have hn7 : gn < w7.heap.size := NA.out.lt
        clear HRS HR6 HO5 HB5 HB6 HDG
        go_wp2_with fail
        refine tloop4 _ w7 g gn H N0 _ _ _ _ _ _ _ _ _ _ _ _ _ _ _ _ _ _ _ _ _ _ _ _ _ _ _ _ _ _ _ _ _ _ _ _ _ _ _ _ _ _ _ _ _ _ _ _ _ _ _ _ _ _ _ _ _ _ _ _ _ _ _ _ _ _ _ _ _ _ _ _ _ _ _ _ _ _ _ _ _ _ _ _ _ _ _ _ _ _ _ _ _ _ _ _ _ _ _ _ _ _ _ _ _ _ _ _ _ _ _ _ _ _ _ _ _ _ _ _ _ _ _ _ _ _ _ _ _ _ _ _ _ _ _ _ _ _ _ _ _ _ _ _ _ _ _ _ _ _ _ _ _ _ _ _ _ _ _ _ _ _ _ _ _ _ _ _ _ _ _ _ _ _ _ _ _ _ _ _ _ _ _ _ _ _ _ _ (by omega) AT7 NA HS.out.len nl (Lib.hid HS.out.lt) NB ?_
        intro x13 x73 x74 x75 x76 x77 x78 x79 x80 x81 x82 x83 x84 x85 x86 x87 x88 O4 ws4 sm4 at4 gr4
        have SM4 := Lib.hid sm4
        have AT4 := Lib.hid at4
        have BR4 := Lib.hid (g1_below_refl gr4 HB7.out hgn HB7.out.size)
        have hz4 : w7.heap.size ≤ ws4.heap.size := gr4.size
        clear sm4 at4 gr4
        have hmk4 := run_make_q 22 (by decide) ws4
        rw [show ((22 : Nat) : Int) = 22 from rfl] at hmk4
        obtain ⟨Y, hY⟩ : ∃ Y, Y = ws4.alloc (.cells (vq (List.replicate 22 0)) 42) := ⟨_, rfl⟩
        rw [← hY] at hmk4
        have YP := Lib.hid (show Blk Y ws4.heap.size 42 (vq (List.replicate 22 0)) by rw [hY]; exact Blk.new _ _ _)
        have YN := Lib.hid (show Blk Y gn 42 (vq O4) by rw [hY]; exact AT4.out.alloc _)
        have YB := Lib.hid (show Below wr.heap.size wr Y by rw [hY]; exact BR4.out.alloc BR4.out.size _)
        have YF := Lib.hid (show Blk Y gf 42 (vq F) from (HF.out.below BL.out hgf).below YB.out (by omega))
        clear hY
        go_wp2_with fail
        clear hmk4
        generalize ws4.heap.size = gp at *
        refine tloop6 _ Y gf gn gp F O4 _ _ _ _ _ _ _ _ _ _ _ _ _ _ _ _ _ _ _ _ _ _ _ _ _ _ _ _ _ _ _ _ _ _ _ _ _ _ _ _ _ _ _ _ _ _ _ _ _ _ _ _ _ _ _ _ _ _ _ _ _ _ _ _ _ _ _ _ _ _ _ _ _ _ _ _ _ _ _ _ _ _ _ _ _ _ _ _ _ _ _ _ _ _ _ _ _ _ _ _ _ _ _ _ _ _ _ _ _ _ _ _ _ _ _ _ _ _ _ _ _ _ _ _ _ _ _ _ _ _ _ _ _ _ _ _ _ _ _ _ _ _ _ _ _ _ _ _ _ _ _ _ _ _ _ _ _ _ _ _ _ _ _ _ _ _ _ _ _ _ _ _ _ _ _ _ _ _ _ _ _ _ _ _ _ _ _ (by omega) (by omega) YF YN YP fl SM4.out.len HFB (Lib.hid (fun j => by have := SM4.out.lt j; omega)) ?_
        intro y15 y16 y90 y91 y92 y93 y94 y95 y96 y97 y98 y99 y100 y101 y102 y103 y104 y105 y106 y107 y108 y109 y110 y111 y112 y113 y114 y115 y116 y117 y118 P ws6 ml6 at6 gr6
        have ML6 := Lib.hid ml6
        have PB := Lib.hid (show ∀ j, P.getD j 0 ≤ 17179869184 from fun j => Nat.le_trans (ml6.bnd j) (by decide))
        have AT6 := Lib.hid at6
        have BR6 := Lib.hid (g1_below_refl gr6 YB.out (by omega) YB.out.size)
        have hev := HEV.out ws6 gp P at6 ml6.len (fun j => Nat.le_trans (PB.out j) (by decide))
        have HEV6 := Lib.hid hev
        clear ml6 at6 gr6 hev
        have hg2 : gp < ws6.heap.size := AT6.out.lt
        go_upto_region 31 with (go_at_call 19; (refine HEV6.out.mono ?_); rintro e w8 ⟨rfl, hb8, L2, q1, l2, b2, v2, a2⟩; have BR8 := Lib.hid (BR6.out.trans (hb8.mono BR6.out.size)); have AP8 := Lib.hid (AT6.out.below hb8 AT6.out.lt); have LB := Lib.hid b2; have LV := Lib.hid v2; have LA := Lib.hid a2; clear hb8 b2 v2 a2)
        have hg3 : wr.heap.size ≤ ws6.heap.size := BR6.out.size
        generalize ws6.heap.size = g2 at *
        clear HEV6 HEV
        have d0 := (LA.out.cell 0).trans (vq_at L2 0 (by omega))
        have e0 := LA.out.free 0
        have d1 := (AP8.out.cell 20).trans (vq_at P 20 (by rw [ML6.out.len]; decide))
        have b0 := LB.out 0
        have bp := PB.out 20
        have f0 : IntKind.u64.wrap (25 * ((P.getD 20 0 : Nat) : Int)) = ((25 * P.getD 20 0 : Nat) : Int) := by rw [show (25 : Int) * ((P.getD 20 0 : Nat) : Int) = ((25 * P.getD 20 0 : Nat) : Int) by omega, wrap_lt _ (by omega)]
        have f1 : IntKind.u64.wrap (((L2.getD 0 0 : Nat) : Int) + ((25 * P.getD 20 0 : Nat) : Int)) = ((L2.getD 0 0 + 25 * P.getD 20 0 : Nat) : Int) := by rw [← Int.natCast_add, wrap_lt _ (by omega)]
        obtain ⟨x0, hx0⟩ : ∃ x, x = L2.getD 0 0 + 25 * P.getD 20 0 := ⟨_, rfl⟩
        rw [← hx0] at f1
        have HX0 := Lib.hid hx0
        have hxb : x0 ≤ 1125899906842624 := by omega
        clear hx0 b0 bp
        obtain ⟨w9, hw9⟩ : ∃ w9, w9 = (w8.setCell ⟨g2, 0, none⟩ (.int .u64 (x0 : Int))).drew := ⟨_, rfl⟩
        have LA9 := Lib.hid (show Blk w9 g2 42 (vq (L2.set 0 x0)) by rw [hw9, ← vq_set]; exact LA.out.set_ _ _)
        have AP9 := Lib.hid (show Blk w9 gp 42 (vq P) by rw [hw9]; exact AP8.out.far (by show gp ≠ g2; omega) _)
        have BR9 := Lib.hid (show Below wr.heap.size wr w9 by rw [hw9]; exact (BR8.out.setCell hg3 _).drew)
        have HW9 := Lib.hid hw9
        clear hw9
        generalize hl20 : L2.getD 0 0 = l20 at *
        have HL20 := Lib.hid hl20
        clear hl20
        generalize hp20 : P.getD 20 0 = p20 at *
        have HP20 := Lib.hid hp20
        clear hp20
        generalize 25 * p20 = p25 at f0 f1
        go_wp2_with fail
        go_still_tail 10, (by kernel_rfl)
        go_upto_region 32 with fail
        rw [← HW9.out]
        clear d0 d1 e0 f0 f1 HW9 AP8 LA BR8
        obtain ⟨L9, hL9⟩ : ∃ L, L = L2.set 0 x0 := ⟨_, rfl⟩
        rw [← hL9] at LA9
        have hl9 : L9.length = 10 := by rw [hL9, List.length_set]; exact l2
        have h91 : L9.getD 1 0 < 8192 := by rw [hL9, getD_set _ _ _ _ (by omega), if_neg (by decide)]; exact LB.out 1
        have HV9 := Lib.hid (show V13 L9 = V13 L2 + 25 * p20 by
          have h1 := V13_set L2 0 x0 (by omega)
          rw [← hL9, Nat.pow_zero, Nat.one_mul, Nat.one_mul, HL20.out] at h1
          have := HX0.out
          omega)
        have HB9 := Lib.hid (show ∀ j, L9.getD j 0 ≤ 1125899906842624 from fun j => by
          rw [hL9, getD_set _ _ _ _ (by omega)]
          split
          · exact hxb
          · have := LB.out j; omega)
        clear hL9 hxb
        have d0 := (LA9.out.cell 1).trans (vq_at L9 1 (by omega))
        have e0 := LA9.out.free 1
        have d1 := (AP9.out.cell 21).trans (vq_at P 21 (by rw [ML6.out.len]; decide))
        have bp := PB.out 21
        have f0 : IntKind.u64.wrap (25 * ((P.getD 21 0 : Nat) : Int)) = ((25 * P.getD 21 0 : Nat) : Int) := by rw [show (25 : Int) * ((P.getD 21 0 : Nat) : Int) = ((25 * P.getD 21 0 : Nat) : Int) by omega, wrap_lt _ (by omega)]
        have f1 : IntKind.u64.wrap (((L9.getD 1 0 : Nat) : Int) + ((25 * P.getD 21 0 : Nat) : Int)) = ((L9.getD 1 0 + 25 * P.getD 21 0 : Nat) : Int) := by rw [← Int.natCast_add, wrap_lt _ (by omega)]
        obtain ⟨x1, hx1⟩ : ∃ x, x = L9.getD 1 0 + 25 * P.getD 21 0 := ⟨_, rfl⟩
        rw [← hx1] at f1
        have hxb : x1 ≤ 1125899906842624 := by omega
        have HX1 := Lib.hid hx1
        obtain ⟨w10, hw10⟩ : ∃ w10, w10 = (w9.setCell ⟨g2, 1, none⟩ (.int .u64 (x1 : Int))).drew := ⟨_, rfl⟩
        obtain ⟨L10, hL10⟩ : ∃ L, L = L9.set 1 x1 := ⟨_, rfl⟩
        have LA10 := Lib.hid (show Blk w10 g2 42 (vq L10) by rw [hw10, hL10, ← vq_set]; exact LA9.out.set_ _ _)
        have BR10 := Lib.hid (show Below wr.heap.size wr w10 by rw [hw10]; exact (BR9.out.setCell hg3 _).drew)
        have HW10 := Lib.hid hw10
        have hl10 : L10.length = 10 := by rw [hL10, List.length_set]; exact hl9
        have HV10 := Lib.hid (show V13 L10 = V13 L2 + 25 * p20 + 8192 * (25 * P.getD 21 0) by
          have h1 := V13_set L9 1 x1 (by omega)
          rw [← hL10, Nat.pow_one] at h1
          have := HV9.out
          omega)
        have HB10 := Lib.hid (show ∀ j, L10.getD j 0 ≤ 1125899906842624 from fun j => by
          rw [hL10, getD_set _ _ _ _ (by omega)]
          split
          · exact hxb
          · exact HB9.out j)
        clear hw10 hL10 hx1 bp h91 hxb
        have hew := HEW.out w10 g2 L10 LA10.out hl10 HB10.out
        have HEW10 := Lib.hid hew
        clear hew HEW
        generalize hp21 : P.getD 21 0 = p21 at *
        have HP21 := Lib.hid hp21
        clear hp21
        generalize 25 * p21 = p25' at f0 f1
        generalize L9.getD 1 0 = l91 at f1 d0
        go_wp2_with fail
        go_still_tail 10, (by kernel_rfl)
        go_upto_region 33 with fail
        rw [← HW10.out]
        clear d0 d1 e0 f0 f1 HW10 AP9 LA9 BR9
        go_wp2_with (go_at_call 19; (refine HEW10.out.mono ?_); rintro e w11 ⟨rfl, hb11, L3, q2, l3, b3, v3, a3⟩; have BR11 := Lib.hid (BR10.out.trans (hb11.mono BR10.out.size)); have L3B := Lib.hid b3; have L3V := Lib.hid v3; have L3A := Lib.hid a3; clear hb11 b3 v3 a3)
        have hfin := round_val (V13 F) q m H O4 P L2 L3 q1 q2 HS.out.val (by rw [SM4.out.val, NV.out, HBK.out, List.take_of_length_le (l := H) (by rw [HS.out.len]; exact Nat.le_refl _)]) (by have h := ML6.out.val; rw [List.take_of_length_le (l := O4) (by rw [SM4.out.len]; exact Nat.le_refl _), List.take_zero, V13, Nat.mul_zero, Nat.mul_zero, Nat.add_zero] at h; exact h) ML6.out.len LV.out (by rw [HP20.out, HP21.out, ← HV10.out]; exact L3V.out)
        have hI := HI.out
        exact ⟨⟨q + 1, _, L3, by omega, by congr 1; omega, rfl, ⟨l3, L3B.out, hfin⟩, L3A.out, BL.out.trans (BR11.out.mono BL.out.size)⟩, by simp only [intOf]; omega⟩
      · have hbl2 : bl.length = 16 := by have := HI.out; omega
        have t1 : ¬ (m.length : Int) < (i : Int) + 16 := by have := HI.out; omega
        have p4 : (i : Int) + 16 ≤ (ca : Int) := by have := HI.out; omega
        have HB2 := Lib.hid hbl2
        clear h16 hbl hn hbl2
        go_upto_region 18 with (first
          | (at_builtin; refine wpList_app _ rfl (.tmp 59) (.tmp 67) _ rfl wr.heap.size 5 i0 (.int .u8 0) 1 1 Try.underlying24 hi hz0 hz1 hz2 rfl (by decide) _ 0 [] rfl (by exact OwnB.new wr wr.heap.size [] (Nat.le_refl _) (by decide)) wq.heap.size (some (ad.add i)) bl.length (ca - i) (byt bl) (by refine (show _ = Value.slice (some (ad.add i)) _ (ca - i) from rfl).trans ?_; congr 1; have := HB2.out; omega) (by simp [byt_len]) (HRS.out _ (BL.out.alloc BL.out.size _)) (byt_one _) (by omega) (by omega) (by simp) ?_; intro v5 w5 hap; have HO5 := Lib.hid (show OwnB w5 wr.heap.size v5 bl from by have h1 := OwnB.app (l := []) (show Apped _ _ _ _ _ _ _ (([] : List Nat).length + bl.length) (byt [] ++ byt bl) from hap); exact h1); have HB5 := Lib.hid (((Below.refl wr.heap.size wr).alloc (Nat.le_refl _) _).trans (hap.below (OwnB.new wr wr.heap.size [] (Nat.le_refl _) (by decide)) (by simp))); clear hap)
          | (at_builtin; refine wpList_app _ rfl (.tmp 69) (.tmp 70) _ rfl wr.heap.size 5 i0 (.int .u8 0) 1 1 Try.underlying24 hi hz0 hz1 hz2 rfl (by decide) v5 bl.length (byt bl) rfl (HO5.out.alloc _) _ _ 1 1 [.int .u8 (1 : Nat)] rfl rfl (by exact rd_one _ _ _) (byt_one [1]) (by omega) (by omega) (by have := HB5.out.size; simp; omega) ?_; intro v6 w6 hap; have ho6 := OwnB.snoc hap; rw [← HB1.out] at ho6; have HB6 := Lib.hid ((HB5.out.alloc HB5.out.size _).trans (hap.below (HO5.out.alloc _) (by have := HB5.out.size; simp; omega))); clear hap; obtain ⟨A6, c6, rfl, _, _, hr6⟩ := ho6.rd; have HR6 := Lib.hid hr6; clear hr6 ho6)
          | (go_at_call 18; (refine (HDG.out w6 A6 c6 HR6.out).mono ?_); rintro e w7 ⟨rfl, hb7, N0, nl, nb, nv, na⟩; have HB7 := Lib.hid (HB6.out.trans (hb7.mono HB6.out.size)); have NB := Lib.hid nb; have NV := Lib.hid (nv.trans HNB.out); have NA := Lib.hid na; clear hb7 nb nv na))
        have hgn : wr.heap.size ≤ w6.heap.size := HB6.out.size
        generalize w6.heap.size = gn at *
        have AT7 := Lib.hid (AT.out.below HB7.out AT.out.lt)
        have BQ7 := Lib.hid (BL.out.trans (HB7.out.mono BL.out.size))
        have hgf : gf < wq.heap.size := HF.out.lt
        have hgq : wq.heap.size ≤ wr.heap.size := BL.out.size
        have hgl : g < wr.heap.size := AT.out.lt
        have hn7 : gn < w7.heap.size := NA.out.lt
        clear HRS HR6 HO5 HB5 HB6 HDG
        go_wp2_with fail
        refine tloop4 _ w7 g gn H N0 _ _ _ _ _ _ _ _ _ _ _ _ _ _ _ _ _ _ _ _ _ _ _ _ _ _ _ _ _ _ _ _ _ _ _ _ _ _ _ _ _ _ _ _ _ _ _ _ _ _ _ _ _ _ _ _ _ _ _ _ _ _ _ _ _ _ _ _ _ _ _ _ _ _ _ _ _ _ _ _ _ _ _ _ _ _ _ _ _ _ _ _ _ _ _ _ _ _ _ _ _ _ _ _ _ _ _ _ _ _ _ _ _ _ _ _ _ _ _ _ _ _ _ _ _ _ _ _ _ _ _ _ _ _ _ _ _ _ _ _ _ _ _ _ _ _ _ _ _ _ _ _ _ _ _ _ _ _ _ _ _ _ _ _ _ _ _ _ _ _ _ _ _ _ _ _ _ _ _ _ _ _ _ _ _ _ _ _ (by omega) AT7 NA HS.out.len nl (Lib.hid HS.out.lt) NB ?_
        intro x13 x73 x74 x75 x76 x77 x78 x79 x80 x81 x82 x83 x84 x85 x86 x87 x88 O4 ws4 sm4 at4 gr4
        have SM4 := Lib.hid sm4
        have AT4 := Lib.hid at4
        have BR4 := Lib.hid (g1_below_refl gr4 HB7.out hgn HB7.out.size)
        have hz4 : w7.heap.size ≤ ws4.heap.size := gr4.size
        clear sm4 at4 gr4
        have hmk4 := run_make_q 22 (by decide) ws4
        rw [show ((22 : Nat) : Int) = 22 from rfl] at hmk4
        obtain ⟨Y, hY⟩ : ∃ Y, Y = ws4.alloc (.cells (vq (List.replicate 22 0)) 42) := ⟨_, rfl⟩
        rw [← hY] at hmk4
        have YP := Lib.hid (show Blk Y ws4.heap.size 42 (vq (List.replicate 22 0)) by rw [hY]; exact Blk.new _ _ _)
        have YN := Lib.hid (show Blk Y gn 42 (vq O4) by rw [hY]; exact AT4.out.alloc _)
        have YB := Lib.hid (show Below wr.heap.size wr Y by rw [hY]; exact BR4.out.alloc BR4.out.size _)
        have YF := Lib.hid (show Blk Y gf 42 (vq F) from (HF.out.below BL.out hgf).below YB.out (by omega))
        clear hY
        go_wp2_with fail
        clear hmk4
        generalize ws4.heap.size = gp at *
        refine tloop6 _ Y gf gn gp F O4 _ _ _ _ _ _ _ _ _ _ _ _ _ _ _ _ _ _ _ _ _ _ _ _ _ _ _ _ _ _ _ _ _ _ _ _ _ _ _ _ _ _ _ _ _ _ _ _ _ _ _ _ _ _ _ _ _ _ _ _ _ _ _ _ _ _ _ _ _ _ _ _ _ _ _ _ _ _ _ _ _ _ _ _ _ _ _ _ _ _ _ _ _ _ _ _ _ _ _ _ _ _ _ _ _ _ _ _ _ _ _ _ _ _ _ _ _ _ _ _ _ _ _ _ _ _ _ _ _ _ _ _ _ _ _ _ _ _ _ _ _ _ _ _ _ _ _ _ _ _ _ _ _ _ _ _ _ _ _ _ _ _ _ _ _ _ _ _ _ _ _ _ _ _ _ _ _ _ _ _ _ _ _ _ _ _ _ (by omega) (by omega) YF YN YP fl SM4.out.len HFB (Lib.hid (fun j => by have := SM4.out.lt j; omega)) ?_
        intro y15 y16 y90 y91 y92 y93 y94 y95 y96 y97 y98 y99 y100 y101 y102 y103 y104 y105 y106 y107 y108 y109 y110 y111 y112 y113 y114 y115 y116 y117 y118 P ws6 ml6 at6 gr6
        have ML6 := Lib.hid ml6
        have PB := Lib.hid (show ∀ j, P.getD j 0 ≤ 17179869184 from fun j => Nat.le_trans (ml6.bnd j) (by decide))
        have AT6 := Lib.hid at6
        have BR6 := Lib.hid (g1_below_refl gr6 YB.out (by omega) YB.out.size)
        have hev := HEV.out ws6 gp P at6 ml6.len (fun j => Nat.le_trans (PB.out j) (by decide))
        have HEV6 := Lib.hid hev
        clear ml6 at6 gr6 hev
        have hg2 : gp < ws6.heap.size := AT6.out.lt
        go_upto_region 31 with (go_at_call 19; (refine HEV6.out.mono ?_); rintro e w8 ⟨rfl, hb8, L2, q1, l2, b2, v2, a2⟩; have BR8 := Lib.hid (BR6.out.trans (hb8.mono BR6.out.size)); have AP8 := Lib.hid (AT6.out.below hb8 AT6.out.lt); have LB := Lib.hid b2; have LV := Lib.hid v2; have LA := Lib.hid a2; clear hb8 b2 v2 a2)
        have hg3 : wr.heap.size ≤ ws6.heap.size := BR6.out.size
        generalize ws6.heap.size = g2 at *
        clear HEV6 HEV
        have d0 := (LA.out.cell 0).trans (vq_at L2 0 (by omega))
        have e0 := LA.out.free 0
        have d1 := (AP8.out.cell 20).trans (vq_at P 20 (by rw [ML6.out.len]; decide))
        have b0 := LB.out 0
        have bp := PB.out 20
        have f0 : IntKind.u64.wrap (25 * ((P.getD 20 0 : Nat) : Int)) = ((25 * P.getD 20 0 : Nat) : Int) := by rw [show (25 : Int) * ((P.getD 20 0 : Nat) : Int) = ((25 * P.getD 20 0 : Nat) : Int) by omega, wrap_lt _ (by omega)]
        have f1 : IntKind.u64.wrap (((L2.getD 0 0 : Nat) : Int) + ((25 * P.getD 20 0 : Nat) : Int)) = ((L2.getD 0 0 + 25 * P.getD 20 0 : Nat) : Int) := by rw [← Int.natCast_add, wrap_lt _ (by omega)]
        obtain ⟨x0, hx0⟩ : ∃ x, x = L2.getD 0 0 + 25 * P.getD 20 0 := ⟨_, rfl⟩
        rw [← hx0] at f1
        have HX0 := Lib.hid hx0
        have hxb : x0 ≤ 1125899906842624 := by omega
        clear hx0 b0 bp
        obtain ⟨w9, hw9⟩ : ∃ w9, w9 = (w8.setCell ⟨g2, 0, none⟩ (.int .u64 (x0 : Int))).drew := ⟨_, rfl⟩
        have LA9 := Lib.hid (show Blk w9 g2 42 (vq (L2.set 0 x0)) by rw [hw9, ← vq_set]; exact LA.out.set_ _ _)
        have AP9 := Lib.hid (show Blk w9 gp 42 (vq P) by rw [hw9]; exact AP8.out.far (by show gp ≠ g2; omega) _)
        have BR9 := Lib.hid (show Below wr.heap.size wr w9 by rw [hw9]; exact (BR8.out.setCell hg3 _).drew)
        have HW9 := Lib.hid hw9
        clear hw9
        generalize hl20 : L2.getD 0 0 = l20 at *
        have HL20 := Lib.hid hl20
        clear hl20
        generalize hp20 : P.getD 20 0 = p20 at *
        have HP20 := Lib.hid hp20
        clear hp20
        generalize 25 * p20 = p25 at f0 f1
        go_wp2_with fail
        go_still_tail 10, (by kernel_rfl)
        go_upto_region 32 with fail
        rw [← HW9.out]
        clear d0 d1 e0 f0 f1 HW9 AP8 LA BR8
        obtain ⟨L9, hL9⟩ : ∃ L, L = L2.set 0 x0 := ⟨_, rfl⟩
        rw [← hL9] at LA9
        have hl9 : L9.length = 10 := by rw [hL9, List.length_set]; exact l2
        have h91 : L9.getD 1 0 < 8192 := by rw [hL9, getD_set _ _ _ _ (by omega), if_neg (by decide)]; exact LB.out 1
        have HV9 := Lib.hid (show V13 L9 = V13 L2 + 25 * p20 by
          have h1 := V13_set L2 0 x0 (by omega)
          rw [← hL9, Nat.pow_zero, Nat.one_mul, Nat.one_mul, HL20.out] at h1
          have := HX0.out
          omega)
        have HB9 := Lib.hid (show ∀ j, L9.getD j 0 ≤ 1125899906842624 from fun j => by
          rw [hL9, getD_set _ _ _ _ (by omega)]
          split
          · exact hxb
          · have := LB.out j; omega)
        clear hL9 hxb
        have d0 := (LA9.out.cell 1).trans (vq_at L9 1 (by omega))
        have e0 := LA9.out.free 1
        have d1 := (AP9.out.cell 21).trans (vq_at P 21 (by rw [ML6.out.len]; decide))
        have bp := PB.out 21
        have f0 : IntKind.u64.wrap (25 * ((P.getD 21 0 : Nat) : Int)) = ((25 * P.getD 21 0 : Nat) : Int) := by rw [show (25 : Int) * ((P.getD 21 0 : Nat) : Int) = ((25 * P.getD 21 0 : Nat) : Int) by omega, wrap_lt _ (by omega)]
        have f1 : IntKind.u64.wrap (((L9.getD 1 0 : Nat) : Int) + ((25 * P.getD 21 0 : Nat) : Int)) = ((L9.getD 1 0 + 25 * P.getD 21 0 : Nat) : Int) := by rw [← Int.natCast_add, wrap_lt _ (by omega)]
        obtain ⟨x1, hx1⟩ : ∃ x, x = L9.getD 1 0 + 25 * P.getD 21 0 := ⟨_, rfl⟩
        rw [← hx1] at f1
        have hxb : x1 ≤ 1125899906842624 := by omega
        have HX1 := Lib.hid hx1
        obtain ⟨w10, hw10⟩ : ∃ w10, w10 = (w9.setCell ⟨g2, 1, none⟩ (.int .u64 (x1 : Int))).drew := ⟨_, rfl⟩
        obtain ⟨L10, hL10⟩ : ∃ L, L = L9.set 1 x1 := ⟨_, rfl⟩
        have LA10 := Lib.hid (show Blk w10 g2 42 (vq L10) by rw [hw10, hL10, ← vq_set]; exact LA9.out.set_ _ _)
        have BR10 := Lib.hid (show Below wr.heap.size wr w10 by rw [hw10]; exact (BR9.out.setCell hg3 _).drew)
        have HW10 := Lib.hid hw10
        have hl10 : L10.length = 10 := by rw [hL10, List.length_set]; exact hl9
        have HV10 := Lib.hid (show V13 L10 = V13 L2 + 25 * p20 + 8192 * (25 * P.getD 21 0) by
          have h1 := V13_set L9 1 x1 (by omega)
          rw [← hL10, Nat.pow_one] at h1
          have := HV9.out
          omega)
        have HB10 := Lib.hid (show ∀ j, L10.getD j 0 ≤ 1125899906842624 from fun j => by
          rw [hL10, getD_set _ _ _ _ (by omega)]
          split
          · exact hxb
          · exact HB9.out j)
        clear hw10 hL10 hx1 bp h91 hxb
        have hew := HEW.out w10 g2 L10 LA10.out hl10 HB10.out
        have HEW10 := Lib.hid hew
        clear hew HEW
        generalize hp21 : P.getD 21 0 = p21 at *
        have HP21 := Lib.hid hp21
        clear hp21
        generalize 25 * p21 = p25' at f0 f1
        generalize L9.getD 1 0 = l91 at f1 d0
        go_wp2_with fail
        go_still_tail 10, (by kernel_rfl)
        go_upto_region 33 with fail
        rw [← HW10.out]
        clear d0 d1 e0 f0 f1 HW10 AP9 LA9 BR9
        go_wp2_with (go_at_call 19; (refine HEW10.out.mono ?_); rintro e w11 ⟨rfl, hb11, L3, q2, l3, b3, v3, a3⟩; have BR11 := Lib.hid (BR10.out.trans (hb11.mono BR10.out.size)); have L3B := Lib.hid b3; have L3V := Lib.hid v3; have L3A := Lib.hid a3; clear hb11 b3 v3 a3)
        have hfin := round_val (V13 F) q m H O4 P L2 L3 q1 q2 HS.out.val (by rw [SM4.out.val, NV.out, HBK.out, List.take_of_length_le (l := H) (by rw [HS.out.len]; exact Nat.le_refl _)]) (by have h := ML6.out.val; rw [List.take_of_length_le (l := O4) (by rw [SM4.out.len]; exact Nat.le_refl _), List.take_zero, V13, Nat.mul_zero, Nat.mul_zero, Nat.add_zero] at h; exact h) ML6.out.len LV.out (by rw [HP20.out, HP21.out, ← HV10.out]; exact L3V.out)
        have hI := HI.out
        exact ⟨⟨q + 1, _, L3, by omega, by congr 1; omega, rfl, ⟨l3, L3B.out, hfin⟩, L3A.out, BL.out.trans (BR11.out.mono BL.out.size)⟩, by simp only [intOf]; omega⟩
    · have e : (m.length + 15) / 16 = q := by omega
      have HE := Lib.hid e
      have p1 : ¬ ((16 * q : Nat) : Int) < (m.length : Int) := by omega
      obtain ⟨i, hi16⟩ : ∃ i, i = 16 * q := ⟨_, rfl⟩
      rw [← hi16] at p1 ⊢
      clear e hi16 hlt
      go_wp2_with fail
      exact hexit _ _ _ _ _ _ _ _ _ _ _ _ _ _ _ _ _ _ _ _ _ _ _ _ _ _ _ _ _ _ _ _ _ _ _ _ _ _ _ _ _ _ _ _ _ _ _ _ _ _ _ _ _ _ _ _ _ _ _ _ _ _ _ _ _ _ _ _ _ _ _ _ _ _ _ _ _ _ _ _ _ _ _ _ _ _ _ _ _ _ _ _ _ _ _ _ _ _ _ g H _ (by rw [HE.out]; exact HS.out) AT.out BL.out
end Go.Proofs.Ytfblpkjablgafaa
