/- Contract: the document's fingerprint: the other words of a schedule. -/
import Derived.Test.YthlmlmkabjppeaaDoorRl4
import Derived.StillTailTactics
namespace Go.Proofs.YthlmlmkabjppeaaDoor
open Go.RowKit
set_option linter.unusedVariables false
set_option linter.unusedSimpArgs false
set_option maxRecDepth 1000000 in
set_option maxHeartbeats 40000000 in
theorem loop6 (Q : Exit → Act → World → Prop) (wq : World) (base : Nat) (CH : List Nat) (v t134 : Value) (c0 c1 c2 c3 c4 c5 c6 c8 c10 c11 c12 c13 c14 c15 c16 c17 c18 c19 c20 c21 c22 c23 c24 c25 c26 c27 c28 c29 c30 c31 c32 c33 c34 c35 c36 c37 c38 c39 c40 c41 c42 c43 c44 c45 c46 c47 c48 c49 c50 c51 c52 c53 c54 c55 c56 c57 c58 c59 c60 c61 c62 c63 c64 c65 c66 c67 c68 c69 c70 c71 c72 c73 c74 c75 c76 c77 c78 c79 c80 c81 c82 c83 c84 c85 c86 c87 c88 c89 c90 c91 c92 c93 c94 c95 c96 c97 c98 c99 c100 c101 c102 c103 c104 c105 c106 c107 c108 c109 c110 c111 c112 c113 c114 c115 c116 c117 c118 c119 c120 c121 c122 c123 c124 c125 c126 c127 c128 c129 c130 c131 c132 c133 c135 c136 c137 c138 c139 c140 c141 c142 c143 c144 c145 c146 c147 c148 c149 c150 c151 c152 c153 c154 c155 c156 c157 c158 c159 c160 c161 c162 c163 c164 c165 c166 c167 c168 c169 c170 c171 c172 c173 c174 c175 c176 c177 c178 c179 c180 c181 c182 c183 c184 c185 c186 c187 c188 c189 c190 c191 c192 c193 c194 c195 c196 c197 c198 c199 c200 c201 c202 c203 c204 c205 c206 c207 c208 c209 c210 c211 c212 c213 c214 c215 c216 c217 c218 c219 c220 c221 c222 c223 c224 c225 c226 c227 c228 c229 c230 c231 c232 c233 c234 c235 c236 c237 c238 c239 c240 c241 c242 c243 c244 c245 c246 c247 c248 c249 c250 c251 c252 c253 c254 c255 c256 c257 c258 c259 c260 c261 c262 c263 c264 c265 c266 c267 c268 c269 c270 c271 c272 c273 c274 c275 c276 c277 c278 c279 c280 c281 c282 c283 c284 : Value)
    (HCL : Hid (∀ c ∈ CH, c < 256)) (HOW : Hid (OwnW wq base v (sch CH 16))) (hbase : base ≤ wq.heap.size) (h134 : isTok t134 = false)
    (hexit : ∀ (u9 u10 u11 u74 u75 u76 u77 u78 u79 u80 u81 u82 u83 u84 u85 u86 u87 u88 u89 u90 u91 u92 u93 u94 u95 u96 u97 u98 u99 u100 u101 u102 u103 u104 u105 u106 u107 u108 u109 u110 u111 u112 u113 u114 u115 u116 u117 u118 u119 u120 u121 u122 u123 u124 u125 u126 u127 u128 u129 u130 u131 u132 u133 u135 : Value) (v t134 : Value) (ws : World), isTok t134 = false → OwnW ws base v (sch CH 64) → Below base wq ws → Q (.exit 6) ⟨(c0 :: c1 :: c2 :: c3 :: c4 :: c5 :: c6 :: v :: c8 :: u9 :: u10 :: u11 :: c12 :: c13 :: c14 :: c15 :: c16 :: c17 :: c18 :: c19 :: c20 :: c21 :: c22 :: c23 :: c24 :: c25 :: c26 :: c27 :: c28 :: c29 :: c30 :: c31 :: c32 :: c33 :: c34 :: c35 :: c36 :: c37 :: c38 :: c39 :: c40 :: c41 :: c42 :: c43 :: c44 :: c45 :: c46 :: c47 :: c48 :: c49 :: c50 :: c51 :: c52 :: c53 :: c54 :: c55 :: c56 :: c57 :: c58 :: c59 :: c60 :: c61 :: c62 :: c63 :: c64 :: c65 :: c66 :: c67 :: c68 :: c69 :: c70 :: c71 :: c72 :: c73 :: u74 :: u75 :: u76 :: u77 :: u78 :: u79 :: u80 :: u81 :: u82 :: u83 :: u84 :: u85 :: u86 :: u87 :: u88 :: u89 :: u90 :: u91 :: u92 :: u93 :: u94 :: u95 :: u96 :: u97 :: u98 :: u99 :: u100 :: u101 :: u102 :: u103 :: u104 :: u105 :: u106 :: u107 :: u108 :: u109 :: u110 :: u111 :: u112 :: u113 :: u114 :: u115 :: u116 :: u117 :: u118 :: u119 :: u120 :: u121 :: u122 :: u123 :: u124 :: u125 :: u126 :: u127 :: u128 :: u129 :: u130 :: u131 :: u132 :: u133 :: t134 :: u135 :: c136 :: c137 :: c138 :: c139 :: c140 :: c141 :: c142 :: c143 :: c144 :: c145 :: c146 :: c147 :: c148 :: c149 :: c150 :: c151 :: c152 :: c153 :: c154 :: c155 :: c156 :: c157 :: c158 :: c159 :: c160 :: c161 :: c162 :: c163 :: c164 :: c165 :: c166 :: c167 :: c168 :: c169 :: c170 :: c171 :: c172 :: c173 :: c174 :: c175 :: c176 :: c177 :: c178 :: c179 :: c180 :: c181 :: c182 :: c183 :: c184 :: c185 :: c186 :: c187 :: c188 :: c189 :: c190 :: c191 :: c192 :: c193 :: c194 :: c195 :: c196 :: c197 :: c198 :: c199 :: c200 :: c201 :: c202 :: c203 :: c204 :: c205 :: c206 :: c207 :: c208 :: c209 :: c210 :: c211 :: c212 :: c213 :: c214 :: c215 :: c216 :: c217 :: c218 :: c219 :: c220 :: c221 :: c222 :: c223 :: c224 :: c225 :: c226 :: c227 :: c228 :: c229 :: c230 :: c231 :: c232 :: c233 :: c234 :: c235 :: c236 :: c237 :: c238 :: c239 :: c240 :: c241 :: c242 :: c243 :: c244 :: c245 :: c246 :: c247 :: c248 :: c249 :: c250 :: c251 :: c252 :: c253 :: c254 :: c255 :: c256 :: c257 :: c258 :: c259 :: c260 :: c261 :: c262 :: c263 :: c264 :: c265 :: c266 :: c267 :: c268 :: c269 :: c270 :: c271 :: c272 :: c273 :: c274 :: c275 :: c276 :: c277 :: c278 :: c279 :: c280 :: c281 :: c282 :: c283 :: c284 :: []).toArray, []⟩ ws) :
    Code.wp Tryd.prog (lp 6) Q ⟨(c0 :: c1 :: c2 :: c3 :: c4 :: c5 :: c6 :: v :: c8 :: (.int .i64 16) :: c10 :: c11 :: c12 :: c13 :: c14 :: c15 :: c16 :: c17 :: c18 :: c19 :: c20 :: c21 :: c22 :: c23 :: c24 :: c25 :: c26 :: c27 :: c28 :: c29 :: c30 :: c31 :: c32 :: c33 :: c34 :: c35 :: c36 :: c37 :: c38 :: c39 :: c40 :: c41 :: c42 :: c43 :: c44 :: c45 :: c46 :: c47 :: c48 :: c49 :: c50 :: c51 :: c52 :: c53 :: c54 :: c55 :: c56 :: c57 :: c58 :: c59 :: c60 :: c61 :: c62 :: c63 :: c64 :: c65 :: c66 :: c67 :: c68 :: c69 :: c70 :: c71 :: c72 :: c73 :: c74 :: c75 :: c76 :: c77 :: c78 :: c79 :: c80 :: c81 :: c82 :: c83 :: c84 :: c85 :: c86 :: c87 :: c88 :: c89 :: c90 :: c91 :: c92 :: c93 :: c94 :: c95 :: c96 :: c97 :: c98 :: c99 :: c100 :: c101 :: c102 :: c103 :: c104 :: c105 :: c106 :: c107 :: c108 :: c109 :: c110 :: c111 :: c112 :: c113 :: c114 :: c115 :: c116 :: c117 :: c118 :: c119 :: c120 :: c121 :: c122 :: c123 :: c124 :: c125 :: c126 :: c127 :: c128 :: c129 :: c130 :: c131 :: c132 :: c133 :: t134 :: c135 :: c136 :: c137 :: c138 :: c139 :: c140 :: c141 :: c142 :: c143 :: c144 :: c145 :: c146 :: c147 :: c148 :: c149 :: c150 :: c151 :: c152 :: c153 :: c154 :: c155 :: c156 :: c157 :: c158 :: c159 :: c160 :: c161 :: c162 :: c163 :: c164 :: c165 :: c166 :: c167 :: c168 :: c169 :: c170 :: c171 :: c172 :: c173 :: c174 :: c175 :: c176 :: c177 :: c178 :: c179 :: c180 :: c181 :: c182 :: c183 :: c184 :: c185 :: c186 :: c187 :: c188 :: c189 :: c190 :: c191 :: c192 :: c193 :: c194 :: c195 :: c196 :: c197 :: c198 :: c199 :: c200 :: c201 :: c202 :: c203 :: c204 :: c205 :: c206 :: c207 :: c208 :: c209 :: c210 :: c211 :: c212 :: c213 :: c214 :: c215 :: c216 :: c217 :: c218 :: c219 :: c220 :: c221 :: c222 :: c223 :: c224 :: c225 :: c226 :: c227 :: c228 :: c229 :: c230 :: c231 :: c232 :: c233 :: c234 :: c235 :: c236 :: c237 :: c238 :: c239 :: c240 :: c241 :: c242 :: c243 :: c244 :: c245 :: c246 :: c247 :: c248 :: c249 :: c250 :: c251 :: c252 :: c253 :: c254 :: c255 :: c256 :: c257 :: c258 :: c259 :: c260 :: c261 :: c262 :: c263 :: c264 :: c265 :: c266 :: c267 :: c268 :: c269 :: c270 :: c271 :: c272 :: c273 :: c274 :: c275 :: c276 :: c277 :: c278 :: c279 :: c280 :: c281 :: c282 :: c283 :: c284 :: []).toArray, []⟩ wq := by
  conv => arg 2; whnf
  obtain ⟨i4, hi4, hy0, hy1, hy2⟩ := info_word
  go_loopw [7, 9, 134] (fun v vi vt ws => ∃ k : Nat, isTok vt = false ∧ 16 ≤ k ∧ k ≤ 64 ∧ vi = .int .i64 (k : Int) ∧ OwnW ws base v (sch CH k) ∧ Below base wq ws) (fun _ vi _ _ => 64 - (intOf vi).toNat)
  case atStart => exact ⟨16, h134, by omega, by omega, rfl, HOW.out, Below.refl _ _⟩
  case round =>
    clear HOW
    rename World => ws
    obtain ⟨k, ht, hk16, hk64, rfl, ho, hb⟩ := hrel
    obtain ⟨A8, k8, rfl, _, _, hr8⟩ := ho.rd
    have HOW := Lib.hid ho
    have HBW := Lib.hid hb
    have HSL := Lib.hid (sch_len CH k)
    have HT := Lib.hid ht
    clear ht
    obtain ⟨ad8, rfl, hab, hc8⟩ := hr8.wordAt (by rw [sch_len]; omega)
    rw [sch_len] at hc8
    clear ho hb hr8
    by_cases hlt : k < 64
    · have hnx : sch CH (k + 1) = sch CH k ++ [ad (ad (ad ((sch CH k).getD (k - 16) 0) (s0 ((sch CH k).getD (k - 15) 0))) ((sch CH k).getD (k - 7) 0)) (s1 ((sch CH k).getD (k - 2) 0))] := by
        show sch CH k ++ [nxt CH (sch CH k) k] = _
        unfold nxt; rw [if_neg (by omega)]
      have HNX := Lib.hid hnx
      have q0 := hc8 (k - 16) (by omega)
      have q1 := hc8 (k - 15) (by omega)
      have q2 := hc8 (k - 7) (by omega)
      have q3 := hc8 (k - 2) (by omega)
      have x0 := sch_at_lt HCL.out k (k - 16)
      have x1 := sch_at_lt HCL.out k (k - 15)
      have x2 := sch_at_lt HCL.out k (k - 7)
      have x3 := sch_at_lt HCL.out k (k - 2)
      clear hnx hc8
      generalize (sch CH k).getD (k - 16) 0 = y0 at *
      generalize (sch CH k).getD (k - 15) 0 = y1 at *
      generalize (sch CH k).getD (k - 7) 0 = y2 at *
      generalize (sch CH k).getD (k - 2) 0 = y3 at *
      have K7 := Lib.hid (show ∀ W, Calls Tryd.prog 44 #[.int .u32 (y1 : Nat), .int .i64 7] W fun e w' => e = .returned (.int .u32 (rotr y1 7 : Nat)) ∧ W = w' from fun W => rturn_c y1 7 W x1 (by decide))
      have K18 := Lib.hid (show ∀ W, Calls Tryd.prog 44 #[.int .u32 (y1 : Nat), .int .i64 18] W fun e w' => e = .returned (.int .u32 (rotr y1 18 : Nat)) ∧ W = w' from fun W => rturn_c y1 18 W x1 (by decide))
      have K17 := Lib.hid (show ∀ W, Calls Tryd.prog 44 #[.int .u32 (y3 : Nat), .int .i64 17] W fun e w' => e = .returned (.int .u32 (rotr y3 17 : Nat)) ∧ W = w' from fun W => rturn_c y3 17 W x3 (by decide))
      have K19 := Lib.hid (show ∀ W, Calls Tryd.prog 44 #[.int .u32 (y3 : Nat), .int .i64 19] W fun e w' => e = .returned (.int .u32 (rotr y3 19 : Nat)) ∧ W = w' from fun W => rturn_c y3 19 W x3 (by decide))
      have K3 := Lib.hid (show ∀ W, Calls Tryd.prog 45 #[.int .u32 (y1 : Nat), .int .i64 3] W fun e w' => e = .returned (.int .u32 (y1 / 2 ^ 3 : Nat)) ∧ W = w' from fun W => rcut_c y1 3 W x1 (by decide))
      have K10 := Lib.hid (show ∀ W, Calls Tryd.prog 45 #[.int .u32 (y3 : Nat), .int .i64 10] W fun e w' => e = .returned (.int .u32 (y3 / 2 ^ 10 : Nat)) ∧ W = w' from fun W => rcut_c y3 10 W x3 (by decide))
      have f1 : bits BinOp.xor .u32 ((rotr y1 7 : Nat) : Int) ((rotr y1 18 : Nat) : Int) = ((rotr y1 7 ^^^ rotr y1 18 : Nat) : Int) := u32_xor_nat _ _ (rotr_lt x1 (by decide)) (rotr_lt x1 (by decide))
      have f2 : bits BinOp.xor .u32 ((rotr y1 7 ^^^ rotr y1 18 : Nat) : Int) ((y1 / 2 ^ 3 : Nat) : Int) = ((s0 y1 : Nat) : Int) := u32_xor_nat _ _ (xor_w (rotr_lt x1 (by decide)) (rotr_lt x1 (by decide))) (Nat.lt_of_le_of_lt (Nat.div_le_self _ _) x1)
      have f3 : bits BinOp.xor .u32 ((rotr y3 17 : Nat) : Int) ((rotr y3 19 : Nat) : Int) = ((rotr y3 17 ^^^ rotr y3 19 : Nat) : Int) := u32_xor_nat _ _ (rotr_lt x3 (by decide)) (rotr_lt x3 (by decide))
      have f4 : bits BinOp.xor .u32 ((rotr y3 17 ^^^ rotr y3 19 : Nat) : Int) ((y3 / 2 ^ 10 : Nat) : Int) = ((s1 y3 : Nat) : Int) := u32_xor_nat _ _ (xor_w (rotr_lt x3 (by decide)) (rotr_lt x3 (by decide))) (Nat.lt_of_le_of_lt (Nat.div_le_self _ _) x3)
      have a1 := wrap32_add y0 (s0 y1)
      have a2 := wrap32_add (ad y0 (s0 y1)) y2
      have a3 := wrap32_add (ad (ad y0 (s0 y1)) y2) (s1 y3)
      generalize ad (ad (ad y0 (s0 y1)) y2) (s1 y3) = r3 at *
      generalize ad (ad y0 (s0 y1)) y2 = r2 at *
      generalize ad y0 (s0 y1) = r1 at *
      generalize s0 y1 = t0 at *
      generalize s1 y3 = t1 at *
      generalize rotr y1 7 ^^^ rotr y1 18 = p0 at *
      generalize rotr y3 17 ^^^ rotr y3 19 = p1 at *
      generalize rotr y1 7 = p2 at *
      generalize rotr y1 18 = p3 at *
      generalize rotr y3 17 = p4 at *
      generalize rotr y3 19 = p5 at *
      generalize y1 / 2 ^ 3 = p6 at *
      generalize y3 / 2 ^ 10 = p7 at *
      have i1 : IntKind.i64.wrap ((k : Int) - 16) = ((k - 16 : Nat) : Int) := by simp [IntKind.wrap, IntKind.signed, IntKind.bits]; omega
      have i2 : IntKind.i64.wrap ((k : Int) - 15) = ((k - 15 : Nat) : Int) := by simp [IntKind.wrap, IntKind.signed, IntKind.bits]; omega
      have i3 : IntKind.i64.wrap ((k : Int) - 7) = ((k - 7 : Nat) : Int) := by simp [IntKind.wrap, IntKind.signed, IntKind.bits]; omega
      have i4' : IntKind.i64.wrap ((k : Int) - 2) = ((k - 2 : Nat) : Int) := by simp [IntKind.wrap, IntKind.signed, IntKind.bits]; omega
      have b1 : k - 16 < (sch CH k).length := by rw [sch_len]; omega
      have b2 : k - 15 < (sch CH k).length := by rw [sch_len]; omega
      have b3 : k - 7 < (sch CH k).length := by rw [sch_len]; omega
      have b4 : k - 2 < (sch CH k).length := by rw [sch_len]; omega
      have b1' : ((k - 16 : Nat) : Int) < ((sch CH k).length : Int) := by omega
      have b2' : ((k - 15 : Nat) : Int) < ((sch CH k).length : Int) := by omega
      have b3' : ((k - 7 : Nat) : Int) < ((sch CH k).length : Int) := by omega
      have b4' : ((k - 2 : Nat) : Int) < ((sch CH k).length : Int) := by omega
      go_wp2_with fail
      refine wp_region_quiet_lit (by kernel_rfl) (by kernel_rfl) ?_
      repeat (go_big_quiet_step ((first
        | (go_at_call 44; with_reducible exact (K7.out _).mono fun _ _ h => ⟨h.1, _, h.2.symm⟩)
        | (go_at_call 44; with_reducible exact (K18.out _).mono fun _ _ h => ⟨h.1, _, h.2.symm⟩)
        | (go_at_call 45; exact (K3.out _).mono fun _ _ h => ⟨h.1, _, h.2.symm⟩))))
      refine wpQuiet_nil ?_
      rintro _ ⟨n6, rfl⟩
      go_wp2_with fail
      refine wp_region_quiet_lit (by kernel_rfl) (by kernel_rfl) ?_
      repeat (go_big_quiet_step ((first
        | (go_at_call 44; with_reducible exact (K17.out _).mono fun _ _ h => ⟨h.1, _, h.2.symm⟩)
        | (go_at_call 44; with_reducible exact (K19.out _).mono fun _ _ h => ⟨h.1, _, h.2.symm⟩)
        | (go_at_call 45; exact (K10.out _).mono fun _ _ h => ⟨h.1, _, h.2.symm⟩))))
      refine wpQuiet_nil ?_
      rintro _ ⟨n7, rfl⟩
      go_wp2_with fail
      have HAD := Lib.hid hab
      obtain ⟨Y, hY⟩ : ∃ Y, Y = (ws.drewN n6).drewN n7 := ⟨_, rfl⟩
      have hby : Below ws.heap.size ws Y := by rw [hY]; exact belowDrewN n7 (belowDrewN n6 (Below.refl _ _))
      have z0 := cell_ext (show Y.cell? (ad8.add (k - 16)) = some (.int .u32 (y0 : Nat)) from by rw [hY]; exact q0)
      have z2 := cell_ext (show Y.cell? (ad8.add (k - 7)) = some (.int .u32 (y2 : Nat)) from by rw [hY]; exact q2)
      have HBY := Lib.hid hby
      have HOY := Lib.hid (HOW.out.next hby)
      have HBQ := Lib.hid (HBW.out.trans (hby.mono (Nat.le_trans hbase HBW.out.size)))
      rw [← hY]
      clear hY q0 q1 q2 q3 hby x0 x1 x2 x3 K7 K18 K17 K19 K3 K10 f1 f2 f3 f4 HOW HBW
      refine wp_region_loudTail 17 Y [134] (fun _ u w => OwnW w Y.heap.size u [r3]) (by kernel_rfl) (by kernel_rfl) (by kernel_rfl) (by have h := HT.out; exact congrArg (fun b => !b && true) h) (fun _ _ _ _ h hb => OwnW.next h hb) (Below.refl _ _).drew ?_
      simp only [List.take_succ_cons, List.take_zero, List.drop_succ_cons, List.drop_zero]
      repeat (first
        | (refine wpLoud_plain rfl rfl rfl ?_; intro K hK; go_big_quiet_op; go_big_quiet_on)
        | (refine wpLoud_make rfl (fun _ _ h => by cases h) rfl 134 rfl rfl (fun y => ⟨_, _, run_oneW y.wd r3 (.tmp 133) rfl rfl, (Below.refl _ _).alloc (Nat.le_refl _) _, OwnW.new y.wd _ [r3] y.2.size (by simp [maxLen])⟩) _ (by simp only [Act.put, List.setIfInBounds_toArray, List.set_cons_succ, List.set_cons_zero]; rfl) ?_))
      refine wpLoud_end [134] (by rfl) ?_
      intro g z hg
      have h134' : OwnW z.wd Y.heap.size (g 134) [r3] := hg 134 (by simp)
      obtain ⟨A9, k9, e9, _, _, r9⟩ := h134'.rd
      have HR9 := Lib.hid r9
      have HOZ := Lib.hid (HOY.out.next z.bel)
      have HBZ := Lib.hid (HBQ.out.trans (z.bel.mono (Nat.le_trans hbase HBQ.out.size)))
      generalize z.wd = Y2 at *
      simp only [fill, Act.put, List.setIfInBounds_toArray, List.set_cons_succ, List.set_cons_zero]
      rw [e9]
      clear hg h134' r9 e9 z0 z2
      go_wp2_with (at_builtin; refine wpList_app _ rfl (.tmp 118) (.tmp 134) _ rfl base 69 i4 (.int .u32 0) 1 4 Tryd.underlying70 hi4 hy0 hy1 hy2 rfl (by decide) _ _ _ rfl HOZ.out _ A9 1 k9 (w32 [r3]) rfl rfl HR9.out (w32_one [_]) (by have := HSL.out; omega) (by have := HSL.out; omega) (by have := HBZ.out.size; omega) ?_; intro v9 w9 hap; have HO9 := Lib.hid (show OwnW w9 base v9 (sch CH (k + 1)) from by rw [HNX.out]; exact OwnW.snoc hap); have HB9 := Lib.hid (show Below base wq w9 from HBZ.out.trans (hap.below HOZ.out (by have := HBZ.out.size; omega))); clear hap)
      refine ⟨⟨k + 1, by rfl, by omega, by omega, by congr 1, HO9.out, HB9.out⟩, ?_⟩
      simp only [intOf]; omega
    · obtain rfl : k = 64 := by omega
      go_wp2_with fail
      exact hexit _ _ _ _ _ _ _ _ _ _ _ _ _ _ _ _ _ _ _ _ _ _ _ _ _ _ _ _ _ _ _ _ _ _ _ _ _ _ _ _ _ _ _ _ _ _ _ _ _ _ _ _ _ _ _ _ _ _ _ _ _ _ _ _ _ _ _ HT.out HOW.out HBW.out
end Go.Proofs.YthlmlmkabjppeaaDoor
