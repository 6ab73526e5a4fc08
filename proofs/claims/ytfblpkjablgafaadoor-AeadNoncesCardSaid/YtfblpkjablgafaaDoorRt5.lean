/- The document's tag: what its loops share; its key's first half. -/
import Derived.Test.YtfblpkjablgafaaDoorRpM
import Derived.Test.YtfblpkjablgafaaDoorCat
import Derived.StillTailTactics
namespace Go.Proofs.YtfblpkjablgafaaDoor
open Go.RowKit
set_option linter.unusedVariables false
set_option linter.unusedSimpArgs false
def tglF (n : Nat) : Code → Option Code
  | .seq a b => match tglF n a with
    | some c => some c
    | none => tglF n b
  | .loop a => tglF n a
  | .block i a => if i == n then some a else tglF n a
  | .scope a => tglF n a
  | .cond _ a b => match tglF n a with
    | some c => some c
    | none => tglF n b
  | _ => none
noncomputable def tgl (n : Nat) : Code := ((Tryd.f24.body.bind (tglF n)).getD .skip)
theorem g1_refl (w : World) (g : Nat) : w.grownBy w (some g) := World.grownBy.refl w _
theorem g1_set {w w' : World} {g : Nat} (h : w.grownBy w' (some g)) (o : Nat) (v : Value) : w.grownBy (w'.setCell ⟨g, o, none⟩ v) (some g) :=
  ⟨h.os, h.tape, h.output, by rw [heapSize_set]; exact h.size, fun k hk hn => (by
    simp only [World.setCell, Array.getElem?_modify]
    rw [if_neg (fun e => hn (by rw [e]))]
    exact h.block k hk hn)⟩
theorem g1_drew {w w' : World} {g : Nat} (h : w.grownBy w' (some g)) : w.grownBy w'.drew (some g) := ⟨h.os, h.tape, h.output, h.size, h.block⟩
theorem g1_blk {w w' : World} {g b : Nat} {T : TypeId} {cs : Array Value} (h : w.grownBy w' (some g)) (hb : Blk w b T cs) (hn : b ≠ g) : Blk w' b T cs := (h.block b hb.lt (by intro e; injection e with e; exact hn e)).trans hb
theorem g1_below {w w' : World} {g n : Nat} (h : w.grownBy w' (some g)) (hn : n ≤ g) (hs : n ≤ w.heap.size) : Below n w w' := (Below.refl n w).grown h hs (fun k hk => by injection hk with hk; omega)
theorem g1_below_refl {w w' : World} {g : Nat} (h : w.grownBy w' (some g)) {n : Nat} {w0 : World} (hb : Below n w0 w) (hn : n ≤ g) (hs : n ≤ w.heap.size) : Below n w0 w' := hb.grown h hs (fun k hk => by injection hk with hk; omega)
theorem clampL_len (k : List Nat) : (clampL k).length = 16 := rfl
theorem clampL_take (k : List Nat) (i : Nat) (h : i < 16) : (clampL k).take (i + 1) = (clampL k).take i ++ [clampB i (k.getD i 0)] := by
  rw [List.take_succ_eq_append_getElem (by rw [clampL_len]; exact h)]
  congr 2
  simp [clampL]
theorem clampB_lt (i c : Nat) (h : c < 256) : clampB i c < 256 := by
  unfold clampB
  split
  · omega
  · split <;> omega
theorem clampL_lt (k : List Nat) (hl : ∀ c ∈ k, c < 256) : ∀ c ∈ clampL k, c < 256 := fun c hc => by
  obtain ⟨i, _, rfl⟩ := List.mem_map.1 hc
  exact clampB_lt _ _ (getD_lt hl i)
set_option maxRecDepth 1000000 in
set_option maxHeartbeats 40000000 in
theorem tloop0 (Q : Exit → Act → World → Prop) (wq : World) (kb : Nat) (k : List Nat) (c0 c1 c3 c4 c7 c8 c9 c10 c11 c12 c13 c14 c15 c16 c17 c18 c19 c20 c21 c22 c23 c24 c25 c26 c27 c28 c29 c30 c31 c32 c33 c34 c35 c36 c37 c38 c39 c40 c41 c42 c43 c44 c45 c46 c47 c48 c49 c50 c51 c52 c53 c54 c55 c56 c57 c58 c59 c60 c61 c62 c63 c64 c65 c66 c67 c68 c69 c70 c71 c72 c73 c74 c75 c76 c77 c78 c79 c80 c81 c82 c83 c84 c85 c86 c87 c88 c89 c90 c91 c92 c93 c94 c95 c96 c97 c98 c99 c100 c101 c102 c103 c104 c105 c106 c107 c108 c109 c110 c111 c112 c113 c114 c115 c116 c117 c118 c119 c120 c121 c122 c123 c124 c125 c126 c127 c128 c129 c130 c131 c132 c133 c134 c135 c136 c137 c138 c139 c140 c141 c142 c143 c144 c145 c146 c147 c148 c149 c150 c151 c152 c153 c154 c155 c156 c157 c158 c159 c160 c161 c162 c163 c164 c165 c166 c167 c168 c169 c170 c171 c172 c173 c174 c175 c176 c177 c178 c179 c180 c181 c182 c183 c184 c185 c186 c187 c188 c189 c190 : Value)
    (HK : Hid (Blk wq kb 22 (vb k))) (hk : k.length = 32) (HL : Hid (∀ c ∈ k, c < 256))
    (hexit : ∀ (u6 u7 u24 u25 u26 u27 u28 u29 u30 u31 u32 u33 u34 u35 u36 u37 u38 u39 u40 u41 u42 u43 u44 u45 u46 u47 u48 u49 : Value) (v : Value) (ws : World), OwnB ws wq.heap.size v (clampL k) → Below wq.heap.size wq ws → Q (.exit 0) ⟨(c0 :: c1 :: (.pointer (some ⟨kb, 0, none⟩)) :: c3 :: c4 :: v :: u6 :: u7 :: c8 :: c9 :: c10 :: c11 :: c12 :: c13 :: c14 :: c15 :: c16 :: c17 :: c18 :: c19 :: c20 :: c21 :: c22 :: c23 :: u24 :: u25 :: u26 :: u27 :: u28 :: u29 :: u30 :: u31 :: u32 :: u33 :: u34 :: u35 :: u36 :: u37 :: u38 :: u39 :: u40 :: u41 :: u42 :: u43 :: u44 :: u45 :: u46 :: u47 :: u48 :: u49 :: c50 :: c51 :: c52 :: c53 :: c54 :: c55 :: c56 :: c57 :: c58 :: c59 :: c60 :: c61 :: c62 :: c63 :: c64 :: c65 :: c66 :: c67 :: c68 :: c69 :: c70 :: c71 :: c72 :: c73 :: c74 :: c75 :: c76 :: c77 :: c78 :: c79 :: c80 :: c81 :: c82 :: c83 :: c84 :: c85 :: c86 :: c87 :: c88 :: c89 :: c90 :: c91 :: c92 :: c93 :: c94 :: c95 :: c96 :: c97 :: c98 :: c99 :: c100 :: c101 :: c102 :: c103 :: c104 :: c105 :: c106 :: c107 :: c108 :: c109 :: c110 :: c111 :: c112 :: c113 :: c114 :: c115 :: c116 :: c117 :: c118 :: c119 :: c120 :: c121 :: c122 :: c123 :: c124 :: c125 :: c126 :: c127 :: c128 :: c129 :: c130 :: c131 :: c132 :: c133 :: c134 :: c135 :: c136 :: c137 :: c138 :: c139 :: c140 :: c141 :: c142 :: c143 :: c144 :: c145 :: c146 :: c147 :: c148 :: c149 :: c150 :: c151 :: c152 :: c153 :: c154 :: c155 :: c156 :: c157 :: c158 :: c159 :: c160 :: c161 :: c162 :: c163 :: c164 :: c165 :: c166 :: c167 :: c168 :: c169 :: c170 :: c171 :: c172 :: c173 :: c174 :: c175 :: c176 :: c177 :: c178 :: c179 :: c180 :: c181 :: c182 :: c183 :: c184 :: c185 :: c186 :: c187 :: c188 :: c189 :: c190 :: []).toArray, []⟩ ws) :
    Code.wp Tryd.prog (tgl 0) Q ⟨(c0 :: c1 :: (.pointer (some ⟨kb, 0, none⟩)) :: c3 :: c4 :: (.slice none 0 0) :: (.int .i64 0) :: c7 :: c8 :: c9 :: c10 :: c11 :: c12 :: c13 :: c14 :: c15 :: c16 :: c17 :: c18 :: c19 :: c20 :: c21 :: c22 :: c23 :: c24 :: c25 :: c26 :: c27 :: c28 :: c29 :: c30 :: c31 :: c32 :: c33 :: c34 :: c35 :: c36 :: c37 :: c38 :: c39 :: c40 :: c41 :: c42 :: c43 :: c44 :: c45 :: c46 :: c47 :: c48 :: c49 :: c50 :: c51 :: c52 :: c53 :: c54 :: c55 :: c56 :: c57 :: c58 :: c59 :: c60 :: c61 :: c62 :: c63 :: c64 :: c65 :: c66 :: c67 :: c68 :: c69 :: c70 :: c71 :: c72 :: c73 :: c74 :: c75 :: c76 :: c77 :: c78 :: c79 :: c80 :: c81 :: c82 :: c83 :: c84 :: c85 :: c86 :: c87 :: c88 :: c89 :: c90 :: c91 :: c92 :: c93 :: c94 :: c95 :: c96 :: c97 :: c98 :: c99 :: c100 :: c101 :: c102 :: c103 :: c104 :: c105 :: c106 :: c107 :: c108 :: c109 :: c110 :: c111 :: c112 :: c113 :: c114 :: c115 :: c116 :: c117 :: c118 :: c119 :: c120 :: c121 :: c122 :: c123 :: c124 :: c125 :: c126 :: c127 :: c128 :: c129 :: c130 :: c131 :: c132 :: c133 :: c134 :: c135 :: c136 :: c137 :: c138 :: c139 :: c140 :: c141 :: c142 :: c143 :: c144 :: c145 :: c146 :: c147 :: c148 :: c149 :: c150 :: c151 :: c152 :: c153 :: c154 :: c155 :: c156 :: c157 :: c158 :: c159 :: c160 :: c161 :: c162 :: c163 :: c164 :: c165 :: c166 :: c167 :: c168 :: c169 :: c170 :: c171 :: c172 :: c173 :: c174 :: c175 :: c176 :: c177 :: c178 :: c179 :: c180 :: c181 :: c182 :: c183 :: c184 :: c185 :: c186 :: c187 :: c188 :: c189 :: c190 :: []).toArray, []⟩ wq := by
  conv => arg 2; whnf
  obtain ⟨i0, hi, hz0, hz1, hz2⟩ := info_parts byteInfo
  go_loopw [5, 6] (fun v i wr => ∃ n : Nat, n ≤ 16 ∧ i = .int .i64 (n : Int) ∧ OwnB wr wq.heap.size v ((clampL k).take n) ∧ Below wq.heap.size wq wr) (fun _ i _ => 16 - (intOf i).toNat)
  case atStart => exact ⟨0, by omega, rfl, OwnB.nil_ _ _, Below.refl _ _⟩
  case round =>
    rename World => wr
    obtain ⟨i, hi16, rfl, how, hbw⟩ := hrel
    have HOW := Lib.hid how
    have HBW := Lib.hid hbw
    clear how hbw
    by_cases hlt : i < 16
    · have HLT := Lib.hid (show ((clampL k).take i).length = i by rw [List.length_take, clampL_len]; omega)
      have HTK := Lib.hid (clampL_take k i hlt)
      have d0 := (HK.out.below HBW.out HK.out.lt)
      have d1 := (d0.cell i).trans (vb_at k i (by omega))
      have p1 : (i : Int) < 16 := by omega
      have p2 : (i : Int) < 32 := by omega
      have hc := getD_lt HL.out i
      clear d0
      generalize k.getD i 0 = c at *
      by_cases h3 : i % 4 = 3
      · have t1 : ((i : Int) % 4 == 3) = true := by have : (i : Int) % 4 = 3 := by omega
                                                    rw [this]; rfl
        have t2 : ((i : Int) % 4 == 0) = false := by have : (i : Int) % 4 = 3 := by omega
                                                     rw [this]; rfl
        obtain ⟨v, hv⟩ : ∃ v, v = c % 16 := ⟨_, rfl⟩
        have HCB := Lib.hid (show clampB i c = v by rw [hv]; unfold clampB; rw [if_pos h3])
        have f1 : ((c : Nat) : Int) % 16 = (v : Int) := by omega
        clear h3 hc hv
        go_wp2_with (first
          | (refine wpList_valM rfl _ _ (run_one wr v (.tmp 47) rfl rfl) ?_)
          | (at_builtin; refine wpList_app _ rfl (.tmp 46) (.tmp 48) _ rfl wq.heap.size 5 i0 (.int .u8 0) 1 1 Tryd.underlying26 hi hz0 hz1 hz2 rfl (by decide) _ ((clampL k).take i).length (byt ((clampL k).take i)) rfl (HOW.out.alloc _) _ _ 1 1 [.int .u8 (v : Nat)] rfl rfl (by exact rd_one _ _ _) (byt_one [v]) (by rw [HLT.out]; omega) (by rw [HLT.out]; omega) (by have := HBW.out.size; simp; omega) ?_; intro v5 w5 hap; have HO5 := Lib.hid (OwnB.snoc hap); have HB5 := Lib.hid ((HBW.out.alloc HBW.out.size _).trans (hap.below (HOW.out.alloc _) (by have := HBW.out.size; simp; omega))); clear hap))
        exact ⟨⟨i + 1, by omega, by congr 1, by rw [HTK.out, HCB.out]; exact HO5.out, HB5.out⟩, by simp only [intOf]; omega⟩
      · by_cases h0 : i % 4 = 0
        · have t1 : ((i : Int) % 4 == 3) = false := by have : (i : Int) % 4 = 0 := by omega
                                                       rw [this]; rfl
          have t2 : ((i : Int) % 4 == 0) = true := by have : (i : Int) % 4 = 0 := by omega
                                                      rw [this]; rfl
          by_cases hp : 0 < i
          · have p3 : (0 : Int) < (i : Int) := by omega
            obtain ⟨v, hv⟩ : ∃ v, v = c / 4 * 4 := ⟨_, rfl⟩
            have HCB := Lib.hid (show clampB i c = v by rw [hv]; unfold clampB; rw [if_neg h3, if_pos ⟨h0, hp⟩])
            obtain ⟨x, hx⟩ : ∃ x, x = c / 4 := ⟨_, rfl⟩
            have f1 : ((c : Nat) : Int) / 4 = (x : Int) := by omega
            have f2 : ((x : Nat) : Int) * 4 = (v : Int) := by omega
            have f3 : ((x : Nat) : Int) % 256 = (x : Int) := by omega
            have f4 : ((v : Nat) : Int) % 256 = (v : Int) := by omega
            clear h3 h0 hp hc hv hx
            go_wp2_with (first
              | (refine wpList_valM rfl _ _ (run_one wr v (.tmp 47) rfl rfl) ?_)
              | (at_builtin; refine wpList_app _ rfl (.tmp 46) (.tmp 48) _ rfl wq.heap.size 5 i0 (.int .u8 0) 1 1 Tryd.underlying26 hi hz0 hz1 hz2 rfl (by decide) _ ((clampL k).take i).length (byt ((clampL k).take i)) rfl (HOW.out.alloc _) _ _ 1 1 [.int .u8 (v : Nat)] rfl rfl (by exact rd_one _ _ _) (byt_one [v]) (by rw [HLT.out]; omega) (by rw [HLT.out]; omega) (by have := HBW.out.size; simp; omega) ?_; intro v5 w5 hap; have HO5 := Lib.hid (OwnB.snoc hap); have HB5 := Lib.hid ((HBW.out.alloc HBW.out.size _).trans (hap.below (HOW.out.alloc _) (by have := HBW.out.size; simp; omega))); clear hap))
            exact ⟨⟨i + 1, by omega, by congr 1, by rw [HTK.out, HCB.out]; exact HO5.out, HB5.out⟩, by simp only [intOf]; omega⟩
          · have p3 : ¬ (0 : Int) < (i : Int) := by omega
            obtain ⟨v, hv⟩ : ∃ v, v = c := ⟨_, rfl⟩
            have HCB := Lib.hid (show clampB i c = v by rw [hv]; unfold clampB; rw [if_neg h3, if_neg (fun h => hp h.2)])
            rw [← hv] at d1
            clear h3 h0 hp hc hv
            go_wp2_with (first
              | (refine wpList_valM rfl _ _ (run_one wr v (.tmp 47) rfl rfl) ?_)
              | (at_builtin; refine wpList_app _ rfl (.tmp 46) (.tmp 48) _ rfl wq.heap.size 5 i0 (.int .u8 0) 1 1 Tryd.underlying26 hi hz0 hz1 hz2 rfl (by decide) _ ((clampL k).take i).length (byt ((clampL k).take i)) rfl (HOW.out.alloc _) _ _ 1 1 [.int .u8 (v : Nat)] rfl rfl (by exact rd_one _ _ _) (byt_one [v]) (by rw [HLT.out]; omega) (by rw [HLT.out]; omega) (by have := HBW.out.size; simp; omega) ?_; intro v5 w5 hap; have HO5 := Lib.hid (OwnB.snoc hap); have HB5 := Lib.hid ((HBW.out.alloc HBW.out.size _).trans (hap.below (HOW.out.alloc _) (by have := HBW.out.size; simp; omega))); clear hap))
            exact ⟨⟨i + 1, by omega, by congr 1, by rw [HTK.out, HCB.out]; exact HO5.out, HB5.out⟩, by simp only [intOf]; omega⟩
        · have t1 : ((i : Int) % 4 == 3) = false := by have : (i : Int) % 4 ≠ 3 := by omega
                                                       simpa using this
          have t2 : ((i : Int) % 4 == 0) = false := by have : (i : Int) % 4 ≠ 0 := by omega
                                                       simpa using this
          obtain ⟨v, hv⟩ : ∃ v, v = c := ⟨_, rfl⟩
          have HCB := Lib.hid (show clampB i c = v by rw [hv]; unfold clampB; rw [if_neg h3, if_neg (fun h => h0 h.1)])
          rw [← hv] at d1
          clear h3 h0 hc hv
          go_wp2_with (first
            | (refine wpList_valM rfl _ _ (run_one wr v (.tmp 47) rfl rfl) ?_)
            | (at_builtin; refine wpList_app _ rfl (.tmp 46) (.tmp 48) _ rfl wq.heap.size 5 i0 (.int .u8 0) 1 1 Tryd.underlying26 hi hz0 hz1 hz2 rfl (by decide) _ ((clampL k).take i).length (byt ((clampL k).take i)) rfl (HOW.out.alloc _) _ _ 1 1 [.int .u8 (v : Nat)] rfl rfl (by exact rd_one _ _ _) (byt_one [v]) (by rw [HLT.out]; omega) (by rw [HLT.out]; omega) (by have := HBW.out.size; simp; omega) ?_; intro v5 w5 hap; have HO5 := Lib.hid (OwnB.snoc hap); have HB5 := Lib.hid ((HBW.out.alloc HBW.out.size _).trans (hap.below (HOW.out.alloc _) (by have := HBW.out.size; simp; omega))); clear hap))
          exact ⟨⟨i + 1, by omega, by congr 1, by rw [HTK.out, HCB.out]; exact HO5.out, HB5.out⟩, by simp only [intOf]; omega⟩
    · obtain rfl : i = 16 := by omega
      go_wp2_with fail
      exact hexit _ _ _ _ _ _ _ _ _ _ _ _ _ _ _ _ _ _ _ _ _ _ _ _ _ _ _ _ _ _ (by have := HOW.out; rwa [List.take_of_length_le (by rw [clampL_len]; exact Nat.le_refl _)] at this) HBW.out
end Go.Proofs.YtfblpkjablgafaaDoor
