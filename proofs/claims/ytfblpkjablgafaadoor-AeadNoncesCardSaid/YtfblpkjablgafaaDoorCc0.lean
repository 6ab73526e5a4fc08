/- Values made of what loud operations handed back; contract: pad. -/
import Derived.Test.YtfblpkjablgafaaDoorCb4
import Derived.Test.YtfblpkjablgafaaDoorPco
namespace Go.Proofs.YtfblpkjablgafaaDoor
open Go.RowKit
set_option linter.unusedVariables false
set_option linter.unusedSimpArgs false
section
variable {P : Program} {ops : Array Oper} {Z : World} {ls : List Tmp} {V : Tmp → Value → World → Prop} {Q : Act → Prop} {rest : List Oper} {o : Oper} {b : Act}
/-- an operation that makes something new out of what loud operations handed back -/
theorem wpLoud_makeG (d : Tmp) (hd : o.dst = some d) (hl : ls.contains d = true) (need : List Tmp) (hw : Region.wanted o (yielded ops b.tmps) = true) (hsel : ∀ cs t, o.op ≠ .select cs t)
    (hn : (need.all fun k => ls.contains k && ((o.looksAt ops).contains k && isTok (b.eval (.tmp k)))) = true)
    (hc : ∀ (g : Tmp → Value) (x : Ext Z), (∀ k ∈ need, V k (g k) x.wd) → ∃ u w'', (execOp (over ls b g) o).run P x.wd = .ok (.value u) w'' ∧ Below x.wd.heap.size x.wd w'' ∧ V d u w'')
    (b' : Act) (hb : b.put o.dst tok = b') (h : wpLoud P ops Z ls V Q rest b') : wpLoud P ops Z ls V Q (o :: rest) b := by
  subst hb
  unfold wpLoud
  rw [if_pos hw]
  refine ⟨tok, fun a w hC hs => ?_, h⟩
  have he : ∀ x ∈ o.op.operands, a.eval x = over ls b (fun k => a.eval (.tmp k)) x := fun x hx => by
    cases x with
    | tmp k =>
      have hk : k ∈ o.looksAt ops := List.mem_append_left _ (List.mem_filterMap.2 ⟨.tmp k, by simpa using hx, rfl⟩)
      show _ = if ls.contains k then _ else _
      cases hcn : ls.contains k
      · exact (hs k hk).2 hcn
      · rfl
    | const v => rfl
    | global v => rfl
    | func v => rfl
  rw [execOp_congr o hsel he]
  obtain ⟨u, w'', h1, h2, h3⟩ := hc (fun k => a.eval (.tmp k)) ⟨w, hC⟩ (fun k hk => by
    have h1 := List.all_eq_true.1 hn k hk
    simp only [Bool.and_eq_true] at h1
    exact (hs k (by simpa using h1.2.1)).1 h1.1 (isTok_eq h1.2.2))
  have h1' : (execOp (over ls b fun k => a.eval (.tmp k)) o).run P w = .ok (.value u) w'' := h1
  rw [h1']
  exact .inr ⟨h2, fun d' hd' => by rw [hd] at hd'; injection hd' with hd'; subst hd'; exact ⟨hl, h3⟩⟩
end
theorem i64_and15 (n : Int) : bits .and .i64 n 15 = n % 16 := by
  have h63 : (BitVec.ofInt 64 15).toNat = 2 ^ 4 - 1 := by decide
  have key : (BitVec.ofInt 64 n &&& BitVec.ofInt 64 15).toNat = (n % ((2 ^ 64 : Nat) : Int)).toNat % 2 ^ 4 := by
    rw [BitVec.toNat_and, BitVec.toNat_ofInt, h63, Nat.and_two_pow_sub_one_eq_mod]
  show IntKind.i64.wrap ((BitVec.ofInt 64 n &&& BitVec.ofInt 64 15).toNat : Nat) = n % 16
  rw [key, IntKind.wrap_i64]
  omega
def padN (n : Nat) : Nat := (16 - n % 16) % 16
theorem padN_lt (n : Nat) : padN n < 16 := Nat.mod_lt _ (by decide)
def zs (n : Nat) : List Nat := List.replicate n 0
theorem zs_lt (n : Nat) : ∀ c ∈ zs n, c < 256 := fun c h => by rw [(List.mem_replicate.1 h).2]; decide
set_option maxRecDepth 100000 in
set_option maxHeartbeats 1000000 in
theorem pad_c (n : Nat) (w : World) (hn : n ≤ 1000000000) : Calls Tryd.prog 29 #[.int .i64 n] w (Gives (zs (padN n)) w) := by
  have hp := padN_lt n
  have f0 : IntKind.i64.wrap (-(n : Int)) = -(n : Int) := by simp [IntKind.wrap, IntKind.signed, IntKind.bits]; omega
  have f1 : bits BinOp.and .i64 (-(n : Int)) 15 = ((padN n : Nat) : Int) := by rw [i64_and15]; unfold padN; omega
  have HO := Lib.hid (OwnB.new w w.heap.size (zs (padN n)) (Nat.le_refl _) (by simp [zs, maxLen]; omega))
  have hzl : (zs (padN n)).length = padN n := by simp [zs]
  rw [hzl] at HO
  clear hzl
  have HB := Lib.hid (show Below w.heap.size w (w.alloc (.cells (byt (zs (padN n))).toArray 5)) from (Below.refl _ _).alloc (Nat.le_refl _) _)
  have hmk : (Instr.makeSlice 26 (.int .i64 (padN n : Int)) (.int .i64 (padN n : Int))).run Tryd.prog w = .ok (.slice (some ⟨w.heap.size, 0, none⟩) (padN n) (padN n)) (w.alloc (.cells (byt (zs (padN n))).toArray 5)) := run_make_bytes (padN n) (by omega) w
  generalize padN n = p at *
  generalize w.alloc (.cells (byt (zs p)).toArray 5) = W1 at *
  go_enter Tryd.func29, Tryd.ntmps29
  go_wp2
  refine bodyPost_ret (results_tmp rfl _ _ _) rfl ?_
  exact ⟨_, rfl, HO.out, HB.out⟩
/-- what is tagged -/
def sizesL (beside under : List Nat) : List Nat := form beside.length 8 ++ form under.length 8
def taggedL (beside under : List Nat) : List Nat := beside ++ (zs (padN beside.length) ++ (under ++ (zs (padN under.length) ++ sizesL beside under)))
def tagL (k nonce beside under : List Nat) : List Nat := polT ((blkL k 0 nonce).take 32) (taggedL beside under)
theorem sizesL_len (beside under : List Nat) : (sizesL beside under).length = 16 := by simp [sizesL, form_len]
theorem sizesL_lt (beside under : List Nat) : ∀ c ∈ sizesL beside under, c < 256 := fun c h => by
  rcases List.mem_append.1 h with h | h <;> exact form_lt _ _ c h
theorem taggedL_lt {beside under : List Nat} (hb : ∀ c ∈ beside, c < 256) (hu : ∀ c ∈ under, c < 256) : ∀ c ∈ taggedL beside under, c < 256 := fun c h => by
  rcases List.mem_append.1 h with h | h
  · exact hb c h
  · rcases List.mem_append.1 h with h | h
    · exact zs_lt _ c h
    · rcases List.mem_append.1 h with h | h
      · exact hu c h
      · rcases List.mem_append.1 h with h | h
        · exact zs_lt _ c h
        · exact sizesL_lt _ _ c h
theorem taggedL_len (beside under : List Nat) : (taggedL beside under).length ≤ beside.length + under.length + 48 := by
  have h1 := padN_lt beside.length
  have h2 := padN_lt under.length
  simp only [taggedL, List.length_append, sizesL_len, zs, List.length_replicate]
  omega
end Go.Proofs.YtfblpkjablgafaaDoor
