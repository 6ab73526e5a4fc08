/- Codes: the contract. -/
import Derived.Test.YthlmlmkabjppeaaDoorSs2
import Derived.Test.YthlmlmkabjppeaaDoorShaC
import Derived.Laws.CopyRow
import Derived.StillTailTactics
namespace Go.Proofs.YthlmlmkabjppeaaDoor
open Go.RowKit
set_option linter.unusedVariables false
set_option linter.unusedSimpArgs false
def zk64 : Array Value := vb (List.replicate 64 0)
theorem zero_k64 (w : World) : (zeroValue 67).run Tryd.prog w = .ok (.agg zk64) w := by kernel_rfl
theorem info_k64 : (Tryd.prog.info? 67).map (·.size) = some 64 := by kernel_rfl
theorem u8_xor_nat (x c : Nat) (hx : x < 256) (hc : c < 256) : Go.bits BinOp.xor IntKind.u8 (x : Int) (c : Int) = ((x ^^^ c : Nat) : Int) := by
  show IntKind.wrap IntKind.u8 ((BitVec.ofInt 8 (x : Int) ^^^ BitVec.ofInt 8 (c : Int)).toNat : Int) = _
  rw [BitVec.ofInt_natCast, BitVec.ofInt_natCast, BitVec.toNat_xor, BitVec.toNat_ofNat, BitVec.toNat_ofNat, Nat.mod_eq_of_lt hx, Nat.mod_eq_of_lt hc, IntKind.wrap_u8]
  have : x ^^^ c < 2 ^ 8 := Nat.xor_lt_two_pow hx hc
  omega
/-- bytes turned as far as they are -/
def xrTo (b : Nat) (L : List Nat) (k : Nat) : List Nat := xr b (L.take k) ++ L.drop k
theorem xrTo_zero (b : Nat) (L : List Nat) : xrTo b L 0 = L := by simp [xrTo, xr]
theorem xrTo_end (b : Nat) (L : List Nat) (n : Nat) (h : L.length = n) : xrTo b L n = xr b L := by subst h; simp [xrTo]
theorem xr_len (b : Nat) (L : List Nat) : (xr b L).length = L.length := by simp [xr]
theorem xrTo_len (b : Nat) (L : List Nat) (k : Nat) (h : k ≤ L.length) : (xrTo b L k).length = L.length := by simp [xrTo, xr_len]; omega
theorem xrTo_at (b : Nat) (L : List Nat) (k : Nat) (h : k < L.length) : (xrTo b L k).getD k 0 = L.getD k 0 := by
  have h1 : (xr b (L.take k)).length = k := by rw [xr_len, List.length_take]; omega
  rw [xrTo, List.getD_eq_getElem?_getD, List.getD_eq_getElem?_getD, List.getElem?_append_right (by omega), h1, Nat.sub_self, List.getElem?_drop, Nat.add_zero]
theorem xrTo_set (b : Nat) (L : List Nat) (k : Nat) (h : k < L.length) : (xrTo b L k).set k (L.getD k 0 ^^^ b) = xrTo b L (k + 1) := by
  have h1 : (xr b (L.take k)).length = k := by rw [xr_len, List.length_take]; omega
  have h2 : L.drop k = L.getD k 0 :: L.drop (k + 1) := by
    rw [List.drop_eq_getElem_cons h, List.getD_eq_getElem?_getD, List.getElem?_eq_getElem h]; rfl
  have h3 : xr b (L.take (k + 1)) = xr b (L.take k) ++ [L.getD k 0 ^^^ b] := by
    unfold xr
    rw [List.take_add_one, List.getElem?_eq_getElem h, List.map_append, List.getD_eq_getElem?_getD, List.getElem?_eq_getElem h]
    rfl
  rw [xrTo, List.set_append_right _ _ (by omega), h1, Nat.sub_self, h2, List.set_cons_zero, xrTo, h3, List.append_assoc]
  rfl
theorem xr_lt {b : Nat} (hb : b < 256) {L : List Nat} (h : ∀ c ∈ L, c < 256) : ∀ c ∈ xr b L, c < 256 := by
  intro c hc
  obtain ⟨d, hd, rfl⟩ := List.mem_map.1 hc
  have : d ^^^ b < 2 ^ 8 := Nat.xor_lt_two_pow (h d hd) hb
  omega
theorem fill64_lt {k : List Nat} (h : ∀ c ∈ k, c < 256) : ∀ c ∈ fill64 k, c < 256 := by
  intro c hc
  rcases List.mem_append.1 hc with hc | hc
  · exact h c hc
  · rw [List.eq_of_mem_replicate hc]; decide
/-- bytes copied to the front of 64 zeros -/
theorem copy64 (w : World) (g : Nat) (A : Option Addr) (ca : Nat) (B : Nat) (k : List Nat) (hb : Blk w g 67 zk64) (hr : Rd w B A (byt k)) (hk : k.length ≤ 64) :
    ∃ w', (Builtin.copy_ #[22, 22] 3 #[.slice (some ⟨g, 0, none⟩) 64 64, .slice A k.length ca]).run Tryd.prog w = .ok (.int .i64 (k.length : Int)) w' ∧ Blk w' g 67 (vb (fill64 k)) ∧ (∀ n, n ≤ g → Below n w w') ∧ ∀ h T cs, h ≠ g → Blk w h T cs → Blk w' h T cs := by
  obtain ⟨i0, hi, hz0, hz1, hz2⟩ := info_parts byteInfo
  have hfill : (zk64.toList.take 0 ++ byt k ++ zk64.toList.drop (0 + (byt k).length)).toArray = vb (fill64 k) := by
    show (List.take 0 (byt (List.replicate 64 0)) ++ byt k ++ (byt (List.replicate 64 0)).drop (0 + (byt k).length)).toArray = (byt (fill64 k)).toArray
    rw [byt_len]
    congr 1
    rw [List.take_zero, List.nil_append, Nat.zero_add]
    unfold fill64 byt
    rw [List.map_append, List.map_replicate, List.map_replicate, List.drop_replicate]
  have hset : ∀ cs, Blk (w.setRow g cs) g 67 cs ∧ (∀ n, n ≤ g → Below n w (w.setRow g cs)) ∧ ∀ h T ds, h ≠ g → Blk w h T ds → Blk (w.setRow g cs) h T ds := fun cs =>
    ⟨setRow_heap _ _ _ _ _ (0, 0) hb, fun n hn => ⟨rfl, rfl, rfl, by simp [World.setRow], fun i hi => setRow_other _ _ i _ (by omega)⟩, fun h T ds hne hh => (setRow_other _ _ h _ hne).trans hh⟩
  by_cases hne : k = []
  · subst hne
    cases A with
    | none =>
      refine ⟨w, ?_, ?_, fun n hn => Below.refl _ _, fun _ _ _ _ h => h⟩
      · have h1 := run_copy_nil (P := Tryd.prog) w 22 22 3 5 ⟨g, 0, none⟩ 64 64 Tryd.underlying22 (by rw [hi]; rfl)
        refine Eq.trans ?_ h1
        simp [Builtin.copy_, run_underlying Tryd.underlying22, Builtin.lenOf, Builtin.firstCells]
      · exact hb
    | some a =>
      have h1 := run_copy_row (P := Tryd.prog) w 22 22 3 5 g 0 64 64 a 0 ca zk64 67 [] Tryd.underlying22 (by rw [hi]; simp [hz1]) hb rfl (fun j v h => by cases h) (by simp) (fun v h => by cases h)
      exact ⟨_, h1, by have := (hset (zk64.toList.take 0 ++ [] ++ zk64.toList.drop (0 + 0)).toArray).1; rw [← hfill]; exact this, (hset _).2⟩
  · obtain ⟨a, rfl, hab, hc⟩ := hr (by intro h0; have := congrArg List.length h0; rw [byt_len] at this; exact hne (List.eq_nil_of_length_eq_zero this))
    have h1 := run_copy_row (P := Tryd.prog) w 22 22 3 5 g 0 64 64 a k.length ca zk64 67 (byt k) Tryd.underlying22 (by rw [hi]; simp [hz1]) hb (by rw [byt_len]; exact (Nat.min_eq_left hk).symm) hc (by rw [byt_len]; show 0 + k.length ≤ 64; omega) (byt_one k)
    rw [hfill, byt_len] at h1
    exact ⟨_, h1, (hset _).1, (hset _).2⟩
structure MacS (w W : World) (g5 g6 : Nat) (L : List Nat) (k : Nat) : Prop where
  bel : Below w.heap.size w W
  h5 : Blk W g5 67 (vb (xrTo 54 L k))
  h6 : Blk W g6 67 (vb (xrTo 92 L k))
end Go.Proofs.YthlmlmkabjppeaaDoor
