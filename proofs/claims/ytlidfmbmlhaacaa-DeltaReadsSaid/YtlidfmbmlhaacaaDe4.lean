/- Plain: what is laid is as long whatever the values. -/
import Derived.Test.YtlidfmbmlhaacaaDe3
namespace Go.Proofs.Ytlidfmbmlhaacaa
def noV (p : Pc) : Pc := ⟨p.s, p.t, 0, p.n, p.d⟩
theorem run1_noV (s : ByteArray) : ∀ l : List Pc, run1 s (l.map noV) = run1 s l
  | [] => rfl
  | p :: l => by
    rw [List.map_cons, run1, run1, run1_noV s l]
    rfl
theorem gls_noV : ∀ l : List Pc, gls (l.map noV) = gls l := grps_ind (by rfl) fun p l ih => by
  rw [List.map_cons, gls_cons, gls_cons, show (noV p).s = p.s from rfl, run1_noV, ← List.map_drop, ih]
theorem cutsL_map (f : Pc → Pc) : ∀ (ns : List Nat) (l : List Pc), cutsL ns (l.map f) = (cutsL ns l).map (·.map f)
  | [], _ => rfl
  | n :: ns, l => by
    rw [cutsL, cutsL, List.map_cons, ← List.map_take, ← List.map_drop, cutsL_map f ns]
theorem roomG_noV : ∀ gs : List (List Pc), roomG (gs.map (·.map noV)) = roomG gs
  | [] => rfl
  | g :: gs => by
    simp only [List.map_cons, roomG, roomG_noV gs]
    cases g <;> rfl
theorem roomL_noV (l : List Pc) : roomL (l.map noV) = roomL l := by
  unfold roomL grps
  rw [gls_noV, cutsL_map, roomG_noV, List.length_map]
theorem okAt_noV (l : List Pc) (i : Nat) : okAt (l.map noV) i = okAt l i := by
  have h : ∀ j, (l.map noV).getD j pc0 = noV (l.getD j pc0) := fun j => by
    simp only [List.getD_eq_getElem?_getD, List.getElem?_map]
    cases l[j]? <;> rfl
  unfold okAt
  rw [h, h]
  rfl
theorem chkL_noV (l : List Pc) : chkL (l.map noV) = chkL l := by
  unfold chkL
  rw [roomL_noV, List.length_map]
  have h : okTo (l.map noV) l.length = okTo l l.length := by
    unfold okTo
    congr 1
    funext i
    exact okAt_noV l i
  rw [h]
theorem chkL_like {l m : List Pc} (h : l.map noV = m.map noV) : chkL l = chkL m := by rw [← chkL_noV l, h, chkL_noV]
theorem roomL_like {l m : List Pc} (h : l.map noV = m.map noV) : roomL l = roomL m := by rw [← roomL_noV l, h, roomL_noV]
theorem layL_like {l m : List Pc} (h : l.map noV = m.map noV) (h0 : chkL l = 0) (hl : ∀ p ∈ l, PcOk p) (hm : ∀ p ∈ m, PcOk p) : (layL l).length = (layL m).length := by
  rw [layL_len h0 hl, layL_len ((chkL_like h).symm.trans h0) hm, roomL_like h]
/-- the first k values are other ones -/
def vset : List Int → List Pc → Nat → List Pc
  | _, l, 0 => l
  | _, [], _ => []
  | [], l, _ => l
  | v :: vs, p :: l, k + 1 => ⟨p.s, p.t, v, p.n, p.d⟩ :: vset vs l k
theorem vset_cons (v : Int) (vs : List Int) (p : Pc) (l : List Pc) (k : Nat) : vset (v :: vs) (p :: l) (k + 1) = ⟨p.s, p.t, v, p.n, p.d⟩ :: vset vs l k := by rw [vset]
theorem vset_zero (vs : List Int) (l : List Pc) : vset vs l 0 = l := by cases vs <;> cases l <;> rfl
theorem vset_noV : ∀ (vs : List Int) (l : List Pc) (k : Nat), (vset vs l k).map noV = l.map noV
  | vs, l, 0 => by rw [vset_zero]
  | vs, [], k + 1 => by cases vs <;> rfl
  | [], p :: l, k + 1 => rfl
  | v :: vs, p :: l, k + 1 => by rw [vset, List.map_cons, List.map_cons, vset_noV vs l k]; rfl
theorem vset_len (vs : List Int) (l : List Pc) (k : Nat) : (vset vs l k).length = l.length := by
  have h := congrArg List.length (vset_noV vs l k)
  simpa using h
theorem vset_succ : ∀ (vs : List Int) (l : List Pc) (k : Nat) (_ : k < vs.length) (_ : k < l.length), vset vs l (k + 1) = (vset vs l k).set k ⟨(l.getD k pc0).s, (l.getD k pc0).t, vs.getD k 0, (l.getD k pc0).n, (l.getD k pc0).d⟩
  | [], _, _, h, _ => by simp at h
  | _ :: _, [], _, _, h => by simp at h
  | v :: vs, p :: l, 0, _, _ => by
    rw [vset_zero, vset_cons, vset_zero]; rfl
  | v :: vs, p :: l, k + 1, h, h2 => by
    rw [vset, vset, vset_succ vs l k (by simpa using h) (by simpa using h2)]
    rfl
theorem vset_at (vs : List Int) (l : List Pc) (k : Nat) (h : k < l.length) : ∀ (j : Nat), j ≤ k → (vset vs l j).getD k pc0 = l.getD k pc0 := by
  intro j hj
  induction j generalizing vs l k with
  | zero => rw [vset_zero]
  | succ j ih =>
    cases vs with
    | nil => cases l <;> rfl
    | cons v vs =>
      cases l with
      | nil => rfl
      | cons p l =>
        obtain ⟨k, rfl⟩ : ∃ k', k = k' + 1 := ⟨k - 1, by omega⟩
        rw [vset]
        exact ih vs l k (by simpa using h) (by omega)
theorem vset_ok {vs : List Int} (hv : ∀ v ∈ vs, -9223372036854775808 ≤ v ∧ v ≤ 9223372036854775807) {n : Nat} : ∀ {l : List Pc} (k : Nat) (_ : ∀ p ∈ l, PcOk p ∧ p.s.size ≤ n), ∀ p ∈ vset vs l k, PcOk p ∧ p.s.size ≤ n := by
  induction vs with
  | nil => intro l k h; cases k <;> cases l <;> exact h
  | cons v vs ih =>
    intro l k h
    cases k with
    | zero => rw [vset_zero]; exact h
    | succ k =>
      cases l with
      | nil => exact h
      | cons p l =>
        intro q hq
        rw [vset] at hq
        rcases List.mem_cons.1 hq with rfl | hq
        · have h1 := h p (List.mem_cons_self ..)
          have h2 := hv v (List.mem_cons_self ..)
          exact ⟨⟨h1.1.t0, h1.1.t1, h2.1, h2.2, h1.1.n1, h1.1.d1⟩, h1.2⟩
        · exact ih (fun v hv' => hv v (List.mem_cons_of_mem _ hv')) k (fun p hp => h p (List.mem_cons_of_mem _ hp)) q hq
end Go.Proofs.Ytlidfmbmlhaacaa
