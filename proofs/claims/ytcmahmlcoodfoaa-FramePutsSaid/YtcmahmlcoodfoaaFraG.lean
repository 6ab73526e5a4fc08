/- FramePuts: what is laid is read as it was (plain). -/
import Derived.Test.YtcmahmlcoodfoaaFraD
import Derived.Test.YtcmahmlcoodfoaaFra9
namespace Go.Proofs.Ytcmahmlcoodfoaa
open Go.RowKit Go.Great
set_option linter.unusedVariables false
theorem form_head {x y : Fr} (hx : FrOk x) (hy : FrOk y) (h : formF x = formF y) : x.k = y.k ∧ x.f = y.f ∧ x.t = y.t ∧ x.i = y.i := by
  have e : ∀ z, (formF z).take 13 = hdF z := fun z => by
    unfold formF
    split <;> simp [List.append_assoc, hdF_len]
  exact hdF_inj hx hy (by rw [← e x, ← e y, h])
theorem form_eqH {x y : Fr} (hx : FrOk x) (hy : FrOk y) (hk : x.k = 72) (h : formF x = formF y) (hn : x.n = y.n) (hd : x.d = y.d) : x = y := by
  obtain ⟨k1, k2, k3, k4⟩ := form_head hx hy h
  unfold formF at h
  rw [if_pos hk, if_pos (k1 ▸ hk)] at h
  obtain ⟨h1, hp⟩ := List.append_inj h (by simp [hdF_len, form_len])
  obtain ⟨h1, ho⟩ := List.append_inj h1 (by simp [hdF_len, form_len])
  obtain ⟨_, hb⟩ := List.append_inj h1 (by simp [hdF_len])
  have hb2 := congrArg number hb
  rw [number_form _ _ hx.b, number_form _ _ hy.b] at hb2
  have ho2 := congrArg number ho
  rw [number_form _ _ hx.o, number_form _ _ hy.o] at ho2
  cases x; cases y
  simp only at *
  subst k1 k2 k3 k4 hb2 ho2 hp hn hd
  rfl
theorem form_eqD {x y : Fr} (hx : FrOk x) (hy : FrOk y) (hk : x.k ≠ 72) (h : formF x = formF y) (hb : x.b = y.b) (ho : x.o = y.o) (hp : x.p = y.p) : x = y := by
  obtain ⟨k1, k2, k3, k4⟩ := form_head hx hy h
  unfold formF at h
  rw [if_neg hk, if_neg (k1 ▸ hk)] at h
  obtain ⟨h1, hd⟩ := List.append_inj h (by simp [hdF_len, hx.n, hy.n])
  obtain ⟨_, hn⟩ := List.append_inj h1 (by simp [hdF_len])
  cases x; cases y
  simp only at *
  subst k1 k2 k3 k4 hb ho hp hn hd
  rfl
theorem form_first (x : Fr) : (formF x).getD 0 0 = x.k := by
  unfold formF hdF
  split <;> simp
/-- what is laid is read as it was -/
theorem get_form {x : Fr} (hx : FrOk x) (cx : ckF x = true) : getF (formF x) = (x, 0) := by
  have hlt := formF_lt hx
  have cx2 := cx
  unfold ckF at cx2
  by_cases hk : x.k = 72
  · rw [if_pos hk] at cx2
    simp only [Bool.and_eq_true, beq_iff_eq, decide_eq_true_eq] at cx2
    have hlen : (formF x).length = 61 := by unfold formF; rw [if_pos hk]; simp [hdF_len, form_len, hx.p]
    have hf0 : (formF x).getD 0 0 = 72 := (form_first x).trans hk
    have e : frH (formF x) = x := by
      refine form_eqH (frH_ok hlt (by omega)) hx hf0 ?_ ?_ ?_
      · rw [form_frH hlt (by omega) hf0, ← hlen, List.take_length]
      · exact cx2.2.1.symm
      · exact (List.eq_nil_of_length_eq_zero cx2.2.2).symm
    rw [get_end_H hlt (by omega) hf0, e, cx, beq_self_eq_true]
    rfl
  · rw [if_neg hk] at cx2
    simp only [Bool.and_eq_true, beq_iff_eq, decide_eq_true_eq] at cx2
    obtain ⟨⟨⟨⟨k68, b0, o0⟩, p0⟩, l16⟩, _⟩ := cx2.2
    have hlen : (formF x).length = 25 + x.d.length := by unfold formF; rw [if_neg hk]; simp [hdF_len, hx.n]; omega
    have hf0 : (formF x).getD 0 0 = 68 := (form_first x).trans k68
    have e : frD (formF x) = x := by
      refine form_eqD (frD_ok hlt (by omega)) hx (show (formF x).getD 0 0 ≠ 72 by rw [hf0]; decide) ?_ ?_ ?_ ?_
      · exact form_frD hlt (by omega) (by rw [hf0]; decide)
      · exact b0.symm
      · exact o0.symm
      · exact p0.symm
    rw [get_end_D hlt (by omega) hf0, e, cx, beq_self_eq_true]
    rfl
end Go.Proofs.Ytcmahmlcoodfoaa
