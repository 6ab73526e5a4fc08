/- Contracts: slices.Equal, Same of frames; frames told by their forms. -/
import Derived.Test.YtcmahmlcoodfoaaFra5
namespace Go.Proofs.Ytcmahmlcoodfoaa
open Go.RowKit Go.Great
set_option linter.unusedVariables false
set_option maxRecDepth 100000 in
set_option maxHeartbeats 400000 in
theorem equal_c (B C : Nat) (A D : Option Addr) (ca cb : Nat) (l m : List Nat) (w : World) (hl : ∀ c ∈ l, c < 256) (hm : ∀ c ∈ m, c < 256) (hr : Rd w B A (byt l)) (hs : Rd w C D (byt m)) (h1 : l.length ≤ 1000000000) (_h2 : m.length ≤ 1000000000) :
    Calls Try.prog 44 #[.slice A l.length ca, .slice D m.length cb] w (Quietly (.bool (l == m)) w) := by
  have HL := Lib.hid hl
  have HM := Lib.hid hm
  have HR := Lib.hid hr
  have HS := Lib.hid hs
  clear hl hm hr hs
  by_cases hlen : l.length = m.length
  · have HN := Lib.hid hlen
    rw [← hlen]
    have h3 : l.length ≤ m.length := by omega
    clear hlen _h2
    go_enter Try.func44, Try.ntmps44
    go_wp2
    go_loopw [13] (fun i wr => ∃ k q : Nat, k ≤ l.length ∧ i = .int .i64 k ∧ l.take k = m.take k ∧ wr = w.drewN q) (fun i _ => l.length - (intOf i).toNat)
    case atStart => exact ⟨0, 0, Nat.zero_le _, rfl, by simp, rfl⟩
    case round =>
      obtain ⟨k, q, hk, rfl, ht, rfl⟩ := hrel
      have HT := Lib.hid ht
      clear ht
      by_cases hlt : k < l.length
      · obtain ⟨ad, rfl, hab, hca⟩ := HR.out.byte hlt
        obtain ⟨ad2, rfl, hab2, hcb⟩ := HS.out.byte (show k < m.length by omega)
        have HST := Lib.hid (take_succ_eq hlt (show k < m.length by omega))
        have hx := getD_lt HL.out k
        have hy := getD_lt HM.out k
        generalize l.getD k 0 = x at *
        generalize m.getD k 0 = y at *
        have hi1 : (k : Int) < (l.length : Int) := by omega
        by_cases heq : x = y
        · subst heq
          go_wp2
          go_quiet (fail)
          go_wp2
          go_roundw
          case rel => exact ⟨k + 1, _, by omega, by go_num, HST.out.2 (by first | exact ⟨HT.out, rfl⟩ | exact ⟨HT.out, trivial⟩), rfl⟩
          case measure => simp [intOf]; omega
        · have t1 : (((x : Nat) : Int) != (y : Int)) = true := by rw [bne_iff_ne]; omega
          have HE := Lib.hid heq
          clear heq
          go_wp2
          go_quiet (fail)
          go_wp2
          go_ret
          have hne : l ≠ m := fun h => by
            subst h
            have := HST.out.1 rfl
            exact HE.out this.2
          have e : (l == m) = false := by simpa using hne
          rw [e]
          exact ⟨rfl, _, World.drewN_drewN ..⟩
      · obtain rfl : k = l.length := by omega
        go_wp2
        go_ret
        have e : l = m := by
          have := HT.out
          rw [List.take_length, HN.out, List.take_length] at this
          exact this
        have e2 : (l == m) = true := by simpa using e
        rw [e2]
        exact ⟨rfl, _, rfl⟩
  · have hne : l ≠ m := fun h => hlen (by rw [h])
    have e : (l == m) = false := by simpa using hne
    rw [e]
    have t1 : (((l.length : Nat) : Int) != (m.length : Int)) = true := by rw [bne_iff_ne]; omega
    clear hlen hne e
    go_enter Try.func44, Try.ntmps44
    go_wp2
    go_ret
    exact ⟨rfl, 0, rfl⟩
theorem form_inj {x y : Fr} (hx : FrOk x) (hy : FrOk y) (cx : ckF x = true) (cy : ckF y = true) (h : formF x = formF y) : x = y := by
  have hh : hdF x = hdF y := by
    have e : ∀ z, (formF z).take 13 = hdF z := fun z => by
      unfold formF
      split <;> simp [List.append_assoc, List.take_append_of_le_length, hdF_len, List.take_of_length_le]
    rw [← e x, ← e y, h]
  obtain ⟨k1, k2, k3, k4⟩ := hdF_inj hx hy hh
  unfold ckF at cx cy
  unfold formF at h
  by_cases hk : x.k = 72
  · have hk2 : y.k = 72 := k1 ▸ hk
    rw [if_pos hk] at cx h
    rw [if_pos hk2] at cy h
    simp only [Bool.and_eq_true, beq_iff_eq, decide_eq_true_eq] at cx cy
    obtain ⟨h1, hp⟩ := List.append_inj h (by simp [hdF_len, form_len])
    obtain ⟨h1, ho⟩ := List.append_inj h1 (by simp [hdF_len, form_len])
    obtain ⟨_, hb⟩ := List.append_inj h1 (by simp [hdF_len])
    have hb2 := congrArg number hb
    rw [number_form _ _ hx.b, number_form _ _ hy.b] at hb2
    have ho2 := congrArg number ho
    rw [number_form _ _ hx.o, number_form _ _ hy.o] at ho2
    have hd1 : x.d = [] := List.eq_nil_of_length_eq_zero cx.2.2
    have hd2 : y.d = [] := List.eq_nil_of_length_eq_zero cy.2.2
    cases x; cases y
    simp only at *
    subst k1 k2 k3 k4 hb2 ho2 hp hd1 hd2
    rw [cx.2.1, cy.2.1]
  · have hk2 : ¬ y.k = 72 := k1 ▸ hk
    rw [if_neg hk] at cx h
    rw [if_neg hk2] at cy h
    simp only [Bool.and_eq_true, beq_iff_eq, decide_eq_true_eq] at cx cy
    obtain ⟨h1, hd⟩ := List.append_inj h (by simp [hdF_len, hx.n, hy.n])
    obtain ⟨_, hn⟩ := List.append_inj h1 (by simp [hdF_len])
    obtain ⟨⟨⟨⟨_, bx, ox⟩, px⟩, _⟩, _⟩ := cx.2
    obtain ⟨⟨⟨⟨_, by_, oy⟩, py⟩, _⟩, _⟩ := cy.2
    cases x; cases y
    simp only at *
    subst k1 k2 k3 k4 hn hd bx ox px by_ oy py
    rfl
theorem form_same {x y : Fr} (hx : FrOk x) (hy : FrOk y) (cx : ckF x = true) (cy : ckF y = true) : (formF x == formF y) = sameF x y := by
  rw [Bool.eq_iff_iff, beq_iff_eq, sameF_iff hx hy]
  exact ⟨form_inj hx hy cx cy, fun h => by rw [h]⟩
theorem sameF_parts {x y : Fr} (hx : FrOk x) (hy : FrOk y) : sameF x y = (x.k == y.k && x.f == y.f && x.t == y.t && x.i == y.i && x.b == y.b && x.o == y.o && x.p == y.p && x.n == y.n && x.d == y.d) := by
  rw [Bool.eq_iff_iff, sameF_iff hx hy]
  simp only [Bool.and_eq_true, beq_iff_eq]
  constructor
  · rintro rfl; simp
  · rintro ⟨⟨⟨⟨⟨⟨⟨⟨h1, h2⟩, h3⟩, h4⟩, h5⟩, h6⟩, h7⟩, h8⟩, h9⟩
    cases x; cases y
    simp only at *
    subst h1 h2 h3 h4 h5 h6 h7 h8 h9
    rfl
end Go.Proofs.Ytcmahmlcoodfoaa
