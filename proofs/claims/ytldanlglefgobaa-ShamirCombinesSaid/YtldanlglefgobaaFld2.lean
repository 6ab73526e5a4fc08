import Derived.Test.YtldanlglefgobaaFld1
import Derived.Deep.QuietTactic
import Derived.BigQuiet
namespace Go.Proofs.Ytldanlglefgobaa
open Go.RowKit
/-- a call that only reads -/
def Quietly (v : Value) (w : World) (e : Ending) (w' : World) : Prop := e = .returned v ∧ ∃ n, w' = w.drewN n
theorem quiet_left {P : Program} {f : FuncId} {args : Array Value} {w : World} {a n : Nat} {v : Value}
    (h : Calls P f args (w.drewN (a + n)) fun e w' => e = .returned v ∧ w.drewN (a + n) = w') :
    Calls P f args (w.drewN (a + n)) fun e w'' => e = .returned v ∧ ∃ m, w'' = w.drewN (a + m) :=
  h.mono fun _ _ ⟨he, hm⟩ => ⟨he, n, hm.symm⟩
theorem mul_zero (ao : Option Addr) (a b : Nat) (w : World) (ha : a < 256) (hb : b < 256) (h : a = 0 ∨ b = 0) :
    Calls Try.prog 16 #[.pointer ao, .int .u8 a, .int .u8 b] w (Quietly (.int .u8 0) w) := by
  cases ao with
  | none =>
    go_enter Try.func16, Try.ntmps16
    go_wp2
    go_ret
    exact ⟨rfl, 0, rfl⟩
  | some p =>
    by_cases h1 : a = 0
    · subst h1
      go_enter Try.func16, Try.ntmps16
      go_wp2
      go_ret
      exact ⟨rfl, 0, rfl⟩
    · obtain rfl : b = 0 := by omega
      have t1 : ((a : Int) == 0) = false := beq_eq_false_iff_ne.2 (by omega)
      clear h
      go_enter Try.func16, Try.ntmps16
      go_wp2
      go_ret
      exact ⟨rfl, 0, rfl⟩
/-- nil tables answer 0 -/
theorem mul_nil (a b : Nat) (w : World) : Calls Try.prog 16 #[.pointer none, .int .u8 a, .int .u8 b] w (Quietly (.int .u8 0) w) := by
  go_enter Try.func16, Try.ntmps16
  go_wp2
  go_ret
  exact ⟨rfl, 0, rfl⟩
set_option maxHeartbeats 400000 in
theorem mul_c (t : Array Nat) (B a b : Nat) (w : World) (hs : Small t) (ht : TabAt w B t) (ha : a < 256) (hb : b < 256) :
    Calls Try.prog 16 #[.pointer (some ⟨B, 0, none⟩), .int .u8 a, .int .u8 b] w (Quietly (.int .u8 (tmul t a b : Nat)) w) := by
  by_cases h0 : a = 0 ∨ b = 0
  · have e : tmul t a b = 0 := by simp [tmul, h0]
    rw [e]; exact mul_zero _ a b w ha hb h0
  · have h1 : a ≠ 0 := fun h => h0 (.inl h)
    have h2 : b ≠ 0 := fun h => h0 (.inr h)
    have t1 : ((a : Int) == 0) = false := beq_eq_false_iff_ne.2 (by omega)
    have t2 : ((b : Int) == 0) = false := beq_eq_false_iff_ne.2 (by omega)
    have e : tmul t a b = tg t ((tg t (256 + a) + tg t (256 + b)) % 255) := by simp [tmul, h1, h2]
    have HE := Lib.hid e
    have c1 := ht.at_ hs.1 (256 + a) (by omega)
    have c2 := ht.at_ hs.1 (256 + b) (by omega)
    have c3 := ht.at_ hs.1 ((tg t (256 + a) + tg t (256 + b)) % 255) (by omega)
    have b1 := hs.2 (256 + a)
    have b2 := hs.2 (256 + b)
    generalize tg t (256 + a) = x at *
    generalize tg t (256 + b) = y at *
    generalize tg t ((x + y) % 255) = z at *
    clear e hs ht h0 h1 h2
    rw [HE.out]
    go_enter Try.func16, Try.ntmps16
    go_wp2
    go_quiet (fail)
    go_wp2
    go_ret
    exact ⟨rfl, _, rfl⟩
theorem inv_nil (a : Nat) (w : World) : Calls Try.prog 19 #[.pointer none, .int .u8 a] w (Quietly (.tuple #[.int .u8 0, .int .i64 1]) w) := by
  go_enter Try.func19, Try.ntmps19
  go_wp2
  go_ret2
  exact ⟨rfl, 0, rfl⟩
/-- the error of an inverse -/
def ierr (a : Nat) : Int := if a = 0 then 1 else 0
set_option maxHeartbeats 400000 in
theorem inv_c (t : Array Nat) (B a : Nat) (w : World) (hs : Small t) (ht : TabAt w B t) (ha : a < 256) :
    Calls Try.prog 19 #[.pointer (some ⟨B, 0, none⟩), .int .u8 a] w (Quietly (.tuple #[.int .u8 (tinv t a : Nat), .int .i64 (ierr a)]) w) := by
  by_cases h0 : a = 0
  · have e : tinv t a = 0 := by simp [tinv, h0]
    have e2 : ierr a = 1 := by simp [ierr, h0]
    rw [e, e2]
    subst h0
    clear hs ht e e2
    go_enter Try.func19, Try.ntmps19
    go_wp2
    go_ret2
    exact ⟨rfl, 0, rfl⟩
  · have t1 : ((a : Int) == 0) = false := beq_eq_false_iff_ne.2 (by omega)
    have HE := Lib.hid (show tinv t a = tg t (255 - tg t (256 + a)) by simp [tinv, h0])
    have e2 : ierr a = 0 := by simp [ierr, h0]
    rw [e2]
    clear e2
    have c1 := ht.at_ hs.1 (256 + a) (by omega)
    have c3 := ht.at_ hs.1 (255 - tg t (256 + a)) (by omega)
    have b1 := hs.2 (256 + a)
    have e3 : ((255 : Int) - (tg t (256 + a) : Nat)) = ((255 - tg t (256 + a) : Nat) : Int) := by omega
    generalize tg t (256 + a) = x at *
    generalize tg t (255 - x) = z at *
    clear hs ht h0
    rw [HE.out]
    go_enter Try.func19, Try.ntmps19
    go_wp2
    go_quiet (fail)
    go_wp2
    go_ret2
    exact ⟨rfl, _, rfl⟩
end Go.Proofs.Ytldanlglefgobaa
