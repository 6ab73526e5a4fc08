/- '==' on shares. -/
import Derived.Test.YtldanlglefgobaaSham3
namespace Go.Proofs.Ytldanlglefgobaa
open Go.RowKit
set_option linter.unusedVariables false
theorem keyLits_one {P : Program} {e : TypeId} {D : Nat} (he : P.underlying e = some (.int .u8)) (x : Nat) (hx : x < 256) : P.keyLits (D + 1) e [.int .u8 (x : Int)] = some [Lit.int .u8 (x : Int)] := by
  have hw : (Lit.int .u8 (x : Int)).wf = true := WalkArith.wf_u8 ⟨by omega, by omega⟩
  simp only [Program.keyLits, he]
  rw [if_pos (by first | exact hw | exact ⟨trivial, hw⟩)]
theorem keyLits_share (x : Nat) (l : List Nat) (hx : x < 256) (hl : l.length = 32) (hs : ∀ c ∈ l, c < 256) :
    Try.prog.keyLits 3 48 (byt (x :: l)) = some ((x :: l).map fun (c : Nat) => Lit.int .u8 (c : Int)) := by
  have hf : ∃ f0 f1 : Field, Try.prog.underlying 48 = some (.struct #[f0, f1]) ∧ f0.offset = 0 ∧ f1.offset = 1 ∧ f0.type = 5 ∧ f1.type = 43 ∧ (#[f0, f1].all (·.name != "_")) = true := ⟨_, _, Try.underlying48, rfl, rfl, rfl, rfl, by kernel_rfl⟩
  obtain ⟨f0, f1, hu, o0, o1, k0, k1, hn⟩ := hf
  have hC : Try.prog.cellsOf 48 = 33 := by kernel_rfl
  have hc0 : Try.prog.cellsOf 5 = 1 := by kernel_rfl
  have hc1 : Try.prog.cellsOf 43 = 32 := by kernel_rfl
  have hstep : Try.prog.keyLits 3 48 (byt (x :: l)) = if (byt (x :: l)).length = Try.prog.cellsOf 48 ∧ (#[f0, f1].all (·.name != "_")) = true then ([f0, f1].mapM fun f => Try.prog.keyLits 2 f.type (((byt (x :: l)).drop f.offset).take (Try.prog.cellsOf f.type))).map List.flatten else none := by
    conv => lhs; unfold Program.keyLits
    rw [hu]
  have e0 : Try.prog.keyLits 2 f0.type (((byt (x :: l)).drop f0.offset).take (Try.prog.cellsOf f0.type)) = some [Lit.int .u8 (x : Int)] := by
    rw [k0, o0, hc0]
    exact keyLits_one (D := 1) Try.underlying5 x hx
  have e1 : Try.prog.keyLits 2 f1.type (((byt (x :: l)).drop f1.offset).take (Try.prog.cellsOf f1.type)) = some (l.map fun (c : Nat) => Lit.int .u8 (c : Int)) := by
    rw [k1, o1, hc1]
    have : ((byt (x :: l)).drop 1).take 32 = byt l := by
      show (byt l).take 32 = byt l
      rw [List.take_of_length_le (by rw [byt_len]; omega)]
    rw [this]
    exact keyLits_bytes (D := 0) Try.underlying43 Try.underlying5 hc1 hc0 l hl hs
  rw [hstep, if_pos ⟨by rw [byt_len, hC, List.length_cons, hl], hn⟩, List.mapM_cons, e0, List.mapM_cons, e1, List.mapM_nil]
  simp
/-- '==' on shares -/
theorem run_equalIn_share (l m : List Nat) (hl : l.length = 33) (hm : m.length = 33) (hs : ∀ c ∈ l, c < 256) (hs2 : ∀ c ∈ m, c < 256) (w : World) :
    (Op.equalIn 10000 48 (.agg (vb l)) (.agg (vb m))).run Try.prog w = .ok (l == m) w := by
  have hk : Try.prog.keyTypeAt 3 48 = true := by kernel_rfl
  have hC : Try.prog.cellsOf 48 = 33 := by kernel_rfl
  have hf : ∀ k : List Nat, k.length = 33 → (Value.agg (vb k)).formed Try.prog 48 = true := fun k h => by simp [Value.formed, Try.underlying48, hC, vb_size, h]
  have key : ∀ k : List Nat, k.length = 33 → (∀ c ∈ k, c < 256) → Try.prog.keyLits 3 48 (byt k) = some (k.map fun (c : Nat) => Lit.int .u8 (c : Int)) := by
    intro k h1 h2
    cases k with
    | nil => simp at h1
    | cons a k => exact keyLits_share a k (h2 a (by simp)) (by simpa using h1) (fun c hc => h2 c (by simp [hc]))
  obtain ⟨r, hr, hiff⟩ := run_equalIn_deep (P := Try.prog) 9997 3 48 hk w 3 3 (.agg (vb l)) (.agg (vb m)) _ _ (hf l hl) (hf m hm)
    (by simpa [Value.cells, vb] using key l hl hs) (by simpa [Value.cells, vb] using key m hm hs2)
  rw [show 9997 + 3 = 10000 from rfl] at hr
  rw [hr]
  congr 1
  by_cases h : l = m
  · subst h; rw [hiff.2 rfl]; simp
  · have : r = false := by
      cases r with
      | true => exact absurd (lits_inj (hiff.1 rfl)) h
      | false => rfl
    rw [this]; simp [h]
end Go.Proofs.Ytldanlglefgobaa
