/- Contract: Same of frames: a law. -/
import Derived.Test.YtcmahmlcoodfoaaFraD
namespace Go.Proofs.Ytcmahmlcoodfoaa
open Go.RowKit Go.Great
set_option linter.unusedVariables false
theorem wpList_loadM {P : Program} {ops : Array Oper} {rest : List Oper} {o : Oper} {a : Act} {w : World} {Q : Exit → Act → World → Prop} (ty : TypeId) (x : Operand) (ho : o.op = .load ty x) (n off : Nat) (l : List Nat) (d : TypeDesc)
    (hc : w.rangeAt n off (byt l)) (hu : P.underlying ty = some d) (hd : d.isRow = true) (hi : (P.info? ty).map (·.size) = some (byt l).length) (hx : a.eval x = .pointer (some ⟨n, off, none⟩)) (hw : Region.wanted o (yielded ops a.tmps) = true)
    (h : wpList P ops Q rest (a.put o.dst (.agg (vb l))) w) : wpList P ops Q (o :: rest) a w := wpList_loadG hw ty x ho n off hx (byt l) d hc hu hd hi h
end Go.Proofs.Ytcmahmlcoodfoaa
