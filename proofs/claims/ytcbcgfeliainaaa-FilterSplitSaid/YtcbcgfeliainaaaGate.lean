/-
  Guards for the walk: a call's arguments, by sight; an operation whose guard lets it. No condition.
-/
import Derived.Test.YtcbcgfeliainaaaWGuard
namespace Go.Proofs.YtcbcgfeliainaaaOwn
theorem gate_args {P : Program} {f : FuncId} {args : Array Value} {w : World} {Q : Ending → World → Prop} (args' : Array Value) (_h : args = args') (hc : Calls P f args w Q) : Calls P f args w Q := hc
theorem gate_guarded {P : Program} {ops : Array Oper} {rest : List Oper} {o : Oper} {a : Act} {Q : Exit → Act → World → Prop} {W : World} {g : Tmp × Bool} (_hg : o.guard = some g) (hw : Region.wanted o (yielded ops a.tmps) = true) (h : wpList P ops Q ({ o with guard := none } :: rest) a W) : wpList P ops Q (o :: rest) a W :=
  Go.Proofs.YtcbcgfeliainaaaW.PrintWords.gate_guard hw h
theorem gate_append {P : Program} {ops : Array Oper} {l1 l2 : List Oper} {a : Act} {Q : Exit → Act → World → Prop} {W : World} (h : wpList P ops Q (List.append l1 l2) a W) : wpList P ops Q (List.append l1 l2) a W := h
end Go.Proofs.YtcbcgfeliainaaaOwn
