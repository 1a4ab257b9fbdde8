import Derived.Test.YthjnbpfbhmfopaaDoorBase
import Derived.IntWalk
namespace Go.Proofs.YthjnbpfbhmfopaaDoor
open Go.RowKit
theorem Tryd.elemB : Elem Tryd.prog 99 5 (.int .u8 0) 1 1 := ⟨Tryd.underlying99, by kernel_rfl, rfl, by omega⟩
theorem wrap_id {x : Int} (h1 : -9223372036854775808 ≤ x) (h2 : x < 9223372036854775808) : IntKind.i64.wrap x = x := IntWalk.i64_in x ⟨h1, by omega⟩

/-- min and max of two numbers, the answer told by the prover. -/
theorem wpList_min2 {P : Program} {w : World} {ops : Array Oper} {rest : List Oper} {o : Oper} {a : Act} {Q : Exit → Act → World → Prop} (hgd : o.guard = none) (x y : Operand) {ts : Array TypeId}
    (ho : o.op = .call { callee := .builtin .min, args := #[x, y], argTypes := ts }) {k : IntKind} {X Y m : Int} (hx : a.eval x = .int k X) (hy : a.eval y = .int k Y) (hm : m = min X Y)
    (h : wpList P ops Q rest (a.put o.dst (.int k m)) w) : wpList P ops Q (o :: rest) a w := by
  refine wpList_plain hgd fun K hK => ?_
  have hrun := run_min_int2 (P := P) (w := w) ts o.type k k X Y
  have e : (if Y < X then Y else X) = m := by rw [hm]; split <;> omega
  rw [e] at hrun
  unfold Oper.wp
  simp [execOp, ho, resolve, invoke, builtin, hx, hy, hrun, Result.andThen]
  exact hK _ _ h
theorem wpList_max2 {P : Program} {w : World} {ops : Array Oper} {rest : List Oper} {o : Oper} {a : Act} {Q : Exit → Act → World → Prop} (hgd : o.guard = none) (x y : Operand) {ts : Array TypeId}
    (ho : o.op = .call { callee := .builtin .max, args := #[x, y], argTypes := ts }) {k : IntKind} {X Y m : Int} (hx : a.eval x = .int k X) (hy : a.eval y = .int k Y) (hm : m = max X Y)
    (h : wpList P ops Q rest (a.put o.dst (.int k m)) w) : wpList P ops Q (o :: rest) a w := by
  refine wpList_plain hgd fun K hK => ?_
  have hrun := run_max_int2 (P := P) (w := w) ts o.type k k X Y
  have e : (if X < Y then Y else X) = m := by rw [hm]; split <;> omega
  rw [e] at hrun
  unfold Oper.wp
  simp [execOp, ho, resolve, invoke, builtin, hx, hy, hrun, Result.andThen]
  exact hK _ _ h
end Go.Proofs.YthjnbpfbhmfopaaDoor
