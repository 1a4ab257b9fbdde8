/- Rows of elements of several cells: copy, append where there is room, clear, in a block that is known whole. Own text. -/
import Derived.Test.YtnbdmlpnoiljdaaDoorOwn
import Derived.Lib.AppendZerosOnto
import Derived.Laws.CopyRow
namespace Go.Proofs.YtnbdmlpnoiljdaaDoor
open Go Go.RowKit

theorem setRow_blk {w : World} {g : Nat} {e : TypeId} {cur cs : List Value} (h : Blk w g e cur) : Blk (w.setRow g cs.toArray) g e cs ∧ Chg [g] w (w.setRow g cs.toArray) :=
  ⟨setRow_heap w g _ _ e _ h, rfl, rfl, rfl, by simp [World.setRow], fun k _ hx => setRow_other w g k _ (by simpa using hx)⟩
theorem run_copyK {P : Program} {t e : TypeId} {z : Value} {k bytes : Nat} (E : Elem P t e z k bytes) (w : World) (ty : TypeId) {g o dLen dCap : Nat} {a : Addr} {sLen sCap : Nat} {cur cs : List Value} (hB : Blk w g e cur) (hn : cs.length = Nat.min sLen dLen * k)
    (hsrc : ∀ j v, cs[j]? = some v → w.cell? (a.add j) = some v) (hfit : o + cs.length ≤ cur.length) (h1 : ∀ v ∈ cs, v.oneCell' = true) :
    (Builtin.copy_ #[t, t] ty #[.slice (some ⟨g, o, none⟩) dLen dCap, .slice (some a) sLen sCap]).run P w = .ok (goInt (Nat.min sLen dLen)) (w.setRow g (cur.take o ++ cs ++ cur.drop (o + cs.length)).toArray) := by
  obtain ⟨i, hi, hz, hsz, hby⟩ := info_parts E.info
  have hf := run_firstCells_some (P := P) w k (Nat.min sLen dLen) a sLen sCap cs hn hsrc
  have hst := run_storeCells_at P g o e cs 0 cur.toArray w hB (by simpa using hfit) h1
  simp only [Nat.add_zero] at hst
  simp [Builtin.copy_, run_underlying E.und, Builtin.lenOf, sizeOf, typeInfo, hi, hsz, hf, hst]
theorem run_roomK {P : Program} {t e : TypeId} {z : Value} {k bytes : Nat} (E : Elem P t e z k bytes) (w : World) (ty : TypeId) {g sLen sCap : Nat} {a : Addr} {m c : Nat} {cur news : List Value} (hB : Blk w g e cur) (hl : news.length = m * k)
    (hsrc : ∀ j v, news[j]? = some v → w.cell? (a.add j) = some v) (h1 : ∀ v ∈ news, v.oneCell' = true) (hroom : sLen + m ≤ sCap) (hfit : sLen * k + news.length ≤ cur.length) :
    (Builtin.append_ #[t, t] ty #[.slice (some ⟨g, 0, none⟩) sLen sCap, .slice (some a) m c]).run P w = .ok (.slice (some ⟨g, 0, none⟩) (sLen + m) sCap) (w.setRow g (cur.take (sLen * k) ++ news ++ cur.drop (sLen * k + news.length)).toArray) := by
  obtain ⟨i, hi, hz, hsz, hby⟩ := info_parts E.info
  subst hsz
  exact run_append_room w t ty e i E.und hi g sLen sCap cur.toArray hB a m c news hl hsrc h1 hroom hfit
theorem run_clearK {P : Program} {t e : TypeId} {z : Value} {k bytes : Nat} (E : Elem P t e z k bytes) (hv : ∀ w, (zeroValue e).run P w = .ok z w) (w : World) (ty : TypeId) {g o n c : Nat} {cur zs : List Value} (hB : Blk w g e cur) (hn : 0 < n) (hzs : (Builtin.zeroCells z.cells n).toList = zs) (hfit : o + zs.length ≤ cur.length) (h1 : ∀ v ∈ zs, v.oneCell' = true) :
    (Builtin.clear_ #[t] ty #[.slice (some ⟨g, o, none⟩) n c]).run P w = .ok (.tuple #[]) (w.setRow g (cur.take o ++ zs ++ cur.drop (o + zs.length)).toArray) := by
  have hst := run_storeCells_at P g o e zs 0 cur.toArray w hB (by simpa using hfit) h1
  simp only [Nat.add_zero] at hst
  obtain ⟨m, rfl⟩ : ∃ m, n = m + 1 := ⟨n - 1, by omega⟩
  simp [Builtin.clear_, run_underlying E.und, hv, hzs, hst]

/-- A builtin's call whose run is known. -/
theorem wpList_copyR {P : Program} {w : World} {ops : Array Oper} {rest : List Oper} {o : Oper} {a : Act} {Q : Exit → Act → World → Prop} (hgd : o.guard = none) (d s : Operand) (t t' : TypeId)
    (ho : o.op = .call { callee := .builtin .copy, args := #[d, s], argTypes := #[t, t'] }) {v u : Value} (hd : a.eval d = v) (hs : a.eval s = u) {v' : Value} {w' : World}
    (hr : (Builtin.copy_ #[t, t'] o.type #[v, u]).run P w = .ok v' w') (h : wpList P ops Q rest (a.put o.dst v') w') : wpList P ops Q (o :: rest) a w := by
  refine wpList_plain hgd fun K hK => ?_
  unfold Oper.wp execOp
  simp only [ho, resolve, invoke, builtin, Sem.run_bind, Sem.run_pure, Result.andThen_ok, List.map_toArray, List.map_cons, List.map_nil, hd, hs, hr]
  exact hK _ _ h
theorem wpList_appR' {P : Program} {w : World} {ops : Array Oper} {rest : List Oper} {o : Oper} {a : Act} {Q : Exit → Act → World → Prop} (hgd : o.guard = none) (d s : Operand) (t t' : TypeId)
    (ho : o.op = .call { callee := .builtin .append, args := #[d, s], argTypes := #[t, t'] }) {v u : Value} (hd : a.eval d = v) (hs : a.eval s = u) {v' : Value} {w' : World}
    (hr : (Builtin.append_ #[t, t'] o.type #[v, u]).run P w = .ok v' w') (h : wpList P ops Q rest (a.put o.dst v') w') : wpList P ops Q (o :: rest) a w := by
  refine wpList_plain hgd fun K hK => ?_
  unfold Oper.wp execOp
  simp only [ho, resolve, invoke, builtin, Sem.run_bind, Sem.run_pure, Result.andThen_ok, List.map_toArray, List.map_cons, List.map_nil, hd, hs, hr]
  exact hK _ _ h
theorem wpList_clearR {P : Program} {w : World} {ops : Array Oper} {rest : List Oper} {o : Oper} {a : Act} {Q : Exit → Act → World → Prop} (hgd : o.guard = none) (d : Operand) (t : TypeId)
    (ho : o.op = .call { callee := .builtin .clear, args := #[d], argTypes := #[t] }) {v : Value} (hd : a.eval d = v) {v' : Value} {w' : World}
    (hr : (Builtin.clear_ #[t] o.type #[v]).run P w = .ok v' w') (h : wpList P ops Q rest (a.put o.dst v') w') : wpList P ops Q (o :: rest) a w := by
  refine wpList_plain hgd fun K hK => ?_
  unfold Oper.wp execOp
  simp only [ho, resolve, invoke, builtin, Sem.run_bind, Sem.run_pure, Result.andThen_ok, List.map_toArray, List.map_cons, List.map_nil, hd, hr]
  exact hK _ _ h
/-- The same as steps of a region that draws its order. -/
theorem step_copyR {P : Program} {w : World} {ops : Array Oper} {o : Oper} {a : Act} {K : Act → World → Prop} {Q : Exit → Act → World → Prop} {F : Prop} (hg : o.guard = none) (d x : Operand) (t t' : TypeId) (hop : o.op = Op.call { callee := Callee.builtin Builtin.copy, args := #[d, x], argTypes := #[t, t'] })
    {v u : Value} (hd : a.eval d = v) (hx : a.eval x = u) {v' : Value} {w' : World} (hr : (Builtin.copy_ #[t, t'] o.type #[v, u]).run P w = .ok v' w') (hK : K (a.put o.dst v') w') :
    if Region.wanted o (yielded ops a.tmps) = true then Oper.wp P o a w K Q else F := by
  have hw : Region.wanted o (yielded ops a.tmps) = true := by simp [Region.wanted, hg]
  rw [if_pos hw]
  unfold Oper.wp
  simp [execOp, hop, resolve, invoke, builtin, hd, hx, hr, Result.andThen]
  exact hK
theorem step_appR {P : Program} {w : World} {ops : Array Oper} {o : Oper} {a : Act} {K : Act → World → Prop} {Q : Exit → Act → World → Prop} {F : Prop} (hg : o.guard = none) (d x : Operand) (t t' : TypeId) (hop : o.op = Op.call { callee := Callee.builtin Builtin.append, args := #[d, x], argTypes := #[t, t'] })
    {v u : Value} (hd : a.eval d = v) (hx : a.eval x = u) {v' : Value} {w' : World} (hr : (Builtin.append_ #[t, t'] o.type #[v, u]).run P w = .ok v' w') (hK : K (a.put o.dst v') w') :
    if Region.wanted o (yielded ops a.tmps) = true then Oper.wp P o a w K Q else F := by
  have hw : Region.wanted o (yielded ops a.tmps) = true := by simp [Region.wanted, hg]
  rw [if_pos hw]
  unfold Oper.wp
  simp [execOp, hop, resolve, invoke, builtin, hd, hx, hr, Result.andThen]
  exact hK
end Go.Proofs.YtnbdmlpnoiljdaaDoor
