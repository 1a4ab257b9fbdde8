import Derived.Test.YthjnbpfbhmfopaaDoorBase
import Derived.Stop.LaidErr
import Derived.LaidEql
namespace Go.Proofs.YthjnbpfbhmfopaaDoor
open Go Go.RowKit Go.ChangeShapes

/-- A sentinel error: its variable holds a pointer to a row of cells that is whole. -/
structure Sent (W : World) (tp : TypeId) (g : Nat) (a : Addr) : Prop where
  var : W.cell? ⟨g, 0, none⟩ = some (.iface tp (.pointer (some a)))
  blk : ∃ c t, W.heap[a.block]? = some (.cells c t (0, 0))

theorem Sent.lt {W : World} {tp : TypeId} {g : Nat} {a : Addr} (h : Sent W tp g a) : g < W.heap.size ∧ a.block < W.heap.size := by
  constructor
  · rcases Nat.lt_or_ge g W.heap.size with h' | h'
    · exact h'
    · have := h.var; simp [World.cell?, Array.getElem?_eq_none h'] at this
  · obtain ⟨c, t, h⟩ := h.blk
    rcases Nat.lt_or_ge a.block W.heap.size with h' | h'
    · exact h'
    · rw [Array.getElem?_eq_none h'] at h; cases h
theorem Sent.keep {W W' : World} {tp : TypeId} {g : Nat} {a : Addr} (h : Sent W tp g a) {B : Nat} (hb : Below B W W') (hB : W.heap.size ≤ B) : Sent W' tp g a := by
  have hl := h.lt
  refine ⟨(hb.cell (p := ⟨g, 0, none⟩) (by simp; omega)).trans h.var, ?_⟩
  obtain ⟨c, t, hc⟩ := h.blk
  exact ⟨c, t, (hb.block _ (by omega)).trans hc⟩

theorem laid_sents' {P : Program} {W : World} {nm : String} {ti tp te ts : TypeId} {ms : Array (String × TypeId)} {f : Field}
    (hi : P.underlying ti = some (.interface ms)) (hrow : ∀ u, P.typeName? 3 u = some nm → u = tp)
    (hp : P.underlying tp = some (.pointer te)) (he : P.underlying te = some (.struct #[f])) (hft : f.type = ts) (hfo : f.offset = 0) (hs : P.underlying ts = some .string) (hc : P.cellsOf te = 1) (hcs : P.cellsOf ts = 1) :
    ∀ (L : List (String × List UInt8)) (gs : List Nat) (ps : List MemPlace), DataW.LaidVars P W (L.map fun x => (x.1, .iface nm (.ptr (.agg [.lit (.string x.2)])))) ps →
    L.map (fun x => P.globalNamed x.1) = gs.map some → (∀ g ∈ gs, (P.globals[g]?).map (·.type) = some ti) →
    (∀ b off, MemPlace.cell b off ∈ ps → (∃ c t, W.heap[b]? = some (.cells c t (0, 0))) ∧ ∀ u v, W.cell? ⟨b, off, none⟩ = some (.iface u v) → Value.okWide P W .any 0 u v) →
    ∃ ads : List Addr, ads.length = gs.length ∧ (ads.map fun a => MemPlace.cell a.block a.off).Sublist ps ∧ ∀ (i g : Nat) (a : Addr), gs[i]? = some g → ads[i]? = some a → Sent W tp g a := by
  intro L
  induction L with
  | nil =>
    intro gs ps _ hg _ _
    cases gs with
    | nil => exact ⟨[], rfl, by simp, by simp⟩
    | cons _ _ => simp at hg
  | cons x L ih =>
    intro gs ps h hg ht hr
    obtain ⟨g', t', cs, fu, p, q, hg', ht', hv, hd, hq, rfl⟩ := h
    cases gs with
    | nil => simp at hg
    | cons g gs =>
      simp only [List.map_cons, List.cons.injEq] at hg
      obtain rfl := Option.some.inj (hg.1.symm.trans hg')
      obtain rfl := Option.some.inj ((ht g (by simp)).symm.trans ht')
      obtain ⟨l⟩ := cs
      have ok0 : ∀ u v, l = [.iface u v] → Value.okWide P W .any 0 u v := fun u v e => by
        subst e
        exact (hr g 0 (by simp [MemPlace.row])).2 u v (by simpa using World.var?_cell hg' hv 0)
      obtain ⟨a, s, rfl, hc0, hs0, hz0, rfl⟩ := errorString_of_trod hi hrow hp he hft hfo hs hc hcs hd ok0
      obtain ⟨ads, h1, h2, h3⟩ := ih gs q hq hg.2 (fun g hgm => ht g (by simp [hgm])) (fun b off hm => hr b off (List.mem_append_right _ hm))
      refine ⟨a :: ads, by simp [h1], ?_, ?_⟩
      · have : ((a :: ads).map fun a => MemPlace.cell a.block a.off) = MemPlace.row a 1 ++ (ads.map fun a => MemPlace.cell a.block a.off) := by simp [MemPlace.row]
        rw [this]
        exact (List.sublist_append_right _ _).append h2
      · intro i g1 a1 e1 e2
        cases i with
        | zero =>
          simp only [List.getElem?_cons_zero, Option.some.injEq] at e1 e2
          subst e1 e2
          exact ⟨by simpa using World.var?_cell hg' hv 0, (hr a.block a.off (by simp [MemPlace.row])).1⟩
        | succ i =>
          simp only [List.getElem?_cons_succ] at e1 e2
          exact h3 i g1 a1 e1 e2

/-- What a row's list gives where it is of sentinels alone: their addresses, no two alike. -/
theorem laid_sents {P : Program} {W : World} {nm : String} {ti tp te ts : TypeId} {ms : Array (String × TypeId)} {f : Field}
    (hi : P.underlying ti = some (.interface ms)) (hrow : ∀ u, P.typeName? 3 u = some nm → u = tp)
    (hp : P.underlying tp = some (.pointer te)) (he : P.underlying te = some (.struct #[f])) (hft : f.type = ts) (hfo : f.offset = 0) (hs : P.underlying ts = some .string) (hc : P.cellsOf te = 1) (hcs : P.cellsOf ts = 1)
    (L : List (String × List UInt8)) (gs : List Nat) (h : laidMet P (L.map fun x => (x.1, .iface nm (.ptr (.agg [.lit (.string x.2)])))) W)
    (hg : L.map (fun x => P.globalNamed x.1) = gs.map some) (ht : ∀ g ∈ gs, (P.globals[g]?).map (·.type) = some ti) :
    ∃ ads : List Addr, ads.length = gs.length ∧ ads.Nodup ∧ ∀ (i g : Nat) (a : Addr), gs[i]? = some g → ads[i]? = some a → Sent W tp g a := by
  obtain ⟨ps, hv, hnd, hr⟩ := h
  obtain ⟨ads, h1, h2, h3⟩ := laid_sents' hi hrow hp he hft hfo hs hc hcs L gs ps hv hg ht hr
  refine ⟨ads, h1, ?_, h3⟩
  have := hnd.sublist h2
  exact List.Pairwise.of_map _ (fun a b hab e => hab (by rw [e])) this
end Go.Proofs.YthjnbpfbhmfopaaDoor
