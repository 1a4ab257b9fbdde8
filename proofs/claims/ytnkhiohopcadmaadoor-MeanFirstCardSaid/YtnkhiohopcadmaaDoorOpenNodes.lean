/- Lists of trees that came in. -/
import Derived.Test.YtnkhiohopcadmaaDoorThE
namespace Go.Proofs.YtnkhiohopcadmaaDoor
open Go Go.RowKit Go.ChangeShapes Go.WideShapes
set_option linter.constructorNameAsVariable false
set_option maxRecDepth 20000

theorem open_nodes {H : Type} {enc : TypeId × Value → H} {W : World} {b0 : Nat} {spare : Nat → Bool} {held : Bool} {A : Option Addr} {len cap : Nat} {d : DataW H} {p : List MemPlace}
    (h : DataW.Trod enc Tryd.prog W b0 spare held 25 (.slice A len cap) d p) : ∃ ts cs, ts.length = len ∧ Rd W 8 A ts.length cs ∧ KidsV (fun _ => True) W ts cs ∧ len ≤ maxLen := by
  obtain ⟨fuel, hf⟩ := h
  have h4 : DataW.trod enc Tryd.prog W b0 spare held fuel 25 [.slice A len cap] = some (d, p) := by simpa [Value.cells] using hf
  have hcell : Tryd.prog.cellsOf 27 = 8 := by kernel_rfl
  rcases DataW.trod_slice Tryd.underlying25 h4 with ⟨e7, _⟩ | ⟨a, len', cap', elems, rest, n', hn', e7, _, _, hlc, hcm, hel, hall, _⟩
  · simp at e7
    obtain ⟨rfl, rfl, rfl⟩ := e7
    exact ⟨[], [], rfl, Rd.nil, by unfold KidsV; rfl, by unfold maxLen; omega⟩
  · simp at e7
    obtain ⟨rfl, rfl, rfl⟩ := e7
    have hspot : 0 < len → a.spot = none := by
      intro hp
      have h5 := hall 0 hp
      rw [List.getElem?_eq_getElem (by omega)] at h5
      simp only [Option.bind_eq_some_iff] at h5
      obtain ⟨ds, hds, _⟩ := h5
      rw [hcell] at hds
      obtain ⟨_, hl3, hce⟩ := World.cells?_some hds
      have g0 := hce 0 (by omega)
      rw [List.getElem?_eq_getElem (by omega)] at g0
      simpa [Addr.add] using World.cell?_spot g0
    have hk : ∀ q, q ≤ len → ∃ ks cs, ks.length = q ∧ KidsV (fun _ => True) W ks cs ∧ ∀ j u, cs[j]? = some u → W.cell? ⟨a.block, a.off + j, none⟩ = some u := by
      intro q
      induction q with
      | zero => intro _; exact ⟨[], [], rfl, by unfold KidsV; rfl, fun j u hu => by simp at hu⟩
      | succ q ih2 =>
        intro hq
        obtain ⟨ks, cs, hkl, hkv, hkc⟩ := ih2 (by omega)
        have h5 := hall q (by omega)
        rw [List.getElem?_eq_getElem (by omega)] at h5
        simp only [Option.bind_eq_some_iff] at h5
        obtain ⟨ds, hds, hdt⟩ := h5
        obtain ⟨t, ht⟩ := open_nodeC n' ds _ hdt
        rw [hcell] at hds
        obtain ⟨_, hl3, hce⟩ := World.cells?_some hds
        have hcl := kidsV_len hkv
        refine ⟨ks ++ [t], cs ++ ds, by simp [hkl], kidsV_append hkv (kidsV_one ht), fun j u hu => ?_⟩
        by_cases hj : j < cs.length
        · rw [List.getElem?_append_left hj] at hu
          exact hkc j u hu
        · rw [List.getElem?_append_right (by omega)] at hu
          have hjl := (List.getElem?_eq_some_iff.1 hu).1
          have g := hce (j - cs.length) (by omega)
          rw [hu] at g
          have hsp := hspot (by omega)
          obtain ⟨ab, ao, asp⟩ := a
          simp at hsp
          subst hsp
          rw [addr_add, addr_add] at g
          rw [add_sub_ao (by rw [hcl, hkl]) (Nat.le_of_not_lt hj)] at g
          exact g
    obtain ⟨ks, cs, hkl, hkv, hkc⟩ := hk len (Nat.le_refl _)
    refine ⟨ks, cs, hkl, ?_, hkv, by omega⟩
    rw [hkl]
    by_cases hz : len = 0
    · subst hz
      have := kidsV_len hkv
      rw [hkl] at this
      obtain rfl : cs = [] := List.eq_nil_of_length_eq_zero (by omega)
      exact Rd.nil
    · exact rd_of_kids (hspot (by omega)) (by rw [kidsV_len hkv, hkl]) hkc
end Go.Proofs.YtnkhiohopcadmaaDoor
