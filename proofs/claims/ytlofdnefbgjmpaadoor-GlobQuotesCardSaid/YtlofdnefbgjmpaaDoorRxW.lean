/- What is parsed is right. Plain. -/
import Derived.Test.YtlofdnefbgjmpaaDoorTgQ
namespace Go.Proofs.YtlofdnefbgjmpaaDoor
open Go Go.RowKit

theorem none_noP : noneB noP = true := noneB_iff.2 fun _ _ => rfl
/-- A node is right, if its kids are. -/
theorem right_mk {k m : Int} {z : Bool} {p : Nat → Bool} {ks : List T} {d g g' : Nat} (hd : d ≤ 40) (hk : kidsOk k ks.length = true) (hb : bareB k m z p = true) (h8 : k = 8 → m = (g : Int) + 1) (hL : rightL ks (d + 1) (if k = 8 then g + 1 else g) = (true, g')) (hN : k = 5 ∨ k = 6 → headN ks = false) :
    T.right (.node k m z p ks) d g = (true, g') := by
  unfold T.right
  rw [if_neg (by simp only [not_or]; exact ⟨by omega, by simp [hk], by simp [hb]⟩), if_neg (by rintro ⟨e, h⟩; exact h (h8 e))]
  dsimp only
  rw [hL]
  by_cases h : k = 5 ∨ k = 6
  · rw [hN h]; simp
  · rw [decide_eq_false h]; rfl
theorem rightL_snoc {acc : List T} {t : T} {d g0 g1 g2 : Nat} (h : rightL acc d g0 = (true, g1)) (ht : t.right d g1 = (true, g2)) : rightL (acc ++ [t]) d g0 = (true, g2) := by
  induction acc generalizing g0 with
  | nil =>
    rw [rightL] at h
    injection h with _ h
    subst h
    rw [List.nil_append, rightL, ht, if_pos rfl, rightL]
  | cons a r ih =>
    rw [rightL] at h
    rw [List.cons_append, rightL]
    split at h
    · rename_i h1
      rw [if_pos h1]
      exact ih h
    · cases h
theorem rightL_one {t : T} {d g g' : Nat} (h : rightL [t] d g = (true, g')) : t.right d g = (true, g') := by
  rw [rightL] at h
  split at h
  · rename_i h1
    rw [rightL] at h
    injection h with _ h
    rw [← h, ← h1]
  · cases h
theorem one_right {t : T} {d g g' : Nat} (h : t.right d g = (true, g')) : rightL [t] d g = (true, g') := by
  rw [rightL, h, if_pos rfl, rightL]
def RtP (b ne g0 : Nat) (t : T) (gr' : Nat) : Prop := gr' ≤ 9 ∧ ∀ d, 1 ≤ d → d + b ≤ 41 + 4 * ne → t.right d g0 = (true, gr')
structure RtAt (s : List UInt8) (f : Nat) : Prop where
  alts : ∀ ne i gr acc t i' gr' g0, altsP s f ne i gr acc = .ok t i' gr' → ne ≤ 8 → gr ≤ 9 → (∀ d, d + 36 ≤ 41 + 4 * ne → rightL acc (d + 1) g0 = (true, gr)) → RtP 36 ne g0 t gr'
  items : ∀ ne i gr acc t i' gr' g0, itemsP s f ne i gr acc = .ok t i' gr' → ne ≤ 8 → gr ≤ 9 → (∀ d, d + 35 ≤ 41 + 4 * ne → rightL acc (d + 1) g0 = (true, gr)) → RtP 35 ne g0 t gr'
  item : ∀ ne i gr t i' gr', itemP s f ne i gr = .ok t i' gr' → ne ≤ 8 → gr ≤ 9 → RtP 34 ne gr t gr'
  atom : ∀ ne i gr t i' gr', atomP s f ne i gr = .ok t i' gr' → ne ≤ 8 → gr ≤ 9 → RtP 33 ne gr t gr'
  bracket : ∀ ne i gr t i' gr', bracketP s f ne i gr = .ok t i' gr' → ne ≤ 8 → gr ≤ 9 → RtP 33 ne gr t gr'
theorem alt_right {acc : List T} {g0 gr ne : Nat} (hne : ne ≤ 8) (hg : gr ≤ 9) (hn : acc ≠ []) (h : ∀ d, d + 36 ≤ 41 + 4 * ne → rightL acc (d + 1) g0 = (true, gr)) : RtP 36 ne g0 (mkAlt acc) gr := by
  refine ⟨hg, fun d h1 hd => ?_⟩
  rcases acc with _ | ⟨a, _ | ⟨b, r⟩⟩
  · exact absurd rfl hn
  · have h2 := rightL_one (h (d - 1) (by omega))
    rw [Nat.sub_add_cancel h1] at h2
    exact h2
  · exact right_mk (by omega) (by simp [kidsOk]) (by unfold bareB; rw [none_noP]; rfl) (fun e => by cases e) (h d hd) (fun e => by rcases e with e | e <;> cases e)
theorem cat_right {acc : List T} {g0 gr ne : Nat} (hne : ne ≤ 8) (hg : gr ≤ 9) (h : ∀ d, d + 35 ≤ 41 + 4 * ne → rightL acc (d + 1) g0 = (true, gr)) : RtP 35 ne g0 (mkCat acc) gr := by
  refine ⟨hg, fun d h1 hd => ?_⟩
  rcases acc with _ | ⟨a, _ | ⟨b, r⟩⟩
  · exact right_mk (by omega) (by simp [kidsOk]) (by unfold bareB; rw [none_noP]; rfl) (fun e => by cases e) (h d hd) (fun e => by rcases e with e | e <;> cases e)
  · have h2 := rightL_one (h (d - 1) (by omega))
    rw [Nat.sub_add_cancel h1] at h2
    exact h2
  · exact right_mk (by omega) (by simp [kidsOk]) (by unfold bareB; rw [none_noP]; rfl) (fun e => by cases e) (h d hd) (fun e => by rcases e with e | e <;> cases e)
theorem set_right {p : Nat → Bool} {n k i gr ne : Nat} {t : T} {i' gr' : Nat} (h : setP p n k i gr = .ok t i' gr') (hne : ne ≤ 8) (hg : gr ≤ 9) : RtP 33 ne gr t gr' := by
  unfold setP at h
  split at h
  · simp only [PR.ok.injEq] at h
    obtain ⟨rfl, _, rfl⟩ := h
    exact ⟨hg, fun d h1 hd => right_mk (by omega) (by simp [kidsOk]) (by simp [bareB]) (fun e => by cases e) (by rw [rightL]; rfl) (fun e => by rcases e with e | e <;> cases e)⟩
  · cases h
theorem rep_right {s : List UInt8} {t u : T} {i gr g0 i' gr' ne : Nat} (h : repP s t i gr = .ok u i' gr') (hne : ne ≤ 8) (ht : RtP 33 ne g0 t gr) : RtP 34 ne g0 u gr' := by
  obtain ⟨h9, hr⟩ := ht
  unfold repP at h
  split at h
  · simp only [PR.ok.injEq] at h
    obtain ⟨rfl, _, rfl⟩ := h
    exact ⟨h9, fun d h1 hd => hr d h1 (by omega)⟩
  · rename_i c hc
    split at h
    · rename_i hc3
      split at h
      · cases h
      · rename_i hnn
        simp only [PR.ok.injEq] at h
        obtain ⟨rfl, _, rfl⟩ := h
        refine ⟨h9, fun d h1 hd => ?_⟩
        have h3 : ∃ kd : Int, (if c = 42 then (5 : Int) else if c = 43 then 6 else 7) = kd ∧ (kd = 5 ∨ kd = 6 ∨ kd = 7) ∧ (kd = 5 ∨ kd = 6 → c ≠ 63) := by
          rcases hc3 with rfl | rfl | rfl
          · exact ⟨5, rfl, .inl rfl, fun _ => by decide⟩
          · exact ⟨6, rfl, .inr (.inl rfl), fun _ => by decide⟩
          · exact ⟨7, rfl, .inr (.inr rfl), fun e => by rcases e with e | e <;> cases e⟩
        obtain ⟨kd, e, hk, hn⟩ := h3
        rw [e]
        refine right_mk (by omega) ?_ ?_ (fun e => by omega) ?_ (fun e => ?_)
        · rcases hk with rfl | rfl | rfl <;> simp [kidsOk]
        · unfold bareB
          rw [none_noP, decide_eq_true hk]
          simp
        · rw [if_neg (by omega)]
          exact one_right (hr (d + 1) (by omega) (by omega))
        · have hnl : ¬ t.nullable = true := fun hx => hnn ⟨hn e, hx⟩
          rw [headN]
          simpa using hnl
    · simp only [PR.ok.injEq] at h
      obtain ⟨rfl, _, rfl⟩ := h
      exact ⟨h9, fun d h1 hd => hr d h1 (by omega)⟩

theorem rt_all (s : List UInt8) : ∀ f, RtAt s f := by
  intro f
  induction f with
  | zero => exact ⟨fun _ _ _ _ _ _ _ _ h => by simp [altsP] at h, fun _ _ _ _ _ _ _ _ h => by simp [itemsP] at h, fun _ _ _ _ _ _ h => by simp [itemP] at h, fun _ _ _ _ _ _ h => by simp [atomP] at h, fun _ _ _ _ _ _ h => by simp [bracketP] at h⟩
  | succ f ih =>
    refine ⟨?_, ?_, ?_, ?_, ?_⟩
    · intro ne i gr acc t i' gr' g0 h hne hg ha
      rw [altsP] at h
      cases h1 : itemsP s f ne i gr [] with
      | out => rw [h1] at h; cases h
      | err k => rw [h1] at h; cases h
      | ok t1 i1 gr1 =>
        rw [h1] at h
        dsimp only at h
        obtain ⟨h9, h2⟩ := ih.items _ _ _ _ _ _ _ gr h1 hne hg (fun d _ => by rw [rightL])
        have ha2 : ∀ d, d + 36 ≤ 41 + 4 * ne → rightL (acc ++ [t1]) (d + 1) g0 = (true, gr1) := fun d hd => rightL_snoc (ha d hd) (h2 (d + 1) (by omega) (by omega))
        split at h
        · exact ih.alts _ _ _ _ _ _ _ _ h hne h9 ha2
        · simp only [PR.ok.injEq] at h
          obtain ⟨rfl, _, rfl⟩ := h
          exact alt_right hne h9 (by simp) ha2
    · intro ne i gr acc t i' gr' g0 h hne hg ha
      rw [itemsP] at h
      have hc : PR.ok (mkCat acc) i gr = .ok t i' gr' → RtP 35 ne g0 t gr' := by
        intro h
        simp only [PR.ok.injEq] at h
        obtain ⟨rfl, _, rfl⟩ := h
        exact cat_right hne hg ha
      split at h
      · exact hc h
      · split at h
        · exact hc h
        · cases h1 : itemP s f ne i gr with
          | out => rw [h1] at h; cases h
          | err k => rw [h1] at h; cases h
          | ok t1 i1 gr1 =>
            rw [h1] at h
            dsimp only at h
            obtain ⟨h9, h2⟩ := ih.item _ _ _ _ _ _ h1 hne hg
            exact ih.items _ _ _ _ _ _ _ _ h hne h9 (fun d hd => rightL_snoc (ha d hd) (h2 (d + 1) (by omega) (by omega)))
    · intro ne i gr t i' gr' h hne hg
      rw [itemP] at h
      cases h1 : atomP s f ne i gr with
      | out => rw [h1] at h; cases h
      | err k => rw [h1] at h; cases h
      | ok t1 i1 gr1 =>
        rw [h1] at h
        dsimp only at h
        exact rep_right h hne (ih.atom _ _ _ _ _ _ h1 hne hg)
    · intro ne i gr t i' gr' h hne hg
      rw [atomP] at h
      cases hc : s[i]? with
      | none => rw [hc] at h; cases h
      | some c =>
        rw [hc] at h
        dsimp only at h
        split at h
        · exact ih.bracket _ _ _ _ _ _ h hne hg
        · split at h
          · exact set_right h hne hg
          · split at h
            · exact set_right h hne hg
            · split at h
              · exact set_right h hne hg
              · split at h
                · cases h
                · exact set_right h hne hg
    · intro ne i gr t i' gr' h hne hg
      rw [bracketP] at h
      split at h
      · cases h
      · rename_i h8
        split at h
        · split at h
          · cases h
          · split at h
            · obtain ⟨u, j, h1, _, rfl, _⟩ := close_ok h
              obtain ⟨h9, h2⟩ := ih.alts _ _ _ _ _ _ _ gr h1 (by omega) hg (fun d _ => by rw [rightL])
              exact ⟨h9, fun d h1 hd => h2 d h1 (by omega)⟩
            · cases h
        · split at h
          · cases h
          · rename_i hg9
            obtain ⟨u, j, h1, _, rfl, _⟩ := close_ok h
            rw [if_neg (by omega)]
            obtain ⟨h9, h2⟩ := ih.alts _ _ _ _ _ _ _ (gr + 1) h1 (by omega) (by omega) (fun d _ => by rw [rightL])
            refine ⟨h9, fun d h1 hd => right_mk (by omega) (by simp [kidsOk]) (by unfold bareB; rw [none_noP]; rfl) (fun _ => by omega) ?_ (fun e => by rcases e with e | e <;> cases e)⟩
            rw [if_pos rfl]
            exact one_right (h2 (d + 1) (by omega) (by omega))
/-- What is parsed is right, and has nine groups at most. -/
theorem parsed_right {s : List UInt8} {t : T} {i gr : Nat} (h : parseR s = .ok t i gr) : (t.right 1 0).1 = true ∧ t.groups ≤ 9 := by
  obtain ⟨_, _, h2⟩ := parseR_ok h
  obtain ⟨h9, hr⟩ := (rt_all s _).alts _ _ _ _ _ _ _ 0 h2 (by omega) (by omega) (fun d _ => by rw [rightL])
  have h1 := hr 1 (by omega) (by omega)
  have hc := right_count t 1 0 (by rw [h1])
  rw [h1] at hc
  refine ⟨by rw [h1], ?_⟩
  have : gr = 0 + t.groups := hc
  omega
end Go.Proofs.YtlofdnefbgjmpaaDoor
