/- layer 39: events parted. -/
import Derived.Test.YtnbdmlpnoiljdaaCut3
import Derived.Shelf.Abstract
namespace Go.Proofs.Ytnbdmlpnoiljdaa
open Go Go.RowKit

def cutsE (sz : Nat → Nat) (e : Ev) (N : Nat) : Nat → Nat → Nat → List Ev × Nat
  | 0, _, c => ([], c)
  | f + 1, a, c => if a < N then (partE e a (min (a + sz c) N) :: (cutsE sz e N f (min (a + sz c) N) (c + 1)).1, (cutsE sz e N f (min (a + sz c) N) (c + 1)).2) else ([], c)
def splitE (sz : Nat → Nat) (c : Nat) (e : Ev) : List Ev × Nat := if rightE e then (if sizeE e < 0 then ([e], c) else cutsE sz e (sizeE e).toNat (sizeE e).toNat 0 c) else ([], c)
def splitL (sz : Nat → Nat) : List Ev → Nat → List Ev × Nat
  | [], c => ([], c)
  | e :: r, c => ((splitE sz c e).1 ++ (splitL sz r (splitE sz c e).2).1, (splitL sz r (splitE sz c e).2).2)

theorem cutsE_end {sz : Nat → Nat} {e : Ev} {N f a c : Nat} (h : N ≤ a) : cutsE sz e N f a c = ([], c) := by
  cases f with
  | zero => rfl
  | succ f => simp [cutsE, show ¬ a < N by omega]
theorem cutsE_step {sz : Nat → Nat} {e : Ev} {N f a c to : Nat} (h : a < N) (hf : N ≤ a + f) (ht : to = min (a + sz c) N) : ∃ f', f = f' + 1 ∧ cutsE sz e N f a c = (partE e a to :: (cutsE sz e N f' to (c + 1)).1, (cutsE sz e N f' to (c + 1)).2) := by
  cases f with
  | zero => omega
  | succ f => exact ⟨f, rfl, by subst ht; simp [cutsE, h]⟩
theorem size_le {e : Ev} (h : rightE e = true) : sizeE e ≤ 9999 := by
  rcases right_kind h with hk | hk | hk | hk
  · have := (right1 h hk).2.1; unfold sizeE; rw [if_pos hk]; omega
  · unfold sizeE; rw [if_neg (by omega), if_neg (by omega)]; omega
  · have := (right3 h hk).2.1; unfold sizeE; rw [if_neg (by omega), if_pos hk]; omega
  · unfold sizeE; rw [if_neg (by omega), if_neg (by omega)]; omega
theorem size_kind {e : Ev} (h : ¬ sizeE e < 0) : e.kind = 1 ∨ e.kind = 3 := by
  unfold sizeE at h
  split at h
  · omega
  · split at h
    · omega
    · omega
/-- What a right event's parts need. -/
theorem right_fit {e : Ev} (h : rightE e = true) (hs : ¬ sizeE e < 0) : e.b.length ≤ 1000000 ∧ e.m.length ≤ 1000000 ∧ ∀ x ∈ e.m, 0 ≤ x ∧ x ≤ 1000000 := by
  rcases size_kind hs with hk | hk
  · obtain ⟨_, h2, h3⟩ := right1 h hk
    refine ⟨by omega, ?_, fun x hx => by have := risA_mem h3 x hx; omega⟩
    have : ∀ (l : List Int) (last : Int), risA last e.b.length l = true → (l.length : Int) ≤ e.b.length - last ∨ l = [] := by
      intro l
      induction l with
      | nil => intro _ _; exact .inr rfl
      | cons x r ih =>
        intro last hl
        obtain ⟨a1, a2, a3⟩ := risA_cons hl
        left
        rcases ih x a3 with h | h
        · simp only [List.length_cons]; omega
        · subst h; simp; omega
    rcases this _ _ h3 with h | h
    · omega
    · rw [h]; simp
  · obtain ⟨_, _, h3, h4⟩ := right3 h hk
    rw [h3, h4]; simp

/-- What the closure that says how much comes next must do. -/
structure NextFn (f : FuncId) (cap : Array Value) (I : World → Nat → Prop) (sz : Nat → Nat) (X : List Nat) (B : Nat) : Prop where
  call : ∀ w k, I w k → Calls Try.prog f cap w fun e w' => e = .returned (.int .i64 (sz k)) ∧ I w' (k + 1) ∧ Chg X w w'
  stable : ∀ w w' k Y, I w k → Chg Y w w' → (∀ y ∈ Y, B ≤ y) → I w' k
  pos : ∀ k, 1 ≤ sz k ∧ sz k ≤ 9999
  enters : Enters Try.prog f

theorem EvOk.later {w w' : World} {X X' : List Nat} {e : Ev} {vb vm : Value} (h : EvOk w X e vb vm) (hc : Chg X w w') (hx : ∀ x ∈ X', x ∈ X ∨ w.heap.size ≤ x) : EvOk w' X' e vb vm := h.step hc (fun _ hy => .inl hy) hx

set_option maxHeartbeats 4000000 in
set_option maxRecDepth 20000 in
theorem cutParted {f : FuncId} {cap : Array Value} {I : World → Nat → Prop} {sz : Nat → Nat} {X : List Nat} {w : World} (F : NextFn f cap I sz X w.heap.size) (es : List Ev) (A : Option Addr) (n c : Nat) (hr : EvsRd w X A n es) (hX : ∀ x ∈ X, x < w.heap.size) (hI : I w 0) (hn : n ≤ 100000) (hnc : n ≤ c) (hAX : 0 < n → ∀ b o s, A = some ⟨b, o, s⟩ → b ∉ X) :
    Calls Try.prog 22 #[.slice A n c, .func (.func f) #[] cap] w fun r w' => ∃ v, r = .returned v ∧ OutAt w' w.heap.size X v (splitL sz es 0).1 ∧ Chg X w w' := by
  have hl : es.length = n := by obtain ⟨vs, _, h, _⟩ := hr; exact h
  have HR := Lib.hid hr
  have HL := Lib.hid hl
  have HI := Lib.hid hI
  clear hr hl hI
  obtain ⟨B, hB⟩ : ∃ B, w.heap.size = B := ⟨_, rfl⟩
  rw [hB] at F hX ⊢
  have HB := Lib.hid hB
  clear hB
  go_enter Try.func22, Try.ntmps22
  go_wp2
  go_loopw [5, 13] (fun v i wr => ∃ (k cc : Nat) (D : List Ev), k ≤ n ∧ i = .int .i64 k ∧ OutAt wr B X v D ∧ I wr cc ∧ Chg X w wr ∧ D.length ≤ 10000 * k ∧ (splitL sz es 0).1 = D ++ (splitL sz (es.drop k) cc).1) (fun _ i _ => n - (intOf i).toNat)
  case atStart => exact ⟨0, 0, [], Nat.zero_le _, rfl, OutAt.nil _ _ _, HI.out, .refl _ _, by simp, by simp⟩
  case round =>
    obtain ⟨k, cc, D, hk, rfl, hO, hI, hc, hD, hT⟩ := hrel
    obtain ⟨Av, cv, rfl, hcv, hcm⟩ := hO.len
    have hBw : B ≤ wr.heap.size := by rw [← HB.out]; exact hc.size
    by_cases hlt : k < n
    · have hkl : k < es.length := by rw [HL.out]; exact hlt
      obtain ⟨e, he⟩ : ∃ e, es[k]? = some e := ⟨_, List.getElem?_eq_getElem hkl⟩
      have hek : es[k] = e := by rw [List.getElem?_eq_getElem hkl] at he; exact Option.some.inj he
      obtain ⟨b, o, vb, vm, rfl, hbl, q0, q1, q2, q3, hev⟩ := HR.out.get he
      obtain ⟨Ab, cb, Bm, dm, rfl, rfl, _, _, _, _, _, _⟩ := hev.open
      have hbX : ∀ x ∈ X, B ≤ x → False := fun x hx h => by have := hX x hx; omega
      have hevr : ∀ X', (∀ x ∈ X', x ∈ X ∨ B ≤ x) → ∀ w', Chg X w w' → EvOk w' X' e (.slice Ab e.b.length cb) (.slice Bm e.m.length dm) := fun X' hx w' hc' => hev.later hc' (fun x h => by rw [HB.out]; exact hx x h)
      rw [List.drop_eq_getElem_cons hkl, hek] at hT
      simp only [splitL] at hT
      have HT := Lib.hid hT
      have hbx := hAX (by omega) b o none rfl
      have p0 : wr.cell? ⟨b, o + k * 4, none⟩ = some (.int .i64 e.kind) := hc.cell q0 hbx
      have p1 : wr.cell? ⟨b, o + k * 4 + 1, none⟩ = some (.int .i64 e.n) := hc.cell q1 hbx
      have p2 : wr.cell? ⟨b, o + k * 4 + 2, none⟩ = some (.slice Ab e.b.length cb) := hc.cell q2 hbx
      have p3 : wr.cell? ⟨b, o + k * 4 + 3, none⟩ = some (.slice Bm e.m.length dm) := hc.cell q3 hbx
      have hE0 := Blk.new wr 43 #[.int .i64 e.kind, .int .i64 e.n, .slice Ab e.b.length cb, .slice Bm e.m.length dm]
      have hev1 : EvOk (wr.alloc (.cells #[.int .i64 e.kind, .int .i64 e.n, .slice Ab e.b.length cb, .slice Bm e.m.length dm] 43)) X e (.slice Ab e.b.length cb) (.slice Bm e.m.length dm) := hevr X (fun x hx => .inl hx) _ (hc.alloc _)
      have HEVR := Lib.hid hevr
      obtain ⟨r, hrb⟩ : ∃ r, rightE e = r := ⟨_, rfl⟩
      have HRB := Lib.hid hrb
      have HEK := Lib.hid he
      have hc1 : Chg X w (wr.alloc (.cells #[.int .i64 e.kind, .int .i64 e.n, .slice Ab e.b.length cb, .slice Bm e.m.length dm] 43)) := hc.alloc _
      have hx1 := Ext.new1 wr (.cells #[.int .i64 e.kind, .int .i64 e.n, .slice Ab e.b.length cb, .slice Bm e.m.length dm] 43)
      clear hT hek he hev q0 q1 q2 q3 hbX hevr hrb hkl
      cases r
      case false =>
        go_wp2_with (first
          | (go_at_call 28; refine (rawRight (hev1.keep hb2) false HRB.out).mono ?_; rintro _ w3 ⟨rfl, hb3⟩)
          | (go_at_call 32; refine (cutSize hev1).mono ?_; rintro _ w2 ⟨rfl, hb2⟩; have hE2 := hE0.keep hb2; have s0 := hE2.cell 0; have s1 := hE2.cell 1; have s2 := hE2.cell 2; have s3 := hE2.cell 3))
        have hsp : splitE sz cc e = ([], cc) := by unfold splitE; rw [HRB.out]; rfl
        have hT2 := HT.out
        rw [hsp] at hT2
        have hx3 := hx1.trans (hb2.trans hb3)
        have HT2 := Lib.hid hT2
        clear hsp hT2
        go_roundw
        case rel => exact ⟨k + 1, cc, D, hlt, by go_num, hO.keep hx3, F.stable _ _ _ [] hI (.of_ext hx3) (by simp), hc.trans (.of_ext hx3), by omega, by simpa using HT2.out⟩
        case measure => simp [intOf]; omega
      have hownA : ∀ x ∈ (Value.slice Av D.length cv).ownBlock.toList ++ X, x ∈ X ∨ B ≤ x := fun x hx => by
        rcases List.mem_append.1 hx with h | h
        · right; exact (hO.own_lt x (by simpa using h)).1
        · exact .inl h
      obtain ⟨vs, hv1, hv2, hv3, hv4⟩ := hO
      have HV2 := Lib.hid hv2
      have HV4 := Lib.hid hv4
      have HV3 := Lib.hid hv3
      have HOA := Lib.hid hownA
      clear hv2 hv4 hv3 hownA
      have hD9 : D.length ≤ 1000000000 := by omega
      have hsz9 := size_le HRB.out
      by_cases hsz : sizeE e < 0
      · go_wp2_with (first
          | (at_builtin; go_loud (refine wpList_app2 (base := B) Try.elemEv rfl (.tmp 26) (.tmp 28) rfl (v := .slice Av D.length cv) (n := D.length) rfl (own_ext HV2.out (hx1.trans ((hb2.trans hb3).trans (Ext.new1 w3 _)))) (by have := hb2.size; have := hb3.size; simp at *; omega) rfl (rd_newS w3 4 1 (evV e (.slice Ab e.b.length cb) (.slice Bm e.m.length dm)) 43 rfl) (by simp [evV, Value.oneCell']) (by omega) (by unfold maxLen; omega) ?_); intro v4 w4 hown4 hg4 _ hat4; obtain ⟨A4, c4, rfl, _, _, _⟩ := own_rd hown4; have HOWN4 := Lib.hid hown4; have HG4 := Lib.hid hg4; have HAT4 := Lib.hid hat4; clear hown4 hg4 hat4)
          | (go_at_call 28; refine (rawRight (hev1.keep hb2) true HRB.out).mono ?_; rintro _ w3 ⟨rfl, hb3⟩; have hE3 := (hE0.keep hb2).keep hb3; have t0 := hE3.cell 0; have t1 := hE3.cell 1; have t2 := hE3.cell 2; have t3 := hE3.cell 3)
          | (go_at_call 32; refine (cutSize hev1).mono ?_; rintro _ w2 ⟨rfl, hb2⟩; have hE2 := hE0.keep hb2; have s0 := hE2.cell 0; have s1 := hE2.cell 1; have s2 := hE2.cell 2; have s3 := hE2.cell 3))
        have hsp : splitE sz cc e = ([e], cc) := by unfold splitE; rw [HRB.out, if_pos rfl, if_pos hsz]
        have hT2 := HT.out
        rw [hsp] at hT2
        have HT2 := Lib.hid hT2
        have hx3 : Ext wr (w3.alloc (.cells #[.int .i64 e.kind, .int .i64 e.n, .slice Ab e.b.length cb, .slice Bm e.m.length dm] 43)) := hx1.trans ((hb2.trans hb3).trans (Ext.new1 w3 _))
        have hc3 : Chg X w (w3.alloc (.cells #[.int .i64 e.kind, .int .i64 e.n, .slice Ab e.b.length cb, .slice Bm e.m.length dm] 43)) := hc.trans (.of_ext hx3)
        have hc3s : w.heap.size ≤ (w3.alloc (.cells #[.int .i64 e.kind, .int .i64 e.n, .slice Ab e.b.length cb, .slice Bm e.m.length dm] 43)).heap.size := hc3.size
        have hob4 : ∀ y ∈ (Value.slice Av D.length cv).ownBlock.toList, B ≤ y := fun y hy => (HV2.out.lt y (by simpa using hy)).1
        have hO4 : OutAt w4 B X (.slice A4 (D.length + 1) c4) (D ++ [e]) := OutAt.push rfl vs hv1 HV3.out (fun j e' u h1 h2 => (HV4.out j e' u h1 h2).keep hx3) (HEVR.out _ HOA.out _ hc3) (fun x hx => by have := hX x hx; have := HB.out; omega) HOWN4.out HG4.out HAT4.out
        have hc4 : Chg X w w4 := hc3.more HG4.out.chg (fun y hy => .inr (by have := hob4 y hy; have := HB.out; omega))
        have hI4 : I w4 cc := F.stable _ _ _ _ hI ((Chg.of_ext hx3).trans HG4.out.chg) hob4
        have hlen4 : (D ++ [e]).length = D.length + 1 := by simp
        rw [← hlen4] at hO4
        clear hsp hT2 hx3 hc3 hc3s hob4 HOWN4 HG4 HAT4 hE3 hE2 s0 s1 s2 s3 t0 t1 t2 t3 hb2 hb3
        have hsz' : ¬ (0 : Int) < sizeE e := by omega
        refine wp_loop_rounds 1 ?_
        rw [rounds_succ]
        go_wp2
        go_roundw
        case rel => exact ⟨k + 1, cc, D ++ [e], hlt, by go_num, by rw [hlen4] at hO4; exact hO4, hI4, hc4, by rw [hlen4]; omega, by rw [List.append_assoc]; exact HT2.out⟩
        case measure => simp [intOf]; omega
      · obtain ⟨N, hN⟩ : ∃ N : Nat, sizeE e = (N : Int) := ⟨(sizeE e).toNat, by omega⟩
        have hsp : splitE sz cc e = cutsE sz e N N 0 cc := by unfold splitE; rw [HRB.out, if_pos rfl, if_neg hsz, hN]; rfl
        have hT2 := HT.out
        rw [hsp] at hT2
        have HT2 := Lib.hid hT2
        have hfit := right_fit HRB.out hsz
        have hkind := size_kind hsz
        have hN9 : N ≤ 9999 := by omega
        have HN := Lib.hid hN
        have HKIND := Lib.hid hkind
        have HFIT := Lib.hid hfit
        clear hsp hT2 hsz hfit hkind hsz9
        go_wp2_with (first
          | (go_at_call 28; refine (rawRight (hev1.keep hb2) true HRB.out).mono ?_; rintro _ w3 ⟨rfl, hb3⟩; have hE3 := (hE0.keep hb2).keep hb3)
          | (go_at_call 32; refine (cutSize hev1).mono ?_; rw [HN.out]; rintro _ w2 ⟨rfl, hb2⟩; have hE2 := hE0.keep hb2; have s0 := hE2.cell 0; have s1 := hE2.cell 1; have s2 := hE2.cell 2; have s3 := hE2.cell 3))
        have hx3 := hx1.trans (hb2.trans hb3)
        have hO3 : OutAt w3 B X (.slice Av D.length cv) D := OutAt.keep ⟨vs, hv1, HV2.out, HV3.out, HV4.out⟩ hx3
        have hI3 : I w3 cc := F.stable _ _ _ [] hI (.of_ext hx3) (by simp)
        have hc3 : Chg X w w3 := hc.trans (.of_ext hx3)
        obtain ⟨ge, hge⟩ : ∃ ge, wr.heap.size = ge := ⟨_, rfl⟩
        have hobg : ob (.slice Av D.length cv) ≠ ge + 1 := fun h => by
          have := (HV2.out.lt ge (ob_own.2 h)).2; omega
        have hgB : B ≤ ge := by omega
        rw [hge] at hE3 ⊢
        clear hx3 hx1 hb2 hb3 hE2 s0 s1 s2 s3 hE0 hev1 hge hc1
        go_loopw [5, 9] (fun v a wi => ∃ (av ca f : Nat) (P : List Ev), av ≤ N ∧ a = .int .i64 av ∧ OutAt wi B X v P ∧ I wi ca ∧ Chg X w wi ∧ Blk wi ge 43 (evV e (.slice Ab e.b.length cb) (.slice Bm e.m.length dm)) ∧ ob v ≠ ge + 1 ∧ N ≤ av + f ∧ P.length ≤ 10000 * k + av ∧
          (splitL sz es 0).1 = P ++ ((cutsE sz e N f av ca).1 ++ (splitL sz (es.drop (k + 1)) (cutsE sz e N f av ca).2).1)) (fun _ a _ => N - (intOf a).toNat)
        case atStart => exact ⟨0, cc, N, D, Nat.zero_le _, rfl, hO3, hI3, hc3, hE3, hobg, by omega, by omega, HT2.out⟩
        case round =>
          clear hO3 hI3 hc3 hE3 hobg
          obtain ⟨av, ca, fu, P, hav, rfl, hOi, hIi, hci, hEi, hobi, hfu, hP, hTi⟩ := hrel
          obtain ⟨Ai, cvi, rfl, hcvi, hcmi⟩ := hOi.len
          by_cases hlt2 : av < N
          · obtain ⟨to, hto⟩ : ∃ to, to = min (av + sz ca) N := ⟨_, rfl⟩
            obtain ⟨f', hf', hcu⟩ := cutsE_step (sz := sz) (e := e) (c := ca) hlt2 hfu hto
            have hpos := F.pos ca
            have hmin : (if (N : Int) < (av : Int) + (sz ca : Int) then (N : Int) else (av : Int) + (sz ca : Int)) = (to : Int) := by split <;> omega
            have hto1 : av < to ∧ to ≤ N := by omega
            obtain ⟨pe, hpe⟩ : ∃ pe, partE e av to = pe := ⟨_, rfl⟩
            rw [hcu, hpe] at hTi
            have hkp : e.kind = 3 ∨ (e.kind = 1 ∧ to ≤ e.b.length) := by
              rcases HKIND.out with h | h
              · right; refine ⟨h, ?_⟩; have := HN.out; unfold sizeE at this; rw [if_pos h] at this; omega
              · exact .inl h
            have HKP := Lib.hid hkp
            have HPE := Lib.hid hpe
            obtain ⟨s, hs⟩ : ∃ s, sz ca = s := ⟨_, rfl⟩
            rw [hs] at hmin hpos
            have HS := Lib.hid hs
            have HTI := Lib.hid hTi
            clear hto hcu hTi hs hpe hkp
            have hent : ∀ (args : Array Value) (w : World), (callFunc f args).run Try.prog w = .ok (.enter f args) w := F.enters
            go_wp2_with (first
              | (at_builtin; go_loud (refine wpList_app2 (base := B) Try.elemEv rfl (.tmp 39) (.tmp 44) rfl (v := .slice Ai P.length cvi) (n := P.length) rfl (own_ext U2.out (hb6.trans (Ext.new1 w6 _))) (by have := hc5.size; have := hb6.size; have := hci.size; have := HB.out; simp; omega) rfl (rd_newS w6 4 1 (evV pe (.slice A6 pe.b.length c6) (.slice B6 pe.m.length d6)) 43 rfl) (by simp [evV, Value.oneCell']) (by omega) (by unfold maxLen; omega) ?_); intro v4 w4 hown4 hg4 _ hat4; obtain ⟨A4, c4, rfl, _, _, _⟩ := own_rd hown4; have HOWN4 := Lib.hid hown4; have HG4 := Lib.hid hg4; have HAT4 := Lib.hid hat4; clear hown4 hg4 hat4)
              | (go_at_call 33; go_loud (refine (cutPart hev5 hlt5 av to (by omega) HKP.out HFIT.out.1 HFIT.out.2.1 HFIT.out.2.2 (by omega)).mono ?_); rw [HPE.out]; rintro _ w6 ⟨vb6, vm6, rfl, hev6, hb6⟩; obtain ⟨A6, c6, B6, d6, rfl, rfl, _, _, _, _, _, _⟩ := hev6.open; unfold evA)
              | (go_at_fn f; refine (F.call _ ca hIi).mono ?_; rw [HS.out]; rintro _ w5 ⟨rfl, hI5, hc5⟩; have hE5 := hEi.chg hc5 (fun h => by have := hX _ h; omega); have k0 : w5.cell? ⟨ge, 0, none⟩ = some (.int .i64 e.kind) := hE5.cell 0; have k1 : w5.cell? ⟨ge, 1, none⟩ = some (.int .i64 e.n) := hE5.cell 1; have k2 : w5.cell? ⟨ge, 2, none⟩ = some (.slice Ab e.b.length cb) := hE5.cell 2; have k3 : w5.cell? ⟨ge, 3, none⟩ = some (.slice Bm e.m.length dm) := hE5.cell 3; have hcw5 := hci.trans hc5; have hO5 := hOi.chg hc5 (fun _ h => h); obtain ⟨us, u1, u2, u3, u4⟩ := hO5; have U2 := Lib.hid u2; have U3 := Lib.hid u3; have U4 := Lib.hid u4; clear u2 u3 u4; have hev5 := HEVR.out ((Value.slice Ai P.length cvi).ownBlock.toList ++ X) (fun x hx => (List.mem_append.1 hx).elim (fun h => .inr (U2.out.lt x (by simpa using h)).1) .inl) _ hcw5; have hlt5 : ∀ x ∈ (Value.slice Ai P.length cvi).ownBlock.toList ++ X, x < w5.heap.size := (fun x hx => (List.mem_append.1 hx).elim (fun h => (U2.out.lt x (by simpa using h)).2) (fun h => by have := hX x h; have := hcw5.size; have := HB.out; omega))))
            have hx6 : Ext w5 (w6.alloc (.cells (evV pe (.slice A6 pe.b.length c6) (.slice B6 pe.m.length d6)).toArray 43)) := hb6.trans (Ext.new1 w6 _)
            have hx7 : Ext w6 (w6.alloc (.cells (evV pe (.slice A6 pe.b.length c6) (.slice B6 pe.m.length d6)).toArray 43)) := Ext.new1 w6 _
            have hob4 : ∀ y ∈ (Value.slice Ai P.length cvi).ownBlock.toList, B ≤ y := fun y hy => (U2.out.lt y (by simpa using hy)).1
            have hsz6 := hx6.size
            have hsz5 := hcw5.size
            have hO4 : OutAt w4 B X (.slice A4 (P.length + 1) c4) (P ++ [pe]) := OutAt.push rfl us u1 U3.out (fun j e' u h1 h2 => (U4.out j e' u h1 h2).keep hx6) (hev6.keep hx7) (fun x hx => by have := hlt5 x (List.mem_append_right _ hx); omega) HOWN4.out HG4.out HAT4.out
            have hc4 : Chg X w w4 := (hcw5.trans (.of_ext hx6)).more HG4.out.chg (fun y hy => .inr (by have := hob4 y hy; have := HB.out; omega))
            have hI4 : I w4 (ca + 1) := F.stable _ _ _ _ hI5 ((Chg.of_ext hx6).trans HG4.out.chg) hob4
            have hE4 : Blk w4 ge 43 (evV e (.slice Ab e.b.length cb) (.slice Bm e.m.length dm)) := (hE5.keep hx6).chg HG4.out.chg (fun hm => hobi (ob_list.1 hm))
            have hob5 : ob (.slice A4 (P.length + 1) c4) ≠ ge + 1 := by
              have hge5 := hE5.lt
              rcases ob_at HAT4.out with h | h
              · rw [h]; exact hobi
              · rw [h, World.size_alloc]; have := hb6.size; omega
            have hlen4 : (P ++ [pe]).length = P.length + 1 := by simp
            have hT4 := HTI.out
            rw [show P ++ (pe :: (cutsE sz e N f' to (ca + 1)).1 ++ (splitL sz (es.drop (k + 1)) (cutsE sz e N f' to (ca + 1)).2).1) = (P ++ [pe]) ++ ((cutsE sz e N f' to (ca + 1)).1 ++ (splitL sz (es.drop (k + 1)) (cutsE sz e N f' to (ca + 1)).2).1) by simp] at hT4
            exact ⟨⟨to, ca + 1, f', P ++ [pe], hto1.2, rfl, hO4, hI4, hc4, hE4, hob5, by omega, by rw [hlen4]; omega, hT4⟩, by simp [intOf]; omega⟩
          · obtain rfl : av = N := by omega
            rw [cutsE_end (Nat.le_refl _), List.nil_append] at hTi
            have HTI := Lib.hid hTi
            clear hTi
            go_wp2
            go_roundw
            case rel => exact ⟨k + 1, ca, P, hlt, by go_num, hOi, hIi, hci, by omega, HTI.out⟩
            case measure => simp [intOf]; omega
    · obtain rfl : k = n := by omega
      rw [List.drop_of_length_le (by rw [HL.out]; exact Nat.le_refl _)] at hT
      simp only [splitL, List.append_nil] at hT
      have HT := Lib.hid hT
      clear hT
      go_wp2
      go_ret
      exact ⟨_, rfl, by rw [HT.out]; exact hO, hc⟩
end Go.Proofs.Ytnbdmlpnoiljdaa
