/- layer 39's document: Split. -/
import Derived.Test.YtnbdmlpnoiljdaaEv6
namespace Go.Proofs.Ytnbdmlpnoiljdaa
open Go Go.RowKit

/-- An event is put behind a row; what turns, and where the row lies then. -/
theorem wpList_appR2 {w : World} {ops : Array Oper} {rest : List Oper} {o : Oper} {a : Act} {Q : Exit → Act → World → Prop} (hgd : o.guard = none) (s x : Operand)
    (ho : o.op = .call { callee := .builtin .append, args := #[s, x], argTypes := #[26, 26] })
    {B : Nat} {X : List Nat} {v : Value} {es : List Ev} {e : Ev} {vb vm : Value} (hR : RutAt w B X v es) (hB : B ≤ w.heap.size) (hX : ∀ x ∈ X, x < w.heap.size) (he : RvOk w (v.ownBlock.toList ++ X) e vb vm) {k : Nat} (hkl : es.length = k) (hl : k ≤ 1000000000)
    (hs : a.eval s = v) {g : Nat} (hg : g = w.heap.size) {cs : List Value} (hcs : cs = evV e vb vm) (hx : a.eval x = .slice (some ⟨g, 0, none⟩) 1 1)
    (cont : ∀ A' c' w', RutAt w' B X (.slice A' (k + 1) c') (es ++ [e]) → Chg v.ownBlock.toList w w' → (∀ q, (Value.slice A' (k + 1) c').ownBlock = some q → v.ownBlock = some q ∨ w.heap.size ≤ q) → wpList Try.prog ops Q rest (a.put o.dst (.slice A' (k + 1) c')) w') :
    wpList Try.prog ops Q (o :: rest) a (w.alloc (.cells cs.toArray 34)) := by
  subst hg hcs hkl
  have hx1 := Ext.new1 w (.cells (evV e vb vm).toArray 34)
  obtain ⟨vs, h1, h2, h3, h4⟩ := hR
  refine wpList_app2 (base := B) Try.elemRv hgd s x ho hs (own_ext h2 hx1) (Nat.le_trans hB hx1.size) hx (rd_newS w 4 1 (evV e vb vm) 34 rfl) ?_ (by omega) (by unfold maxLen; omega) ?_
  · have := he.b
    obtain ⟨A, n, c, hm, _⟩ := he.m
    subst hm this
    simp [evV, strV, Value.oneCell']
  · intro v' w' hown hg _ hat
    obtain ⟨A', c', rfl, _, _, _⟩ := own_rd hown
    refine cont A' c' w' (RutAt.push (w := w.alloc (.cells (evV e vb vm).toArray 34)) rfl vs h1 h3 (fun j e' u p q => (h4 j e' u p q).keep hx1) (he.keep hx1) (fun y hy => Nat.lt_of_lt_of_le (hX y hy) hx1.size) hown hg hat) ((Chg.of_ext hx1).trans hg.chg) (fun q hq => ?_)
    rcases hat with h | h
    · rw [h] at hq; exact .inl hq
    · rw [h] at hq
      cases hq
      exact .inr hx1.size
/-- One event alone. -/
theorem rvs_one {w : World} {X : List Nat} (e : Ev) (vb vm : Value) (h : RvOk w X e vb vm) {g : Nat} (hg : g = w.heap.size) {cs : List Value} (hcs : cs = evV e vb vm) : RvsRd (w.alloc (.cells cs.toArray 34)) X (some ⟨g, 0, none⟩) 1 [e] := by
  subst hg hcs
  refine ⟨[(vb, vm)], rfl, rfl, ?_, fun j e' v he hv => ?_⟩
  · have := rd_newS w 4 1 (evV e vb vm) 34 rfl
    simpa [evCells] using this
  · match j, he, hv with
    | 0, he, hv =>
      simp at he hv
      subst he hv
      exact h.keep (Ext.new1 _ _)
    | j + 1, he, _ => simp at he

set_option maxHeartbeats 8000000 in
set_option maxRecDepth 20000 in
/-- The document's parted events. -/
theorem refSplit {w : World} {es : List Ev} {A B : Option Addr} {n c m d : Nat} {l : List Int} (hr : RvsRd w [] A n es) (hn : n ≤ 1000) (hnc : n ≤ c) (hsm : ∀ e ∈ es, e.b.length ≤ 1000000 ∧ e.m.length ≤ 1000000) (hs : Rd w 1 B m (intsV l)) (hm : m ≤ 1000000) (hb : ∀ x ∈ l, -9223372036854775808 ≤ x ∧ x ≤ 9223372036854775807) :
    Calls Try.prog 14 #[.slice A n c, .slice B m d] w fun r w' => ∃ v, r = .returned v ∧ RutAt w' w.heap.size [] v (splitL (szOf l) es 0).1 ∧ Ext w w' := by
  have hl : es.length = n := by obtain ⟨vs, _, h, _⟩ := hr; exact h
  have hlm := hs.len_ints
  have HR := Lib.hid hr
  have HL := Lib.hid hl
  have HSM := Lib.hid hsm
  have HS := Lib.hid hs
  have HLM := Lib.hid hlm
  have HLB := Lib.hid hb
  clear hr hl hsm hs hlm hb
  obtain ⟨g0, hg0⟩ : ∃ g, w.heap.size = g := ⟨_, rfl⟩
  have h00 := own_empty w 34 4
  rw [hg0] at ⊢
  have HG0 := Lib.hid hg0
  clear hg0
  go_enter Try.func14, Try.ntmps14
  go_wp2
  go_loopw [5, 6, 14] (fun v nx i wr => ∃ (k cc nv : Nat) (D : List Ev), k ≤ n ∧ i = .int .i64 k ∧ nx = .int .i64 nv ∧ (l ≠ [] → nv = cc) ∧ nv ≤ 9999 * k ∧ D.length ≤ 9999 * k ∧ RutAt wr g0 [] v D ∧ Ext w wr ∧
    (splitL (szOf l) es 0).1 = D ++ (splitL (szOf l) (es.drop k) cc).1) (fun _ _ i _ => n - (intOf i).toNat)
  case atStart => exact ⟨0, 0, 0, [], Nat.zero_le _, rfl, rfl, fun _ => rfl, by omega, by simp, ⟨[], rfl, by simpa [evCells] using own_mono (base' := g0) h00 (by rw [HG0.out]; exact Nat.le_refl _), by simp, fun j e u h => by simp at h⟩, Ext.new1 _ _, by simp⟩
  case round =>
    clear h00
    obtain ⟨k, cc, nv, D, hk, rfl, rfl, hnv, hnk, hDk, hO, hx, hT⟩ := hrel
    obtain ⟨Av, cv, rfl, hcv, hcvm⟩ := hO.len
    have hsz0 : g0 ≤ wr.heap.size := by rw [← HG0.out]; exact hx.size
    by_cases hlt : k < n
    · obtain ⟨e, he⟩ : ∃ e, es[k]? = some e := ⟨_, List.getElem?_eq_getElem (by rw [HL.out]; exact hlt)⟩
      obtain ⟨b1, o1, B1, d1, rfl, hbl, p0', p1', p2', p3', hev', _⟩ := HR.out.at4 he
      have p0 : wr.cell? ⟨b1, o1 + k * 4, none⟩ = some (.int .i64 e.kind) := (hx.cell (p := ⟨b1, _, none⟩) hbl).trans p0'
      have p1 : wr.cell? ⟨b1, o1 + k * 4 + 1, none⟩ = some (.int .i64 e.n) := (hx.cell (p := ⟨b1, _, none⟩) hbl).trans p1'
      have p2 : wr.cell? ⟨b1, o1 + k * 4 + 2, none⟩ = some (.string ⟨e.b.toArray⟩) := (hx.cell (p := ⟨b1, _, none⟩) hbl).trans p2'
      have p3 : wr.cell? ⟨b1, o1 + k * 4 + 3, none⟩ = some (.slice B1 e.m.length d1) := (hx.cell (p := ⟨b1, _, none⟩) hbl).trans p3'
      have hes := HSM.out e (List.mem_of_getElem? he)
      -- what its parts are
      have hkl : k < es.length := by rw [HL.out]; exact hlt
      have hdr : es.drop k = e :: es.drop (k + 1) := by
        rw [List.drop_eq_getElem_cons hkl]
        rw [List.getElem?_eq_getElem hkl] at he
        rw [Option.some.inj he]
      rw [hdr] at hT
      simp only [splitL] at hT
      obtain ⟨sz', hsz'⟩ : ∃ sz' : Nat → Nat, (e.kind = 1 ∨ e.kind = 3 → sz' = szOf l) ∧ (¬ (e.kind = 1 ∨ e.kind = 3) → ∀ k, sz' k = 9999) := by
        by_cases h : e.kind = 1 ∨ e.kind = 3
        · exact ⟨szOf l, fun _ => rfl, fun h' => absurd h h'⟩
        · exact ⟨fun _ => 9999, fun h' => absurd h' h, fun _ _ => rfl⟩
      obtain ⟨hj1, hj2, hj3⟩ := splitE_J (fun k => (szOf_pos l k).1) cc e sz' hsz'.1 (fun h k => by rw [hsz'.2 h]; omega)
      rw [hj1] at hT
      have hN9 := atomsE_len9 e
      have hTa : ∀ x ∈ atomsE e, rightE x = true ∧ isAtom x := fun x hx => by
        have h : x ∈ atoms [e] := by simpa [atoms] using hx
        exact ⟨atoms_right x h, atoms_atom x h⟩
      have hat : atoms [e] = atomsE e := by simp [atoms]
      obtain ⟨cE, hcE⟩ : ∃ q, (splitE (szOf l) cc e).2 = q := ⟨_, rfl⟩
      obtain ⟨REST, hRE⟩ : ∃ q, (splitL (szOf l) (es.drop (k + 1)) cE).1 = q := ⟨_, rfl⟩
      obtain ⟨T, hTe⟩ : ∃ q, atomsE e = q := ⟨_, rfl⟩
      rw [hcE, hRE, hTe] at hT
      rw [hcE] at hj2 hj3
      rw [hTe] at hj2 hN9 hTa hat
      obtain ⟨N, hN⟩ : ∃ q, T.length = q := ⟨_, rfl⟩
      rw [hN] at hj2 hN9 hT
      have HT := Lib.hid hT
      have HJ2 := Lib.hid hj2
      have HJ3 := Lib.hid hj3
      have HTA := Lib.hid hTa
      have HAT := Lib.hid hat
      have HRE := Lib.hid hRE
      have HN := Lib.hid hN
      have HSZ := Lib.hid hsz'
      have HNV := Lib.hid hnv
      have HO := Lib.hid hO
      have hx1 := Ext.new1 wr (.cells #[.int .i64 e.kind, .int .i64 e.n, .string ⟨e.b.toArray⟩, .slice B1 e.m.length d1] 34)
      have hb1 : Blk (wr.alloc (.cells #[.int .i64 e.kind, .int .i64 e.n, .string ⟨e.b.toArray⟩, .slice B1 e.m.length d1] 34)) wr.heap.size 34 [.int .i64 e.kind, .int .i64 e.n, .string ⟨e.b.toArray⟩, .slice B1 e.m.length d1] := Blk.new wr 34 #[.int .i64 e.kind, .int .i64 e.n, .string ⟨e.b.toArray⟩, .slice B1 e.m.length d1]
      have HX1 := Lib.hid hx1
      have HB1 := Lib.hid hb1
      have HEV := Lib.hid (show RvOk wr [] e (.string ⟨e.b.toArray⟩) (.slice B1 e.m.length d1) from hev'.keep hx)
      clear p0' p1' p2' p3' hev' hdr hT hj1 hj2 hj3 hTa hat hcE hRE hTe hN hsz' hnv hO hx1 hb1 he hkl
      go_wp2_with (go_at_call 10; go_loud (refine (refAtoms (es := [e]) (Value.slice Av D.length cv).ownBlock.toList (fun y hy => by have := (HO.out.own_lt y (by simpa using hy)).2; simp; omega) (rvs_one e (.string ⟨e.b.toArray⟩) (.slice B1 e.m.length d1) (HEV.out.keep HX1.out) (by simp) rfl) (by omega) (by omega) (by simp; exact hes)).mono ?_); rw [HAT.out]; rintro _ w1 ⟨v1, rfl, hTo, hx2⟩; obtain ⟨At, ct, rfl, hct, hcm, hTr⟩ := hTo.rd)
      rw [HN.out] at hct hTr hTo ⊢
      obtain ⟨S, hS⟩ : ∃ q, (Value.slice Av D.length cv).ownBlock.toList = q := ⟨_, rfl⟩
      have hSlt : ∀ y ∈ S, g0 ≤ y ∧ y < wr.heap.size := fun y hy => HO.out.own_lt y (by rw [← hS] at hy; simpa using hy)
      have hSown : ∀ q, (Value.slice Av D.length cv).ownBlock = some q → q ∈ S := fun q hq => by rw [← hS, hq]; simp
      have hxr1 : Ext wr w1 := (HX1.out.trans (Ext.new1 _ _)).trans hx2
      rw [hS] at hTr hTo
      have hAT : ∀ b o s, At = some ⟨b, o, s⟩ → b ∉ S := fun b o s e hb => by
        have h1 := (hTo.own_lt b (by rw [e]; rfl)).1
        have h2 := (hSlt b hb).2
        simp at h1
        omega
      have hb8 := (HB1.out.keep (Ext.new1 _ (.cells (evV e (.string ⟨e.b.toArray⟩) (.slice B1 e.m.length d1)).toArray 34))).keep hx2
      have hg8S : wr.heap.size ∉ S := fun h => by have := (hSlt _ h).2; omega
      obtain ⟨bT, oT, hbT⟩ : ∃ bT oT, 0 < N → At = some ⟨bT, oT, none⟩ := by
        by_cases hp : 0 < N
        · obtain ⟨vs, _, _, h3, _⟩ := hTr
          obtain ⟨b, o, h, _⟩ := h3.2 (by rw [h3.1]; omega)
          exact ⟨b, o, fun _ => h⟩
        · exact ⟨0, 0, fun h => absurd h hp⟩
      have HTR := Lib.hid hTr
      have HATS := Lib.hid hAT
      have HBT := Lib.hid hbT
      have HB8 := Lib.hid hb8
      have HSL := Lib.hid hSlt
      have HO1 := Lib.hid (HO.out.keep hxr1)
      have hxw1 : Ext w w1 := hx.trans hxr1
      have hsz1 : wr.heap.size ≤ w1.heap.size := hxr1.size
      generalize hg8 : wr.heap.size = g8 at *
      clear hTr hTo hAT hbT hb8 hS hxr1 hx2 HX1 HB1 HO HEV p0 p1 p2 p3 hg8
      go_loopw [5, 6, 9] (fun v nx al wq => ∃ (a ca f r nq : Nat) (P : List Ev) (A' : Option Addr) (c' : Nat), a + r = N ∧ nx = .int .i64 nq ∧ al = .slice A' r c' ∧ r ≤ c' ∧ (0 < r → A' = some ⟨bT, oT + a * 4, none⟩ ∧ c' = ct - a) ∧ N ≤ a + f ∧
        (splitL (szOf l) es 0).1 = P ++ ((cutsJ sz' T f a ca).1 ++ REST) ∧ (e.kind = 1 ∨ e.kind = 3 → (cutsJ sz' T f a ca).2 = cE) ∧ (l ≠ [] → e.kind = 1 ∨ e.kind = 3 → nq = ca) ∧ (¬ (e.kind = 1 ∨ e.kind = 3) → nq = nv) ∧ nq ≤ nv + a ∧ P.length ≤ D.length + a ∧
        RutAt wq g0 [] v P ∧ (∀ q, v.ownBlock = some q → q ∈ S ∨ w1.heap.size ≤ q) ∧ Chg S w1 wq) (fun _ _ al _ => match al with | .slice _ r _ => r | _ => 0)
      case atStart => exact ⟨0, cc, N, N, nv, D, At, ct, by omega, rfl, rfl, hct, fun h => ⟨by rw [HBT.out h]; simp, by omega⟩, by omega, HT.out, HJ2.out, fun h _ => HNV.out h, fun _ => rfl, by omega, by omega, HO1.out, fun q hq => .inl (hSown q hq), Chg.refl _ _⟩
      case round =>
        obtain ⟨a, ca, f, r, nq, P, A', c', har, rfl, rfl, hrc, hA', hf, hT2, hJ, hnq, hnq2, hnqb, hPb, hOq, hown, hc⟩ := hrel
        obtain ⟨Aq, cq, rfl, hcq, hcqm⟩ := hOq.len
        have hxwq : Ext w wr := hc.below hxw1 hxw1.size (fun y hy => by have := (HSL.out y hy).1; have := HG0.out; omega)
        have hszq := hc.size
        by_cases hrp : 0 < r
        · obtain ⟨rfl, rfl⟩ := hA' hrp
          have hAt := HBT.out (by omega)
          have hTq : RvsRd wr S (some ⟨bT, oT, none⟩) N T := by rw [← hAt]; exact HTR.out.chg hc (fun y hy => .inl hy) HATS.out
          have z0 : wr.cell? ⟨g8, 0, none⟩ = some (.int .i64 e.kind) := (HB8.out.chg hc hg8S).cell 0
          have hsp : 1 ≤ sz' ca := by
            by_cases h : e.kind = 1 ∨ e.kind = 3
            · rw [HSZ.out.1 h]; exact (szOf_pos l ca).1
            · rw [HSZ.out.2 h]; omega
          obtain ⟨to, hto⟩ : ∃ to, to = min (a + sz' ca) N := ⟨_, rfl⟩
          obtain ⟨f', hf', hcu⟩ := cutsJ_step (sz := sz') (T := T) (f := f) (a := a) (c := ca) (to := to) (by rw [HN.out]; omega) (by rw [HN.out]; exact hf) (by rw [HN.out]; exact hto)
          obtain ⟨nn, rfl⟩ : ∃ nn, to = a + nn := ⟨to - a, by omega⟩
          have hnn : 0 < nn ∧ nn ≤ r := by omega
          rw [hcu] at hT2 hJ
          have hpart : RvsRd wr S (some ⟨bT, oT + a * 4, none⟩) nn (runAt T a (a + nn)) := by
            have := hTq.part (a := a) (t := a + nn) (by omega) (by omega)
            rwa [Nat.add_sub_cancel_left] at this
          have hRb : ∀ e ∈ runAt T a (a + nn), 0 ≤ e.n ∧ e.n ≤ 9999 ∧ e.b.length ≤ 1024 := fun e he => by have h := HTA.out e (List.mem_of_mem_drop (List.mem_of_mem_take he)); exact atom_bounds h.1 h.2
          obtain ⟨R, hR⟩ : ∃ q, runAt T a (a + nn) = q := ⟨_, rfl⟩
          rw [hR] at hpart hRb hT2 hJ
          have HRB := Lib.hid hRb
          have HPART := Lib.hid hpart
          have HT2 := Lib.hid hT2
          have HJ := Lib.hid hJ
          have HNQ := Lib.hid hnq
          have HNQ2 := Lib.hid hnq2
          have HOQ := Lib.hid hOq
          have HOWN := Lib.hid hown
          have HC := Lib.hid hc
          have HTO := Lib.hid hto
          clear hA' hAt hTq hcu hT2 hJ hnq hnq2 hOq hown hc hto hpart hRb hR
          by_cases hl0 : l = []
          · -- no sizes
            have hm0 : m = 0 := by rw [← HLM.out, hl0]; rfl
            have hnr : nn = r := by
              have h := HTO.out
              by_cases hk : e.kind = 1 ∨ e.kind = 3
              · rw [HSZ.out.1 hk, hl0, sz_nil hN9] at h; omega
              · rw [HSZ.out.2 hk] at h; omega
            subst hm0 hnr
            have HL0 := Lib.hid hl0
            clear hl0
            go_wp2_with (first
              | (at_builtin; go_loud (refine wpList_appR2 rfl (.tmp 51) (.tmp 56) rfl (e := joinL R) (vb := .string ⟨(joinL R).b.toArray⟩) (vm := .slice Aj (joinL R).m.length cj) (HOQ.out.keep hxj) (by have := hxj.size; omega) (by simp) (HVJ.out _ (fun y hy => by have := (HOQ.out.own_lt y (by simpa using hy)).2; exact this)) rfl (by omega) rfl rfl rfl rfl ?_); intro A4 c4 w4 hR4 hC4 hat4; have HR4 := Lib.hid hR4; have HC4 := Lib.hid hC4; have HAT4 := Lib.hid hat4; clear hR4 hC4 hat4)
              | (go_at_call 26; go_loud (refine (refJoin (HPART.out.sub (by simp)) (by omega) (by omega) (by omega) HRB.out).mono ?_); unfold evA strV; rintro _ wj ⟨Aj, cj, rfl, hvj, hxj⟩; have HVJ := Lib.hid hvj; clear hvj))
            have hc4 : Chg S w1 w4 := (HC.out.trans (Chg.of_ext hxj)).more HC4.out (fun y hy => HOWN.out y (by simpa using hy))
            have hown4 : ∀ q, (Value.slice A4 (P.length + 1) c4).ownBlock = some q → q ∈ S ∨ w1.heap.size ≤ q := fun q hq => by
              rcases HAT4.out q hq with h | h
              · exact HOWN.out q h
              · right; have := hxj.size; omega
            exact ⟨⟨a + nn, ca + 1, f', 0, nq, P ++ [joinL R], _, _, by omega, rfl, rfl, Nat.zero_le _, fun h => by omega, by omega, by rw [HT2.out]; simp, HJ.out, fun h => absurd HL0.out h, HNQ2.out, by omega, by simp; omega, HR4.out, hown4, hc4⟩, hrp⟩
          · have hlp : 0 < l.length := List.length_pos_iff.2 hl0
            have hml := HLM.out
            by_cases hk : e.kind = 1 ∨ e.kind = 3
            · obtain rfl := HNQ.out hl0 hk
              obtain ⟨q, hq⟩ : ∃ q, nq % l.length = q := ⟨_, rfl⟩
              have hql : q < l.length := by rw [← hq]; exact Nat.mod_lt _ hlp
              obtain ⟨x, hx⟩ : ∃ x, l[q]? = some x := ⟨_, List.getElem?_eq_getElem hql⟩
              have hmin := sz_min (c := nq) hl0 (by rw [hq]; exact hx) hN9 (show a ≤ N by omega)
              rw [← HSZ.out.1 hk, ← HTO.out, Nat.add_sub_cancel_left, show N - a = r by omega] at hmin
              have hxb := HLB.out x (List.mem_of_getElem? hx)
              obtain ⟨bs, os, rfl, _, hcs⟩ := (HS.out.keep hxwq).2 (by simp [intsV]; omega)
              have hcx : wr.cell? ⟨bs, os + q, none⟩ = some (.int .i64 x) := hcs q _ (by simp [intsV, hx])
              have hmod : (nq : Int).tmod (m : Int) = (q : Int) := by rw [Int.tmod_eq_emod_of_nonneg (by omega), ← HLM.out, ← Int.natCast_emod, hq]
              have hmx : (if x < 1 then 1 else x) = max x 1 := by split <;> omega
              have hmn : (if max x 1 < (r : Int) then max x 1 else (r : Int)) = (nn : Int) := by rw [← hmin]; split <;> omega
              have hmz : ((m : Int) = 0) = False := by simp; omega
              have hqm : (q : Int) < m := by omega
              obtain ⟨mx, hmxx⟩ : ∃ mx, max x 1 = mx := ⟨_, rfl⟩
              rw [hmxx] at hmx hmn
              clear hq hx hmin hcs hl0 hmxx
              have HK := Lib.hid hk
              rcases hk with hk | hk
              · rw [hk] at z0
                clear hk
                go_wp2_with (first
                  | (at_builtin; go_loud (refine wpList_appR2 rfl (.tmp 51) (.tmp 56) rfl (e := joinL R) (vb := .string ⟨(joinL R).b.toArray⟩) (vm := .slice Aj (joinL R).m.length cj) (HOQ.out.keep hxj) (by have := hxj.size; omega) (by simp) (HVJ.out _ (fun y hy => by have := (HOQ.out.own_lt y (by simpa using hy)).2; exact this)) rfl (by omega) rfl rfl rfl rfl ?_); intro A4 c4 w4 hR4 hC4 hat4; have HR4 := Lib.hid hR4; have HC4 := Lib.hid hC4; have HAT4 := Lib.hid hat4; clear hR4 hC4 hat4)
                  | (go_at_call 26; go_loud (refine (refJoin (HPART.out.sub (by simp)) (by omega) (by omega) (by omega) HRB.out).mono ?_); unfold evA strV; rintro _ wj ⟨Aj, cj, rfl, hvj, hxj⟩; have HVJ := Lib.hid hvj; clear hvj))
                have hc4 : Chg S w1 w4 := (HC.out.trans (Chg.of_ext hxj)).more HC4.out (fun y hy => HOWN.out y (by simpa using hy))
                have hown4 : ∀ q, (Value.slice A4 (P.length + 1) c4).ownBlock = some q → q ∈ S ∨ w1.heap.size ≤ q := fun q hq => by
                  rcases HAT4.out q hq with h | h
                  · exact HOWN.out q h
                  · right; have := hxj.size; omega
                exact ⟨⟨a + nn, nq + 1, f', r - nn, nq + 1, P ++ [joinL R], _, _, by omega, by go_num, rfl, by omega, fun h => ⟨by rw [if_neg (by omega), Nat.add_mul, ← Nat.add_assoc], by omega⟩, by omega, by rw [HT2.out]; simp, HJ.out, fun _ _ => rfl, fun h => absurd HK.out h, by omega, by simp; omega, HR4.out, hown4, hc4⟩, by show r - nn < r; omega⟩
              · rw [hk] at z0
                clear hk
                go_wp2_with (first
                  | (at_builtin; go_loud (refine wpList_appR2 rfl (.tmp 51) (.tmp 56) rfl (e := joinL R) (vb := .string ⟨(joinL R).b.toArray⟩) (vm := .slice Aj (joinL R).m.length cj) (HOQ.out.keep hxj) (by have := hxj.size; omega) (by simp) (HVJ.out _ (fun y hy => by have := (HOQ.out.own_lt y (by simpa using hy)).2; exact this)) rfl (by omega) rfl rfl rfl rfl ?_); intro A4 c4 w4 hR4 hC4 hat4; have HR4 := Lib.hid hR4; have HC4 := Lib.hid hC4; have HAT4 := Lib.hid hat4; clear hR4 hC4 hat4)
                  | (go_at_call 26; go_loud (refine (refJoin (HPART.out.sub (by simp)) (by omega) (by omega) (by omega) HRB.out).mono ?_); unfold evA strV; rintro _ wj ⟨Aj, cj, rfl, hvj, hxj⟩; have HVJ := Lib.hid hvj; clear hvj))
                have hc4 : Chg S w1 w4 := (HC.out.trans (Chg.of_ext hxj)).more HC4.out (fun y hy => HOWN.out y (by simpa using hy))
                have hown4 : ∀ q, (Value.slice A4 (P.length + 1) c4).ownBlock = some q → q ∈ S ∨ w1.heap.size ≤ q := fun q hq => by
                  rcases HAT4.out q hq with h | h
                  · exact HOWN.out q h
                  · right; have := hxj.size; omega
                exact ⟨⟨a + nn, nq + 1, f', r - nn, nq + 1, P ++ [joinL R], _, _, by omega, by go_num, rfl, by omega, fun h => ⟨by rw [if_neg (by omega), Nat.add_mul, ← Nat.add_assoc], by omega⟩, by omega, by rw [HT2.out]; simp, HJ.out, fun _ _ => rfl, fun h => absurd HK.out h, by omega, by simp; omega, HR4.out, hown4, hc4⟩, by show r - nn < r; omega⟩
            · have hk1 : (e.kind == 1) = false := by simp; omega
              have hk3 : (e.kind == 3) = false := by simp; omega
              have hnr : nn = r := by
                have h := HTO.out
                rw [HSZ.out.2 hk] at h; omega
              subst hnr
              have HNK := Lib.hid hk
              clear hk hl0
              go_wp2_with (first
                | (at_builtin; go_loud (refine wpList_appR2 rfl (.tmp 51) (.tmp 56) rfl (e := joinL R) (vb := .string ⟨(joinL R).b.toArray⟩) (vm := .slice Aj (joinL R).m.length cj) (HOQ.out.keep hxj) (by have := hxj.size; omega) (by simp) (HVJ.out _ (fun y hy => by have := (HOQ.out.own_lt y (by simpa using hy)).2; exact this)) rfl (by omega) rfl rfl rfl rfl ?_); intro A4 c4 w4 hR4 hC4 hat4; have HR4 := Lib.hid hR4; have HC4 := Lib.hid hC4; have HAT4 := Lib.hid hat4; clear hR4 hC4 hat4)
                | (go_at_call 26; go_loud (refine (refJoin (HPART.out.sub (by simp)) (by omega) (by omega) (by omega) HRB.out).mono ?_); unfold evA strV; rintro _ wj ⟨Aj, cj, rfl, hvj, hxj⟩; have HVJ := Lib.hid hvj; clear hvj))
              have hc4 : Chg S w1 w4 := (HC.out.trans (Chg.of_ext hxj)).more HC4.out (fun y hy => HOWN.out y (by simpa using hy))
              have hown4 : ∀ q, (Value.slice A4 (P.length + 1) c4).ownBlock = some q → q ∈ S ∨ w1.heap.size ≤ q := fun q hq => by
                rcases HAT4.out q hq with h | h
                · exact HOWN.out q h
                · right; have := hxj.size; omega
              exact ⟨⟨a + nn, ca + 1, f', 0, nq, P ++ [joinL R], _, _, by omega, rfl, rfl, Nat.zero_le _, fun h => by omega, by omega, by rw [HT2.out]; simp, HJ.out, fun _ h => absurd h HNK.out, HNQ2.out, by omega, by simp; omega, HR4.out, hown4, hc4⟩, hrp⟩
        · obtain rfl : r = 0 := by omega
          rw [cutsJ_end (by rw [HN.out]; omega)] at hT2 hJ
          rw [List.nil_append, ← HRE.out] at hT2
          have hfin : l ≠ [] → nq = cE := fun hl => by
            by_cases hk : e.kind = 1 ∨ e.kind = 3
            · rw [hnq hl hk]; exact hJ hk
            · rw [hnq2 hk, HJ3.out hk]; exact HNV.out hl
          have HT2 := Lib.hid hT2
          have HFIN := Lib.hid hfin
          have HOQ := Lib.hid hOq
          clear hA' hT2 hJ hnq hnq2 hOq hown hc hfin
          go_wp2
          exact ⟨⟨k + 1, cE, nq, P, hlt, by go_num, rfl, HFIN.out, by omega, by omega, HOQ.out, hxwq, HT2.out⟩, by simp [intOf]; omega⟩
    · obtain rfl : k = n := by omega
      have hD : (splitL (szOf l) es 0).1 = D := by
        rw [hT, List.drop_of_length_le (by rw [HL.out]; exact Nat.le_refl _)]
        simp [splitL]
      have HO := Lib.hid hO
      have HD := Lib.hid hD
      clear hO hT hD hnv
      go_wp2
      go_ret
      exact ⟨_, rfl, by rw [HD.out]; exact HO.out, hx⟩
end Go.Proofs.Ytnbdmlpnoiljdaa
