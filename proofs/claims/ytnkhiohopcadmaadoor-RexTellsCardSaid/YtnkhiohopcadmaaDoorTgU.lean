/- Put together: Dn7p, Dn7. -/
import Derived.Test.YtnkhiohopcadmaaDoorTgM
import Derived.Test.YtnkhiohopcadmaaDoorTgQ
import Derived.Test.YtnkhiohopcadmaaDoorTgS
import Derived.Test.YtnkhiohopcadmaaDoorTgF
namespace Go.Proofs.YtnkhiohopcadmaaDoor
open Go Go.RowKit

/-- Is a kid's text put in brackets? -/
def wrapB (k k' : Int) : Bool := decide ((k = 3 ∧ (k' = 1 ∨ k' = 3 ∨ k' = 4)) ∨ (k = 4 ∧ k' = 4) ∨ (4 < k ∧ k < 8 ∧ k' ≠ 2 ∧ k' ≠ 8))
def kidT (k : Int) (t : T) : List UInt8 := withinT (wrapB k t.kind) t.text
def joinR (b : Bool) : List (List UInt8) → List UInt8
  | [] => []
  | x :: r => (if b then [124] else []) ++ (x ++ joinR b r)
def joinT (b : Bool) : List (List UInt8) → List UInt8
  | [] => []
  | x :: r => x ++ joinR b r
theorem joinR_append (b : Bool) (l m : List (List UInt8)) : joinR b (l ++ m) = joinR b l ++ joinR b m := by
  induction l with
  | nil => rfl
  | cons x r ih => simp only [List.cons_append, joinR, ih, List.append_assoc]
theorem joinT_take {b : Bool} {L : List (List UInt8)} {i : Nat} (hi : i < L.length) : joinT b (L.take (i + 1)) = joinT b (L.take i) ++ (if b = true ∧ 0 < i then [124] else []) ++ L[i]'hi := by
  rw [List.take_succ_eq_append_getElem hi]
  cases L with
  | nil => simp at hi
  | cons x r =>
    cases i with
    | zero => simp [joinT, joinR]
    | succ i =>
      rw [List.take_succ_cons, List.cons_append]
      simp only [joinT, joinR_append, joinR, List.append_nil, List.append_assoc]
      cases b <;> simp
theorem joinT_len_take (b : Bool) (L : List (List UInt8)) (i : Nat) : (joinT b (L.take i)).length ≤ (joinT b L).length := by
  have h : ∀ (L : List (List UInt8)) i, (joinR b (L.take i)).length ≤ (joinR b L).length := by
    intro L
    induction L with
    | nil => intro i; simp
    | cons x r ih =>
      intro i
      cases i with
      | zero => simp [joinR]
      | succ i => have := ih i; simp only [List.take_succ_cons, joinR, List.length_append]; omega
  cases L with
  | nil => simp
  | cons x r =>
    cases i with
    | zero => simp [joinT]
    | succ i => have := h r i; simp only [List.take_succ_cons, joinT, List.length_append]; omega
theorem join_cat (ks : List T) : joinT false (ks.map (kidT 3)) = catT ks := by
  have h : ∀ ks : List T, joinR false (ks.map (kidT 3)) = catT ks := by
    intro ks
    induction ks with
    | nil => rfl
    | cons t ts ih =>
      rw [List.map_cons, joinR, ih, catT]
      have e : wrapB 3 t.kind = decide (t.kind = 3 ∨ t.kind = 4 ∨ t.kind = 1) := by unfold wrapB; congr 1; apply propext; omega
      unfold kidT
      rw [e]
      simp
  cases ks with
  | nil => rfl
  | cons t ts =>
    rw [List.map_cons, joinT, h, catT]
    have e : wrapB 3 t.kind = decide (t.kind = 3 ∨ t.kind = 4 ∨ t.kind = 1) := by unfold wrapB; congr 1; apply propext; omega
    unfold kidT
    rw [e]
theorem wrap4 (x : Int) : wrapB 4 x = decide (x = 4) := by unfold wrapB; congr 1; apply propext; omega
theorem join_alt (ks : List T) : joinT true (ks.map (kidT 4)) = altT ks := by
  have h : ∀ ks : List T, joinR true (ks.map (kidT 4)) = altR ks := by
    intro ks
    induction ks with
    | nil => rfl
    | cons t ts ih =>
      rw [List.map_cons, joinR, ih, altR]
      unfold kidT
      rw [wrap4]
      simp
  cases ks with
  | nil => rfl
  | cons t ts =>
    rw [List.map_cons, joinT, h, altT]
    unfold kidT
    rw [wrap4]
theorem join_rep {k : Int} (hk : k = 5 ∨ k = 6 ∨ k = 7) (t : T) : joinT false ([t].map (kidT k)) = headW [t] := by
  have e : wrapB k t.kind = decide (t.kind ≠ 2 ∧ t.kind ≠ 8) := by unfold wrapB; congr 1; apply propext; omega
  simp only [List.map_cons, List.map_nil, joinT, joinR, List.append_nil, headW]
  unfold kidT
  rw [e]
theorem rightL_mem {ks : List T} {d g : Nat} (h : (rightL ks d g).1 = true) {t : T} (ht : t ∈ ks) : ∃ g', (t.right d g').1 = true := by
  induction ks generalizing g with
  | nil => cases ht
  | cons x r ih =>
    obtain ⟨h1, h2⟩ := rightL_cons h
    rcases List.mem_cons.1 ht with rfl | ht
    · exact ⟨g, h1⟩
    · exact ih h2 ht
/-- What a right node is. -/
theorem right_shape {k m : Int} {z : Bool} {p : Nat → Bool} {ks : List T} {d g : Nat} (h : (T.right (.node k m z p ks) d g).1 = true) :
    (∀ t ∈ ks, ∃ g', (t.right (d + 1) g').1 = true) ∧ ((k = 1 ∧ ks = [] ∧ z = false) ∨ (k = 2 ∧ ks = [] ∧ z = false) ∨ ((k = 3 ∨ k = 4) ∧ 2 ≤ ks.length ∧ z = false) ∨ ((k = 5 ∨ k = 6 ∨ k = 7) ∧ ∃ t, ks = [t]) ∨ (k = 8 ∧ (∃ t, ks = [t]) ∧ z = false)) := by
  obtain ⟨_, hko, hb, _, hL, _⟩ := right_node h
  obtain ⟨_, b2, _⟩ := bare_node hb
  refine ⟨fun t ht => rightL_mem hL ht, ?_⟩
  unfold kidsOk at hko
  split at hko
  · rename_i h
    have h0 : ks = [] := List.eq_nil_of_length_eq_zero (by simpa using hko)
    rcases h with h | h
    · exact .inl ⟨h, h0, b2 (by omega)⟩
    · exact .inr (.inl ⟨h, h0, b2 (by omega)⟩)
  · split at hko
    · rename_i h; exact .inr (.inr (.inl ⟨h, by simpa using hko, b2 (by omega)⟩))
    · split at hko
      · rename_i h
        have h1 : ∃ t, ks = [t] := List.length_eq_one_iff.1 (by simpa using hko)
        rcases h with h | h | h | h
        · exact .inr (.inr (.inr (.inl ⟨.inl h, h1⟩)))
        · exact .inr (.inr (.inr (.inl ⟨.inr (.inl h), h1⟩)))
        · exact .inr (.inr (.inr (.inl ⟨.inr (.inr h), h1⟩)))
        · exact .inr (.inr (.inr (.inr ⟨h, h1, b2 (by omega)⟩)))
      · cases hko
end Go.Proofs.YtnkhiohopcadmaaDoor
namespace Go.Proofs.YtnkhiohopcadmaaDoor
open Go Go.RowKit

theorem dkind_form {S : Nat → Prop} {w : World} {t : T} {k m : Int} {z : Bool} {p : Nat → Bool} {B : Option Addr} {n c : Nat} (h : DNodeV S w t (dnC k m z p B n c)) : t.kind = k := by
  cases t
  unfold DNodeV at h
  obtain ⟨A, c, cs, e, _⟩ := h
  exact (dn_k e).1.symm
theorem below_grew {B : Nat} {w0 w w' : World} {v : Value} (h : Below B w0 w) (hB : B ≤ w.heap.size) (hg : Grew B w w' v) (hv : ∀ b, v.ownBlock = some b → B ≤ b) : Below B w0 w' :=
  (grew_chg hg).below h hB (fun y hy => hv y (by simpa using hy))

set_option maxHeartbeats 16000000 in
set_option maxRecDepth 20000 in
theorem refTextD : ∀ n, ∀ t : T, t.size ≤ n → t.size ≤ 1000000 → ∀ d g, (t.right d g).1 = true → ∀ S w v, DNodeV S w t v →
    Calls Tryd.prog 13 #[.agg v.toArray] w fun e w' => e = .returned (.string ⟨t.text.toArray⟩) ∧ Ext w w' := by
  intro n
  induction n with
  | zero => intro t ht; have := size_pos t; omega
  | succ n ih =>
    intro t ht hsz d g hr S w v h
    cases t with
    | node k m z p ks =>
      obtain ⟨A, c, cs, rfl, h1, h2, h3, h5⟩ := h.kids
      have htl := text_len_le (.node k m z p ks)
      rw [size_node] at ht hsz htl
      obtain ⟨hrk, hsh⟩ := right_shape hr
      have hlk := sizeL_len ks
      have hx0 := Lib.hid (Ext.new1 w (.cells (dnC k m z p A ks.length c).toArray 34))
      have hxE := Ext.new1 (w.alloc (.cells (dnC k m z p A ks.length c).toArray 34)) (.cells #[] 9)
      have HX1 := Lib.hid (Ext.trans hx0.out hxE)
      have HR := Lib.hid h3
      have HK := Lib.hid h5
      have HB0 := Lib.hid ((DB.new w k m z p A ks.length c).keep hxE)
      have HO0 := Lib.hid (own_empty (w.alloc (.cells (dnC k m z p A ks.length c).toArray 34)) 9 1)
      rw [show (w.alloc (.cells (dnC k m z p A ks.length c).toArray 34)).heap.size = w.heap.size + 1 by simp] at HO0
      have HKS := Lib.hid (show ∀ x ∈ ks, x.size ≤ n ∧ x.size ≤ 1000000 ∧ ∃ d g, (x.right d g).1 = true from fun x hx => by
        have h1 := sizeL_mem hx
        obtain ⟨g', hg⟩ := hrk x hx
        exact ⟨by omega, by omega, _, _, hg⟩)
      have HSH := Lib.hid hsh
      have hkin : ks ≠ [] → k = 3 ∨ k = 4 ∨ k = 5 ∨ k = 6 ∨ k = 7 ∨ k = 8 := by
        intro hne
        rcases hsh with ⟨_, h, _⟩ | ⟨_, h, _⟩ | ⟨h, _⟩ | ⟨h, _⟩ | ⟨h, _⟩
        · exact absurd h hne
        · exact absurd h hne
        · omega
        · omega
        · omega
      have HKIN := Lib.hid hkin
      obtain ⟨TX, hTX⟩ : ∃ TX, (T.node k m z p ks).text = TX := ⟨_, rfl⟩
      rw [hTX] at htl ⊢
      have HTX := Lib.hid hTX
      have HTL := Lib.hid htl
      have HSZ := Lib.hid (show ks.length ≤ 1000000 ∧ TX.length ≤ 4000000000 by omega)
      clear h3 h5 h hrk hsh hkin hTX htl hxE ht hsz hr
      go_enter Tryd.func13, Tryd.ntmps13
      go_upto_region 2 with fail
      generalize World.alloc _ (.cells #[] 9) = wb at *
      obtain ⟨B0, hB0⟩ : ∃ B0, w.heap.size + 1 = B0 := ⟨_, rfl⟩
      have HBE := Lib.hid hB0
      have HGE := Lib.hid (show w.heap.size ≤ B0 by omega)
      rw [hB0] at HO0 ⊢
      clear hB0
      obtain ⟨g0, hg0⟩ : ∃ g0, w.heap.size = g0 := ⟨_, rfl⟩
      have HG0 := Lib.hid hg0
      rw [hg0] at HB0 HBE HGE ⊢
      clear hg0
      have y7 := HB0.out.kids
      go_wp2
      clear y7
      have HSB := Lib.hid (show g0 + 1 = B0 from HBE.out)
      go_loopg [3, 14] (ks.length) (fun gg tv iv wr => ∃ i : Nat, i ≤ ks.length ∧ gg = ks.length - i ∧ wr.ownsRow B0 9 1 tv i (strsV ((ks.take i).map (kidT k))) ∧ iv = .int .i64 (i : Nat) ∧ Ext w wr ∧ DB wr g0 k m z p A ks.length c ∧ B0 ≤ wr.heap.size)
      case atStart => exact ⟨0, by omega, rfl, HO0.out, rfl, HX1.out, HB0.out, by have := (HO0.out.lt B0 rfl).2; omega⟩
      case round =>
        obtain ⟨i, hi, rfl, hown, rfl, hx, hdb, hsz0⟩ := hrel
        have HOWN := Lib.hid hown
        have HDB := Lib.hid hdb
        have HXW := Lib.hid hx
        have HSZ0 := Lib.hid hsz0
        clear hown hdb hsz0
        by_cases hlt : i < ks.length
        · obtain ⟨b, o, k', m', z', p', B', n', c', rfl, hv, hk⟩ := dkid_at HR.out HK.out hlt
          have hrg := Lib.hid (hk.out wr hx)
          have hw2 : IntKind.i64.wrap ((i : Int) + 1) = (i : Int) + 1 := wrap_id (by have := HSZ.out.1; omega) (by have := HSZ.out.1; omega)
          have hlt' : (i : Int) < (ks.length : Int) := by omega
          have hkf := dkind_form hv
          have hxb := Ext.new1 wr (.cells (dnC k' m' z' p' B' n' c').toArray 34)
          obtain ⟨x, hxe⟩ : ∃ x, ks[i]'hlt = x := ⟨_, rfl⟩
          rw [hxe] at hkf
          have hmx : x ∈ ks := hxe ▸ List.getElem_mem hlt
          have HV := Lib.hid (show DNodeV S _ x _ from hxe ▸ (hv.keep hx).keep hxb)
          have HKX := Lib.hid (HKS.out x hmx)
          have HTT := Lib.hid (show (ks.take (i + 1)).map (kidT k) = (ks.take i).map (kidT k) ++ [kidT k x] by rw [List.take_succ_eq_append_getElem hlt, List.map_append, hxe]; rfl)
          have HK6 := Lib.hid (HKIN.out (by rintro rfl; cases hmx))
          have hxl := text_len_le x
          have HXL := Lib.hid (show x.text.length ≤ 4000000000 by have := HKX.out.2.1; omega)
          have HBK := Lib.hid (DB.new wr k' m' z' p' B' n' c')
          have HDBK := Lib.hid (HDB.out.keep hxb)
          have HXK := Lib.hid (Ext.trans hx hxb)
          have HOWNK := Lib.hid (own_ext HOWN.out hxb)
          obtain ⟨kt, hkt⟩ : ∃ kt, x.text = kt := ⟨_, rfl⟩
          have HKD := Lib.hid (show kidT k x = withinT (wrapB k k') kt by unfold kidT; rw [hkf, hkt])
          have HKT := Lib.hid hkt
          have HLK := Lib.hid (show kt.length ≤ 4000000000 by rw [← hkt]; exact HXL.out)
          have HILL := Lib.hid (show i ≤ 1000000 by have := HSZ.out.1; omega)
          clear hv hk hxe hmx hxl hxb hkf hkt HOWN HDB HXW HXL hx
          go_upto_region 6 with (first
            | (refine load_el rfl (.tmp 16) rfl (b := b) (q := o + i * 260) rfl hrg.out ?_)
            | (refine store_dn_new rfl (.tmp 5) (.tmp 17) rfl rfl rfl zsize40 ?_)
            | (refine load_dn rfl (.tmp 5) rfl (g := wr.heap.size) rfl (DB.new wr _ _ _ _ _ _ _) ?_)
            | (go_at_call 13; obtain ⟨hs1, hs2, d8, g8, hr8⟩ := HKX.out; refine (ih x hs1 hs2 d8 g8 hr8 S _ (dnC k' m' z' p' B' n' c') HV.out).mono ?_; rintro e w1 ⟨rfl, hx1⟩; rw [HKT.out]))
          have HDB1 := Lib.hid (HDBK.out.keep hx1)
          have HBK1 := Lib.hid (HBK.out.keep hx1)
          have HX1' := Lib.hid (Ext.trans HXK.out hx1)
          have HOWN1 := Lib.hid (own_ext HOWNK.out hx1)
          have HSZ1 := Lib.hid (show B0 ≤ w1.heap.size by have := HSZ0.out; have := hx1.size; simp at this; omega)
          generalize wr.heap.size = gk at *
          clear hx1 HDBK HBK HXK HOWNK HV hrg
          go_cut [67] (fun v wx => v = .bool (wrapB k k') ∧ wx = w1)
          case first =>
            have y0 := HDB1.out.kind
            have x0 := HBK1.out.kind
            have hm1 : ¬ 9223372036854775807 < 3 + kt.length := by have := HLK.out; omega
            have hm2 : ¬ 9223372036854775807 < 3 + kt.length + 1 := by have := HLK.out; omega
            rcases HK6.out with rfl | rfl | rfl | rfl | rfl | rfl
            focus
              by_cases j1 : k' = 1
              focus
                subst j1
                have E := Lib.hid (show wrapB 3 1 = true from by decide)
                go_wp2
                go_meet
                exact ⟨by rw [E.out], rfl⟩
              by_cases j3 : k' = 3
              focus
                subst j3
                have E := Lib.hid (show wrapB 3 3 = true from by decide)
                go_wp2
                go_meet
                exact ⟨by rw [E.out], rfl⟩
              by_cases j4 : k' = 4
              focus
                subst j4
                have E := Lib.hid (show wrapB 3 4 = true from by decide)
                go_wp2
                go_meet
                exact ⟨by rw [E.out], rfl⟩
              focus
                have e1 : (k' == 1) = false := by simp [j1]
                have e3 : (k' == 3) = false := by simp [j3]
                have e4 : (k' == 4) = false := by simp [j4]
                have E := Lib.hid (show wrapB 3 k' = false from by unfold wrapB; simp [j1, j3, j4])
                go_wp2
                go_meet
                exact ⟨by rw [E.out], rfl⟩
            focus
              by_cases j4 : k' = 4
              focus
                subst j4
                have E := Lib.hid (show wrapB 4 4 = true from by decide)
                go_wp2
                go_meet
                exact ⟨by rw [E.out], rfl⟩
              focus
                have e4 : (k' == 4) = false := by simp [j4]
                have E := Lib.hid (show wrapB 4 k' = false from by unfold wrapB; simp [j4])
                go_wp2
                go_meet
                exact ⟨by rw [E.out], rfl⟩
            focus
              by_cases j2 : k' = 2
              focus
                subst j2
                have E := Lib.hid (show wrapB 5 2 = false from by decide)
                go_wp2
                go_meet
                exact ⟨by rw [E.out], rfl⟩
              by_cases j8 : k' = 8
              focus
                subst j8
                have E := Lib.hid (show wrapB 5 8 = false from by decide)
                go_wp2
                go_meet
                exact ⟨by rw [E.out], rfl⟩
              focus
                have e2 : (k' != 2) = true := by simp [j2]
                have e8 : (k' != 8) = true := by simp [j8]
                have E := Lib.hid (show wrapB 5 k' = true from by unfold wrapB; simp [j2, j8])
                go_wp2
                go_meet
                exact ⟨by rw [E.out], rfl⟩
            focus
              by_cases j2 : k' = 2
              focus
                subst j2
                have E := Lib.hid (show wrapB 6 2 = false from by decide)
                go_wp2
                go_meet
                exact ⟨by rw [E.out], rfl⟩
              by_cases j8 : k' = 8
              focus
                subst j8
                have E := Lib.hid (show wrapB 6 8 = false from by decide)
                go_wp2
                go_meet
                exact ⟨by rw [E.out], rfl⟩
              focus
                have e2 : (k' != 2) = true := by simp [j2]
                have e8 : (k' != 8) = true := by simp [j8]
                have E := Lib.hid (show wrapB 6 k' = true from by unfold wrapB; simp [j2, j8])
                go_wp2
                go_meet
                exact ⟨by rw [E.out], rfl⟩
            focus
              by_cases j2 : k' = 2
              focus
                subst j2
                have E := Lib.hid (show wrapB 7 2 = false from by decide)
                go_wp2
                go_meet
                exact ⟨by rw [E.out], rfl⟩
              by_cases j8 : k' = 8
              focus
                subst j8
                have E := Lib.hid (show wrapB 7 8 = false from by decide)
                go_wp2
                go_meet
                exact ⟨by rw [E.out], rfl⟩
              focus
                have e2 : (k' != 2) = true := by simp [j2]
                have e8 : (k' != 8) = true := by simp [j8]
                have E := Lib.hid (show wrapB 7 k' = true from by unfold wrapB; simp [j2, j8])
                go_wp2
                go_meet
                exact ⟨by rw [E.out], rfl⟩
            focus
              focus
                have E := Lib.hid (show wrapB 8 k' = false from by unfold wrapB; simp)
                go_wp2
                go_meet
                exact ⟨by rw [E.out], rfl⟩
          case rest =>
            obtain ⟨rfl, rfl⟩ := hcut
            have HXA := Lib.hid (Ext.trans HX1'.out (Ext.new1 wc (.cells #[.string ⟨(kidT k x).toArray⟩] 9)))
            have HOWNA := Lib.hid (own_ext HOWN1.out (Ext.new1 wc (.cells #[.string ⟨(kidT k x).toArray⟩] 9)))
            have HDBA := Lib.hid (HDB1.out.keep (Ext.new1 wc (.cells #[.string ⟨(kidT k x).toArray⟩] 9)))
            have HRDA := Lib.hid (show Rd (wc.alloc (.cells #[.string ⟨(kidT k x).toArray⟩] 9)) 1 (some ⟨wc.heap.size, 0, none⟩) 1 (strsV [kidT k x]) from rd_newS wc 1 1 (strsV [kidT k x]) 9 rfl)
            have HSZA := Lib.hid (show B0 ≤ (wc.alloc (.cells #[.string ⟨(kidT k x).toArray⟩] 9)).heap.size by have := HSZ1.out; simp; omega)
            have H63 := Lib.hid (show (i + 1) * 16 ≤ 140737488355328 by have := HILL.out; omega)
            have H64 := Lib.hid (show i + 1 ≤ maxLen by have := HILL.out; unfold maxLen; omega)
            have hm1 : ¬ 9223372036854775807 < 3 + kt.length := by have := HLK.out; omega
            have hm2 : ¬ 9223372036854775807 < 3 + kt.length + 1 := by have := HLK.out; omega
            clear HDB1 HBK1 HX1' HOWN1
            obtain ⟨bb, hbb⟩ : ∃ bb, wrapB k k' = bb := ⟨_, rfl⟩
            have HBB := Lib.hid (show kidT k x = withinT bb kt by rw [HKD.out, hbb])
            rw [hbb]
            clear hbb
            rw [HBB.out] at HXA HOWNA HDBA HRDA HSZA
            cases bb
            all_goals
              unfold withinT at HXA HOWNA HDBA HRDA HSZA
              simp only [if_true, Bool.false_eq_true, if_false, List.cons_append, List.nil_append] at HXA HOWNA HDBA HRDA HSZA
              go_wp2_with (refine wpList_app2 Tryd.elemS rfl (.tmp 71) (.tmp 73) rfl (v := u3) (n := i) rfl HOWNA.out HSZA.out (A := some ⟨wc.heap.size, 0, none⟩) (m := 1) (c := 1) rfl HRDA.out (one_strsV _) H63.out H64.out ?_; intro v8 w8 hown8 hgr8 _ _)
              have hob : ∀ b, u3.ownBlock = some b → B0 ≤ b := fun b hb => (HOWNA.out.lt b hb).1
              have hsb := HSB.out
              have HX8 := Lib.hid (show Ext w w8 from (grew_chg hgr8).below HXA.out HXA.out.size (fun y hy => by have := hob y (by simpa using hy); have := HGE.out; have := HG0.out; omega))
              have HD8 := Lib.hid (show DB w8 g0 k m z p (some ⟨b, o, none⟩) ks.length c from Blk.grew HDBA.out hgr8 (fun e => by have := hob g0 e.symm; omega))
              have HS8 := Lib.hid (Nat.le_trans HSZA.out hgr8.size)
              have HO8 := Lib.hid (show w8.ownsRow B0 9 1 v8 (i + 1) (strsV ((ks.take (i + 1)).map (kidT k))) from by
                rw [HTT.out, strsV, List.map_append]
                rw [HBB.out]
                exact hown8)
              clear hown8 hgr8 hob hsb HXA HOWNA HDBA HRDA HSZA
              go_roundg (ks.length - (i + 1))
              case measure => omega
              case rel => exact ⟨i + 1, by omega, rfl, HO8.out, by go_num, HX8.out, HD8.out, HS8.out⟩
        · obtain rfl : i = ks.length := by omega
          have hlt' : ¬ (ks.length : Int) < (ks.length : Int) := by omega
          have hown := HOWN.out
          rw [List.take_length] at hown
          obtain ⟨A9, c9, hve, hc1, hc2, hrd⟩ := own_rd hown
          cases hve
          have HRD := Lib.hid hrd
          have HLL := Lib.hid (show ((ks.map (kidT k)).length = ks.length) from List.length_map ..)
          have y0 := HDB.out.kind
          have y2 := HDB.out.lazy
          clear hown hrd HOWN hx
          have hsh := HSH.out
          rcases hsh with ⟨rfl, rfl, rfl⟩ | ⟨rfl, rfl, rfl⟩ | hsh | hsh | ⟨rfl, ⟨t1, rfl⟩, rfl⟩
          focus
            have E := Lib.hid (show TX = [] from by rw [← HTX.out, T.text]; simp)
            go_wp2
            go_ret
            exact ⟨by rw [E.out]; rfl, HXW.out⟩
          focus
            have E := Lib.hid (show TX = textT p from by rw [← HTX.out, T.text, if_pos rfl])
            go_wp2_with (first
              | (refine load_dset rfl (.tmp 82) rfl (g := g0) rfl HDB.out ?_)
              | (go_at_call 39; refine (refText p _).mono ?_; rintro e w1 ⟨rfl, hx1⟩))
            go_ret
            exact ⟨by rw [E.out]; rfl, Ext.trans HXW.out hx1⟩
          rotate_left
          rotate_left
          focus
            have E := Lib.hid (show TX = 40 :: (kidT 8 t1 ++ [41]) from by
              rw [← HTX.out, T.text, if_neg (by decide), if_neg (by decide), if_neg (by decide), if_pos rfl, headT]
              rfl)
            obtain ⟨b, o, rfl, hS⟩ := HRD.out.strs (by simp)
            have hc := hS.out wr (Below.refl _ _) 0 (by simp)
            simp only [List.map_cons, List.map_nil, List.getElem_cons_zero, Nat.add_zero] at hc
            have hln := HSZ.out.2
            rw [E.out] at hln
            simp only [List.length_cons, List.length_append, List.length_nil] at hln
            have hm1 : ¬ 9223372036854775807 < 1 + (kidT 8 t1).length := by omega
            have hm2 : ¬ 9223372036854775807 < 1 + (kidT 8 t1).length + 1 := by omega
            clear hln hS
            go_wp2
            go_ret
            exact ⟨by rw [E.out]; rfl, HXW.out⟩
          focus
            obtain ⟨hk34, hl2, rfl⟩ := hsh
            obtain ⟨b, o, rfl, hS⟩ := HRD.out.strs (by rw [HLL.out]; omega)
            have HS := Lib.hid (fun i hi => hS.out wr (Below.refl _ _) i hi)
            clear hS
            rcases hk34 with rfl | rfl
            focus
              have HJ := Lib.hid (show joinT false (ks.map (kidT 3)) = TX from by rw [← HTX.out, T.text, if_neg (by decide), if_pos rfl]; exact join_cat ks)
              have HJL := Lib.hid (show (joinT false (ks.map (kidT 3))).length ≤ 4000000000 from by have h1 := HSZ.out.2; rw [← HJ.out] at h1; omega)
              go_wp2
              go_loopg [7, 95] (ks.length) (fun gg ov iv wx => ∃ i : Nat, i ≤ ks.length ∧ gg = ks.length - i ∧ ov = .string ⟨(joinT false ((ks.map (kidT 3)).take i)).toArray⟩ ∧ iv = .int .i64 (i : Nat) ∧ wx = wr)
              case atStart => exact ⟨0, Nat.zero_le _, rfl, rfl, rfl, rfl⟩
              case round =>
                obtain ⟨i, hi, rfl, rfl, rfl, rfl⟩ := hrel
                by_cases hlt : i < ks.length
                focus
                  have hltm : i < (ks.map (kidT 3)).length := by rw [HLL.out]; exact hlt
                  have hc := HS.out i hltm
                  have hstep := joinT_take (b := false) hltm
                  have hl1 := joinT_len_take false (ks.map (kidT 3)) (i + 1)
                  have hJL := HJL.out
                  obtain ⟨q, hq⟩ : ∃ q, joinT false ((ks.map (kidT 3)).take i) = q := ⟨_, rfl⟩
                  obtain ⟨x, hx⟩ : ∃ x, (ks.map (kidT 3))[i]'hltm = x := ⟨_, rfl⟩
                  rw [hq, hx] at hstep
                  rw [hx] at hc
                  rw [hstep] at hl1
                  rw [hq]
                  have hlt' : (i : Int) < (ks.length : Int) := by omega
                  have hw2 : IntKind.i64.wrap ((i : Int) + 1) = (i : Int) + 1 := wrap_id (by have := HSZ.out.1; omega) (by have := HSZ.out.1; omega)
                  by_cases i0 : i = 0
                  focus
                    subst i0
                    have HST := Lib.hid (show joinT false ((ks.map (kidT 3)).take (0 + 1)) = q ++ x from by rw [hstep]; simp)
                    have hm2 : ¬ 9223372036854775807 < q.length + x.length := by simp only [List.length_append] at hl1; omega
                    simp only [Nat.add_zero] at hc
                    clear hstep hl1 hJL hq hx
                    go_wp2
                    go_roundg (ks.length - (0 + 1))
                    case measure => omega
                    case rel => exact ⟨0 + 1, by omega, rfl, by rw [HST.out] <;> first | rfl | (simp; done), by go_num, rfl⟩
                  focus
                    have hi0' : (0 : Int) < (i : Int) := by omega
                    have HST := Lib.hid (show joinT false ((ks.map (kidT 3)).take (i + 1)) = q ++ x from by rw [hstep]; simp)
                    have hm2 : ¬ 9223372036854775807 < q.length + x.length := by simp only [List.length_append] at hl1; omega
                    clear hstep hl1 hJL hq hx i0
                    go_wp2
                    go_roundg (ks.length - (i + 1))
                    case measure => omega
                    case rel => exact ⟨i + 1, by omega, rfl, by rw [HST.out] <;> first | rfl | (simp; done), by go_num, rfl⟩
                focus
                  obtain rfl : i = ks.length := by omega
                  have hlt' : ¬ (ks.length : Int) < (ks.length : Int) := by omega
                  have htk : (ks.map (kidT 3)).take ks.length = ks.map (kidT 3) := by rw [← HLL.out]; exact List.take_length
                  rw [htk]
                  clear htk hlt hlt'
                  have hlt' : ¬ (ks.length : Int) < (ks.length : Int) := by omega
                  rw [HJ.out]
                  go_wp2
                  go_ret
                  exact ⟨rfl, HXW.out⟩
            focus
              have HJ := Lib.hid (show joinT true (ks.map (kidT 4)) = TX from by rw [← HTX.out, T.text, if_neg (by decide), if_neg (by decide), if_pos rfl]; exact join_alt ks)
              have HJL := Lib.hid (show (joinT true (ks.map (kidT 4))).length ≤ 4000000000 from by have h1 := HSZ.out.2; rw [← HJ.out] at h1; omega)
              go_wp2
              go_loopg [7, 95] (ks.length) (fun gg ov iv wx => ∃ i : Nat, i ≤ ks.length ∧ gg = ks.length - i ∧ ov = .string ⟨(joinT true ((ks.map (kidT 4)).take i)).toArray⟩ ∧ iv = .int .i64 (i : Nat) ∧ wx = wr)
              case atStart => exact ⟨0, Nat.zero_le _, rfl, rfl, rfl, rfl⟩
              case round =>
                obtain ⟨i, hi, rfl, rfl, rfl, rfl⟩ := hrel
                by_cases hlt : i < ks.length
                focus
                  have hltm : i < (ks.map (kidT 4)).length := by rw [HLL.out]; exact hlt
                  have hc := HS.out i hltm
                  have hstep := joinT_take (b := true) hltm
                  have hl1 := joinT_len_take true (ks.map (kidT 4)) (i + 1)
                  have hJL := HJL.out
                  obtain ⟨q, hq⟩ : ∃ q, joinT true ((ks.map (kidT 4)).take i) = q := ⟨_, rfl⟩
                  obtain ⟨x, hx⟩ : ∃ x, (ks.map (kidT 4))[i]'hltm = x := ⟨_, rfl⟩
                  rw [hq, hx] at hstep
                  rw [hx] at hc
                  rw [hstep] at hl1
                  rw [hq]
                  have hlt' : (i : Int) < (ks.length : Int) := by omega
                  have hw2 : IntKind.i64.wrap ((i : Int) + 1) = (i : Int) + 1 := wrap_id (by have := HSZ.out.1; omega) (by have := HSZ.out.1; omega)
                  by_cases i0 : i = 0
                  focus
                    subst i0
                    have HST := Lib.hid (show joinT true ((ks.map (kidT 4)).take (0 + 1)) = q ++ x from by rw [hstep]; simp)
                    have hm2 : ¬ 9223372036854775807 < q.length + x.length := by simp only [List.length_append] at hl1; omega
                    simp only [Nat.add_zero] at hc
                    clear hstep hl1 hJL hq hx
                    go_wp2
                    go_roundg (ks.length - (0 + 1))
                    case measure => omega
                    case rel => exact ⟨0 + 1, by omega, rfl, by rw [HST.out] <;> first | rfl | (simp; done), by go_num, rfl⟩
                  focus
                    have hi0' : (0 : Int) < (i : Int) := by omega
                    have HST := Lib.hid (show joinT true ((ks.map (kidT 4)).take (i + 1)) = q ++ [124] ++ x from by rw [hstep, if_pos ⟨rfl, by omega⟩])
                    have hm1 : ¬ 9223372036854775807 < q.length + 1 := by rw [if_pos ⟨rfl, by omega⟩] at hl1; simp only [List.length_append, List.length_cons, List.length_nil] at hl1; omega
                    have hm2 : ¬ 9223372036854775807 < (q ++ [124]).length + x.length := by rw [if_pos ⟨rfl, by omega⟩] at hl1; simp only [List.length_append, List.length_cons, List.length_nil] at hl1 ⊢; omega
                    have hm3 : ¬ 9223372036854775807 < q.length + 1 + x.length := by simpa using hm2
                    clear hstep hl1 hJL hq hx i0
                    go_wp2
                    go_roundg (ks.length - (i + 1))
                    case measure => omega
                    case rel => exact ⟨i + 1, by omega, rfl, by rw [HST.out] <;> first | rfl | (simp; done), by go_num, rfl⟩
                focus
                  obtain rfl : i = ks.length := by omega
                  have hlt' : ¬ (ks.length : Int) < (ks.length : Int) := by omega
                  have htk : (ks.map (kidT 4)).take ks.length = ks.map (kidT 4) := by rw [← HLL.out]; exact List.take_length
                  rw [htk]
                  clear htk hlt hlt'
                  have hlt' : ¬ (ks.length : Int) < (ks.length : Int) := by omega
                  rw [HJ.out]
                  go_wp2
                  go_ret
                  exact ⟨rfl, HXW.out⟩
          focus
            obtain ⟨hk, t1, rfl⟩ := hsh
            obtain ⟨b, o, rfl, hS⟩ := HRD.out.strs (by simp)
            have HS := Lib.hid (fun i hi => hS.out wr (Below.refl _ _) i hi)
            clear hS
            rcases hk with rfl | rfl | rfl
            focus
              have HJ := Lib.hid (show joinT false ([t1].map (kidT 5)) ++ signR 5 z = TX from by rw [← HTX.out, T.text, if_neg (by decide), if_neg (by decide), if_neg (by decide), if_neg (by decide), if_pos (by decide), join_rep (by decide)])
              have HJL := Lib.hid (show (joinT false ([t1].map (kidT 5))).length ≤ 4000000000 from by have h1 := HSZ.out.2; rw [← HJ.out] at h1; rw [List.length_append] at h1; omega)
              go_wp2
              go_loopg [7, 95] ([t1].length) (fun gg ov iv wx => ∃ i : Nat, i ≤ [t1].length ∧ gg = [t1].length - i ∧ ov = .string ⟨(joinT false (([t1].map (kidT 5)).take i)).toArray⟩ ∧ iv = .int .i64 (i : Nat) ∧ wx = wr)
              case atStart => exact ⟨0, Nat.zero_le _, rfl, rfl, rfl, rfl⟩
              case round =>
                obtain ⟨i, hi, rfl, rfl, rfl, rfl⟩ := hrel
                by_cases hlt : i < [t1].length
                focus
                  have hltm : i < ([t1].map (kidT 5)).length := by rw [HLL.out]; exact hlt
                  have hc := HS.out i hltm
                  have hstep := joinT_take (b := false) hltm
                  have hl1 := joinT_len_take false ([t1].map (kidT 5)) (i + 1)
                  have hJL := HJL.out
                  obtain ⟨q, hq⟩ : ∃ q, joinT false (([t1].map (kidT 5)).take i) = q := ⟨_, rfl⟩
                  obtain ⟨x, hx⟩ : ∃ x, ([t1].map (kidT 5))[i]'hltm = x := ⟨_, rfl⟩
                  rw [hq, hx] at hstep
                  rw [hx] at hc
                  rw [hstep] at hl1
                  rw [hq]
                  have hlt' : (i : Int) < (1 : Int) := by have h : i < 1 := hlt; omega
                  have hw2 : IntKind.i64.wrap ((i : Int) + 1) = (i : Int) + 1 := wrap_id (by have h : i < 1 := hlt; omega) (by have h : i < 1 := hlt; omega)
                  by_cases i0 : i = 0
                  focus
                    subst i0
                    have HST := Lib.hid (show joinT false (([t1].map (kidT 5)).take (0 + 1)) = q ++ x from by rw [hstep]; simp)
                    have hm2 : ¬ 9223372036854775807 < q.length + x.length := by simp only [List.length_append] at hl1; omega
                    simp only [Nat.add_zero] at hc
                    clear hstep hl1 hJL hq hx
                    go_wp2
                    go_roundg ([t1].length - (0 + 1))
                    case measure => simp
                    case rel => exact ⟨0 + 1, by omega, rfl, by rw [HST.out] <;> first | rfl | (simp; done), by go_num, rfl⟩
                  focus
                    exact absurd (show i < 1 from hlt) (by omega)
                focus
                  obtain rfl : i = [t1].length := by omega
                  have hlt' : ¬ (1 : Int) < (1 : Int) := by omega
                  have htk : ([t1].map (kidT 5)).take [t1].length = [t1].map (kidT 5) := by rw [← HLL.out]; exact List.take_length
                  rw [htk]
                  clear htk hlt hlt'
                  obtain ⟨q, hq⟩ : ∃ q, joinT false ([t1].map (kidT 5)) = q := ⟨_, rfl⟩
                  have HQ := Lib.hid (show q ++ signR 5 z = TX from by rw [← hq]; exact HJ.out)
                  have hq1 : q.length ≤ 4000000000 := by rw [← hq]; exact HJL.out
                  have hm1 : ¬ 9223372036854775807 < q.length + 1 := by omega
                  have hm2 : ¬ 9223372036854775807 < q.length + 1 + 1 := by omega
                  rw [hq]
                  clear hq hq1
                  cases z
                  all_goals
                    go_wp2
                    go_ret
                    exact ⟨by rw [← HQ.out]; simp [signR], HXW.out⟩
            focus
              have HJ := Lib.hid (show joinT false ([t1].map (kidT 6)) ++ signR 6 z = TX from by rw [← HTX.out, T.text, if_neg (by decide), if_neg (by decide), if_neg (by decide), if_neg (by decide), if_pos (by decide), join_rep (by decide)])
              have HJL := Lib.hid (show (joinT false ([t1].map (kidT 6))).length ≤ 4000000000 from by have h1 := HSZ.out.2; rw [← HJ.out] at h1; rw [List.length_append] at h1; omega)
              go_wp2
              go_loopg [7, 95] ([t1].length) (fun gg ov iv wx => ∃ i : Nat, i ≤ [t1].length ∧ gg = [t1].length - i ∧ ov = .string ⟨(joinT false (([t1].map (kidT 6)).take i)).toArray⟩ ∧ iv = .int .i64 (i : Nat) ∧ wx = wr)
              case atStart => exact ⟨0, Nat.zero_le _, rfl, rfl, rfl, rfl⟩
              case round =>
                obtain ⟨i, hi, rfl, rfl, rfl, rfl⟩ := hrel
                by_cases hlt : i < [t1].length
                focus
                  have hltm : i < ([t1].map (kidT 6)).length := by rw [HLL.out]; exact hlt
                  have hc := HS.out i hltm
                  have hstep := joinT_take (b := false) hltm
                  have hl1 := joinT_len_take false ([t1].map (kidT 6)) (i + 1)
                  have hJL := HJL.out
                  obtain ⟨q, hq⟩ : ∃ q, joinT false (([t1].map (kidT 6)).take i) = q := ⟨_, rfl⟩
                  obtain ⟨x, hx⟩ : ∃ x, ([t1].map (kidT 6))[i]'hltm = x := ⟨_, rfl⟩
                  rw [hq, hx] at hstep
                  rw [hx] at hc
                  rw [hstep] at hl1
                  rw [hq]
                  have hlt' : (i : Int) < (1 : Int) := by have h : i < 1 := hlt; omega
                  have hw2 : IntKind.i64.wrap ((i : Int) + 1) = (i : Int) + 1 := wrap_id (by have h : i < 1 := hlt; omega) (by have h : i < 1 := hlt; omega)
                  by_cases i0 : i = 0
                  focus
                    subst i0
                    have HST := Lib.hid (show joinT false (([t1].map (kidT 6)).take (0 + 1)) = q ++ x from by rw [hstep]; simp)
                    have hm2 : ¬ 9223372036854775807 < q.length + x.length := by simp only [List.length_append] at hl1; omega
                    simp only [Nat.add_zero] at hc
                    clear hstep hl1 hJL hq hx
                    go_wp2
                    go_roundg ([t1].length - (0 + 1))
                    case measure => simp
                    case rel => exact ⟨0 + 1, by omega, rfl, by rw [HST.out] <;> first | rfl | (simp; done), by go_num, rfl⟩
                  focus
                    exact absurd (show i < 1 from hlt) (by omega)
                focus
                  obtain rfl : i = [t1].length := by omega
                  have hlt' : ¬ (1 : Int) < (1 : Int) := by omega
                  have htk : ([t1].map (kidT 6)).take [t1].length = [t1].map (kidT 6) := by rw [← HLL.out]; exact List.take_length
                  rw [htk]
                  clear htk hlt hlt'
                  obtain ⟨q, hq⟩ : ∃ q, joinT false ([t1].map (kidT 6)) = q := ⟨_, rfl⟩
                  have HQ := Lib.hid (show q ++ signR 6 z = TX from by rw [← hq]; exact HJ.out)
                  have hq1 : q.length ≤ 4000000000 := by rw [← hq]; exact HJL.out
                  have hm1 : ¬ 9223372036854775807 < q.length + 1 := by omega
                  have hm2 : ¬ 9223372036854775807 < q.length + 1 + 1 := by omega
                  rw [hq]
                  clear hq hq1
                  cases z
                  all_goals
                    go_wp2
                    go_ret
                    exact ⟨by rw [← HQ.out]; simp [signR], HXW.out⟩
            focus
              have HJ := Lib.hid (show joinT false ([t1].map (kidT 7)) ++ signR 7 z = TX from by rw [← HTX.out, T.text, if_neg (by decide), if_neg (by decide), if_neg (by decide), if_neg (by decide), if_pos (by decide), join_rep (by decide)])
              have HJL := Lib.hid (show (joinT false ([t1].map (kidT 7))).length ≤ 4000000000 from by have h1 := HSZ.out.2; rw [← HJ.out] at h1; rw [List.length_append] at h1; omega)
              go_wp2
              go_loopg [7, 95] ([t1].length) (fun gg ov iv wx => ∃ i : Nat, i ≤ [t1].length ∧ gg = [t1].length - i ∧ ov = .string ⟨(joinT false (([t1].map (kidT 7)).take i)).toArray⟩ ∧ iv = .int .i64 (i : Nat) ∧ wx = wr)
              case atStart => exact ⟨0, Nat.zero_le _, rfl, rfl, rfl, rfl⟩
              case round =>
                obtain ⟨i, hi, rfl, rfl, rfl, rfl⟩ := hrel
                by_cases hlt : i < [t1].length
                focus
                  have hltm : i < ([t1].map (kidT 7)).length := by rw [HLL.out]; exact hlt
                  have hc := HS.out i hltm
                  have hstep := joinT_take (b := false) hltm
                  have hl1 := joinT_len_take false ([t1].map (kidT 7)) (i + 1)
                  have hJL := HJL.out
                  obtain ⟨q, hq⟩ : ∃ q, joinT false (([t1].map (kidT 7)).take i) = q := ⟨_, rfl⟩
                  obtain ⟨x, hx⟩ : ∃ x, ([t1].map (kidT 7))[i]'hltm = x := ⟨_, rfl⟩
                  rw [hq, hx] at hstep
                  rw [hx] at hc
                  rw [hstep] at hl1
                  rw [hq]
                  have hlt' : (i : Int) < (1 : Int) := by have h : i < 1 := hlt; omega
                  have hw2 : IntKind.i64.wrap ((i : Int) + 1) = (i : Int) + 1 := wrap_id (by have h : i < 1 := hlt; omega) (by have h : i < 1 := hlt; omega)
                  by_cases i0 : i = 0
                  focus
                    subst i0
                    have HST := Lib.hid (show joinT false (([t1].map (kidT 7)).take (0 + 1)) = q ++ x from by rw [hstep]; simp)
                    have hm2 : ¬ 9223372036854775807 < q.length + x.length := by simp only [List.length_append] at hl1; omega
                    simp only [Nat.add_zero] at hc
                    clear hstep hl1 hJL hq hx
                    go_wp2
                    go_roundg ([t1].length - (0 + 1))
                    case measure => simp
                    case rel => exact ⟨0 + 1, by omega, rfl, by rw [HST.out] <;> first | rfl | (simp; done), by go_num, rfl⟩
                  focus
                    exact absurd (show i < 1 from hlt) (by omega)
                focus
                  obtain rfl : i = [t1].length := by omega
                  have hlt' : ¬ (1 : Int) < (1 : Int) := by omega
                  have htk : ([t1].map (kidT 7)).take [t1].length = [t1].map (kidT 7) := by rw [← HLL.out]; exact List.take_length
                  rw [htk]
                  clear htk hlt hlt'
                  obtain ⟨q, hq⟩ : ∃ q, joinT false ([t1].map (kidT 7)) = q := ⟨_, rfl⟩
                  have HQ := Lib.hid (show q ++ signR 7 z = TX from by rw [← hq]; exact HJ.out)
                  have hq1 : q.length ≤ 4000000000 := by rw [← hq]; exact HJL.out
                  have hm1 : ¬ 9223372036854775807 < q.length + 1 := by omega
                  have hm2 : ¬ 9223372036854775807 < q.length + 1 + 1 := by omega
                  rw [hq]
                  clear hq hq1
                  cases z
                  all_goals
                    go_wp2
                    go_ret
                    exact ⟨by rw [← HQ.out]; simp [signR], HXW.out⟩
end Go.Proofs.YtnkhiohopcadmaaDoor
