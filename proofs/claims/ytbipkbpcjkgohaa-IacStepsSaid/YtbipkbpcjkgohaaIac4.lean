/- layer 5: All. -/
import Derived.Test.YtbipkbpcjkgohaaIac3
namespace Go.Proofs.Ytbipkbpcjkgohaa
open Go Go.RowKit

/-- The cells of tokens, their bodies apart from the blocks X. -/
def TokL (w : World) (X : List Nat) : List Tok → List Value → Prop
  | [], cs => cs = []
  | t :: ts, cs => ∃ b rest, cs = .int .i64 t.kind :: .int .i64 t.code :: .int .i64 t.opt :: b :: .bool t.cut :: rest ∧ RdX w X b t.body ∧ TokL w X ts rest
theorem TokL.step {w w' : World} {X Y X' : List Nat} (hc : Chg Y w w') (hy : ∀ y ∈ Y, y ∈ X) (hx : ∀ x ∈ X', x ∈ X ∨ w.heap.size ≤ x) : ∀ {ts : List Tok} {cs : List Value}, TokL w X ts cs → TokL w' X' ts cs := by
  intro ts
  induction ts with
  | nil => intro cs h; exact h
  | cons t ts ih =>
    intro cs h
    obtain ⟨b, rest, e, h1, h2⟩ := h
    exact ⟨b, rest, e, h1.step hc hy hx, ih h2⟩
theorem TokL.ext {w w' : World} {ts : List Tok} {cs : List Value} (h : TokL w [] ts cs) (hb : Ext w w') : TokL w' [] ts cs := h.step (.of_ext hb (X := [])) (by simp) (by simp)
theorem TokL.snoc {w : World} {X : List Nat} {t : Tok} {b : Value} (hb : RdX w X b t.body) : ∀ {ts : List Tok} {cs : List Value}, TokL w X ts cs → TokL w X (ts ++ [t]) (cs ++ [.int .i64 t.kind, .int .i64 t.code, .int .i64 t.opt, b, .bool t.cut]) := by
  intro ts
  induction ts with
  | nil => intro cs h; rw [show cs = [] from h]; exact ⟨b, [], rfl, hb, rfl⟩
  | cons t' ts ih =>
    intro cs h
    obtain ⟨b', rest, e, h1, h2⟩ := h
    exact ⟨b', _, by rw [e]; rfl, h1, ih h2⟩
theorem TokL.append {w : World} {X : List Nat} {us : List Tok} {ds : List Value} (hd : TokL w X us ds) : ∀ {ts : List Tok} {cs : List Value}, TokL w X ts cs → TokL w X (ts ++ us) (cs ++ ds) := by
  intro ts
  induction ts with
  | nil => intro cs h; rw [show cs = [] from h]; exact hd
  | cons t' ts ih =>
    intro cs h
    obtain ⟨b', rest, e, h1, h2⟩ := h
    exact ⟨b', _, by rw [e]; rfl, h1, ih h2⟩
theorem TokL.len {w : World} {X : List Nat} : ∀ {ts : List Tok} {cs : List Value}, TokL w X ts cs → cs.length = ts.length * 5 := by
  intro ts
  induction ts with
  | nil => intro cs h; rw [show cs = [] from h]; rfl
  | cons t' ts ih =>
    intro cs h
    obtain ⟨b', rest, e, _, h2⟩ := h
    have := ih h2
    rw [e]; simp; omega
theorem TokL.at_ {w : World} {X : List Nat} {t : Tok} : ∀ {ts : List Tok} {cs : List Value} {j : Nat}, TokL w X ts cs → ts[j]? = some t →
    ∃ b, cs[j * 5]? = some (.int .i64 t.kind) ∧ cs[j * 5 + 1]? = some (.int .i64 t.code) ∧ cs[j * 5 + 2]? = some (.int .i64 t.opt) ∧ cs[j * 5 + 3]? = some b ∧ cs[j * 5 + 4]? = some (.bool t.cut) ∧ RdX w X b t.body := by
  intro ts
  induction ts with
  | nil => intro cs j _ h; simp at h
  | cons t' ts ih =>
    intro cs j h hj
    obtain ⟨b', rest, rfl, h1, h2⟩ := h
    cases j with
    | zero => simp at hj; subst hj; exact ⟨b', rfl, rfl, rfl, rfl, rfl, h1⟩
    | succ j =>
      obtain ⟨b, g⟩ := ih h2 (by simpa using hj)
      refine ⟨b, ?_⟩
      rw [show (j + 1) * 5 = j * 5 + 5 by omega, show j * 5 + 5 + 1 = j * 5 + 1 + 5 by omega, show j * 5 + 5 + 2 = j * 5 + 2 + 5 by omega, show j * 5 + 5 + 3 = j * 5 + 3 + 5 by omega, show j * 5 + 5 + 4 = j * 5 + 4 + 5 by omega]
      simpa using g

theorem rd_new (w : World) (size n : Nat) (cs : List Value) (e : TypeId) (h : cs.length = n * size) : Rd (w.alloc (.cells cs.toArray e)) size (some ⟨w.heap.size, 0, none⟩) n cs := by
  have := (Blk.newL w e cs).rd (n := n) (size := size) 0 (by omega)
  rwa [List.drop_zero, List.take_of_length_le (by omega)] at this
theorem rd_newAt (w : World) (size n : Nat) (cs : List Value) (e : TypeId) (h : cs.length = n * size) {g : Nat} (hg : w.heap.size = g) : Rd (w.alloc (.cells cs.toArray e)) size (some ⟨g, 0, none⟩) n cs := by subst hg; exact rd_new w size n cs e h
theorem Try.elemT : Elem Try.prog 25 35 (.agg #[.int .i64 0, .int .i64 0, .int .i64 0, .slice none 0 0, .bool false]) 5 56 := ⟨Try.underlying25, by kernel_rfl, rfl, by omega⟩

set_option maxHeartbeats 400000 in
theorem bytesClone (l : List UInt8) (A : Option Addr) (n c : Nat) (w : World) (hr : Rd w 1 A n (bytesV l)) (hn : n ≤ 1000000) :
    Calls Try.prog 36 #[.slice A n c] w fun e w' => ∃ v, e = .returned v ∧ w'.ownsRow w.heap.size 5 1 v l.length (bytesV l) ∧ Ext w w' := by
  have hl := hr.len_bytes
  cases A with
  | none =>
    have h0 : l = [] := by
      by_cases h : 0 < l.length
      · obtain ⟨b, o, e, _⟩ := hr.2 (by simpa [bytesV] using h); cases e
      · exact List.eq_nil_of_length_eq_zero (by omega)
    subst h0
    simp at hl
    subst hl
    have hne := fun w => Lib.run_eql_slice_nil (P := Try.prog) w 22 5 none 0 c 0 0 Try.underlying22
    go_enter Try.func36, Try.ntmps36
    go_wp2
    go_ret
    exact ⟨_, rfl, World.ownsRow_nil _ _ _ _, Ext.refl _⟩
  | some a =>
    have hne := fun w => Lib.run_eql_slice_nil (P := Try.prog) w 22 5 (some a) n c 0 0 Try.underlying22
    have HL := Lib.hid hl
    clear hl
    go_enter Try.func36, Try.ntmps36
    go_wp2_with (at_builtin; refine wpList_app2 Try.elemB rfl (.tmp 5) (.tmp 6) rfl (v := .slice (some ⟨w.heap.size, 0, none⟩) 0 0) (n := 0) rfl (own_empty w 5 1) (by simp) rfl (hr.keep (Ext.new1 _ _)) (one_bytesV _) (by omega) (by unfold maxLen; omega) ?_; intro v1 w1 hown1 hg1 _ _; have hb1 := hg1.below ((Below.refl w.heap.size w).alloc (Nat.le_refl _) _) (Nat.le_refl _) (by simp); clear hg1)
    go_ret
    refine ⟨_, rfl, ?_, hb1⟩
    rw [HL.out]
    simpa using hown1

theorem iacIdle {base : Nat} {p : Nat} {m : Mach} {bv : Value} (w : World) (h : MachAt base w p m bv) :
    Calls Try.prog 18 #[.pointer (some ⟨p, 0, none⟩)] w fun e w' => e = .returned (.bool (m.st == 0)) ∧ w = w' := by
  have e0 : w.cell? ⟨p, 0, none⟩ = some (.int .i64 m.st) := h.blk.cell 0
  by_cases h0 : m.st = 0
  · have hb : ((m.st : Int) == 0) = true := by simp [h0]
    have H0 := Lib.hid h0
    clear h0
    go_enter Try.func18, Try.ntmps18
    go_wp2
    go_ret
    exact ⟨by simp [H0.out], rfl⟩
  · have hb : ((m.st : Int) == 0) = false := by simp [h0]
    have H0 := Lib.hid h0
    clear h0
    go_enter Try.func18, Try.ntmps18
    go_wp2
    go_ret
    exact ⟨by simp [H0.out], rfl⟩

theorem mach0_at (base : Nat) (w : World) (hb : base ≤ w.heap.size) : MachAt base (w.alloc (.cells #[.int .i64 0, .int .i64 0, .int .i64 0, .int .i64 0, .slice none 0 0, .bool false] 38)) w.heap.size mach0 (.slice none 0 0) :=
  ⟨Blk.new w _ _, World.ownsRow_nil _ _ _ _, by simp [Value.ownBlock], hb, mach0_ok⟩

/-- Behind some bytes: the machine, and the tokens gathered. -/
structure Gath (base : Nat) (w : World) (p : Nat) (m : Mach) (bv v : Value) (cs : List Value) (ts : List Tok) : Prop where
  mach : MachAt base w p m bv
  own : w.ownsRow base 35 5 v ts.length cs
  toks : TokL w (p :: bv.ownBlock.toList ++ v.ownBlock.toList) ts cs
  ne : v.ownBlock ≠ some p
  apart : ∀ k, v.ownBlock = some k → bv.ownBlock ≠ some k

theorem Gath.keep {base : Nat} {w w' : World} {p : Nat} {m : Mach} {bv v : Value} {cs : List Value} {ts : List Tok} (h : Gath base w p m bv v cs ts) (hb : Ext w w') : Gath base w' p m bv v cs ts :=
  ⟨h.mach.keep hb, own_ext h.own hb, h.toks.step (.of_ext hb (X := [])) (by simp) (fun x hx => .inl hx), h.ne, h.apart⟩
theorem Gath.fed {base : Nat} {w w' : World} {p : Nat} {m : Mach} {bv v tb bv' : Value} {cs : List Value} {ts : List Tok} {c : UInt8} (h : Gath base w p m bv v cs ts) (hf : Fed base w w' p m bv c tb bv') : Gath base w' p (feed m c).1 bv' v cs ts := by
  have hv : ∀ k, v.ownBlock = some k → k ∉ p :: bv.ownBlock.toList := fun k hk => by
    simp only [List.mem_cons, Option.mem_toList]
    rintro (e | e)
    · subst e; exact h.ne hk
    · exact h.apart k hk e
  have hvl := fun k hk => (h.own.lt k hk).2
  refine ⟨hf.mach, own_chg h.own hf.chg hv, h.toks.step hf.chg (fun y hy => List.mem_append_left _ hy) (fun x hx => ?_), h.ne, fun k hk e => ?_⟩
  · simp only [List.cons_append, List.mem_cons, List.mem_append, Option.mem_toList] at hx ⊢
    rcases hx with hx | hx | hx
    · exact .inl (.inl hx)
    · rcases hf.own with ho | ho | ⟨k, ho, hl⟩
      · rw [ho] at hx; cases hx
      · rw [ho] at hx; exact .inl (.inr (.inl hx))
      · rw [ho] at hx; cases hx; exact .inr hl
    · exact .inl (.inr (.inr hx))
  · rcases hf.own with ho | ho | ⟨j, ho, hl⟩
    · rw [ho] at e; cases e
    · rw [ho] at e; exact h.apart k hk e
    · rw [ho] at e; cases e; have := hvl _ hk; omega
theorem Gath.app {base : Nat} {w w' : World} {p : Nat} {m : Mach} {bv v v' b : Value} {cs : List Value} {ts : List Tok} {t : Tok} (h : Gath base w p m bv v cs ts)
    (hown : w'.ownsRow base 35 5 v' (ts.length + 1) (cs ++ [.int .i64 t.kind, .int .i64 t.code, .int .i64 t.opt, b, .bool t.cut])) (hc : Chg v.ownBlock.toList w w') (ho : v'.ownBlock = v.ownBlock ∨ ∃ k, v'.ownBlock = some k ∧ w.heap.size ≤ k)
    (hb : RdX w (p :: bv.ownBlock.toList ++ v.ownBlock.toList) b t.body) : Gath base w' p m bv v' (cs ++ [.int .i64 t.kind, .int .i64 t.code, .int .i64 t.opt, b, .bool t.cut]) (ts ++ [t]) := by
  have hpl := h.mach.plt
  have hy : ∀ y ∈ v.ownBlock.toList, y ∈ p :: bv.ownBlock.toList ++ v.ownBlock.toList := fun y hy => List.mem_append_right _ hy
  have hx : ∀ x ∈ p :: bv.ownBlock.toList ++ v'.ownBlock.toList, x ∈ p :: bv.ownBlock.toList ++ v.ownBlock.toList ∨ w.heap.size ≤ x := fun x hx => by
    simp only [List.cons_append, List.mem_cons, List.mem_append, Option.mem_toList] at hx ⊢
    rcases hx with hx | hx | hx
    · exact .inl (.inl hx)
    · exact .inl (.inr (.inl hx))
    · rcases ho with ho | ⟨k, ho, hl⟩
      · rw [ho] at hx; exact .inl (.inr (.inr hx))
      · rw [ho] at hx; cases hx; exact .inr hl
  refine ⟨h.mach.chg hc (fun hm => h.ne (by simpa using hm)) (fun k hk hm => h.apart k (by simpa using hm) hk), by simpa using hown, ?_, ?_, ?_⟩
  · exact TokL.snoc (hb.step hc hy hx) (h.toks.step hc hy hx)
  · rcases ho with ho | ⟨k, ho, hl⟩
    · rw [ho]; exact h.ne
    · rw [ho]; simp; omega
  · intro k hk e
    have hbl := (h.mach.own.lt k e).2
    rcases ho with ho | ⟨j, ho, hl⟩
    · rw [ho] at hk; exact h.apart k hk e
    · rw [ho] at hk; cases hk; omega

theorem iacFeedN {base : Nat} {p : Nat} {m : Mach} {bv : Value} (c : UInt8) (w : World) (h : MachAt base w p m bv) (hf : (feed m c).2 = none) :
    Calls Try.prog 16 #[.pointer (some ⟨p, 0, none⟩), .int .u8 c.toNat] w fun e w' => ∃ A n d bv', e = .returned (.tuple #[.agg #[.int .i64 0, .int .i64 0, .int .i64 0, .slice A n d, .bool false], .bool false]) ∧ Fed base w w' p m bv c (.slice A n d) bv' := by
  refine (iacFeed c w h).mono ?_
  rintro e w' ⟨tb, bv', rfl, hfd⟩
  obtain ⟨A, n, d, rfl, _⟩ := hfd.body [] (by simp)
  exact ⟨A, n, d, bv', by rw [hf]; rfl, hfd⟩
theorem iacFeedS {base : Nat} {p : Nat} {m : Mach} {bv : Value} (c : UInt8) (w : World) (t : Tok) (h : MachAt base w p m bv) (hf : (feed m c).2 = some t) :
    Calls Try.prog 16 #[.pointer (some ⟨p, 0, none⟩), .int .u8 c.toNat] w fun e w' => ∃ A n d bv', e = .returned (.tuple #[.agg #[.int .i64 t.kind, .int .i64 t.code, .int .i64 t.opt, .slice A n d, .bool t.cut], .bool true]) ∧ Fed base w w' p m bv c (.slice A n d) bv' ∧ Rd w' 1 A n (bytesV t.body) ∧ n ≤ d ∧ d ≤ maxLen := by
  refine (iacFeed c w h).mono ?_
  rintro e w' ⟨tb, bv', rfl, hfd⟩
  obtain ⟨A, n, d, rfl, h1, h2, h3, _⟩ := hfd.body [] (by simp)
  rw [hf] at h3
  exact ⟨A, n, d, bv', by rw [hf]; rfl, hfd, h3, h1, h2⟩

set_option maxHeartbeats 2000000 in
set_option maxRecDepth 20000 in
theorem iacAll (l : List UInt8) (A : Option Addr) (n c : Nat) (w : World) (hr : Rd w 1 A n (bytesV l)) (hn : n ≤ 1000000) :
    Calls Try.prog 11 #[.slice A n c] w fun e w' => ∃ v cs, e = .returned (.tuple #[v, .bool ((runM mach0 l).2.st == 0)]) ∧ w'.ownsRow w.heap.size 35 5 v (runM mach0 l).1.length cs ∧ TokL w' v.ownBlock.toList (runM mach0 l).1 cs ∧ Ext w w' := by
  have hl := hr.len_bytes
  have HL := Lib.hid hl
  clear hl
  go_enter Try.func11, Try.ntmps11
  go_wp2
  go_loopw [5, 14] (fun v i wr => ∃ (k : Nat) (bv : Value) (cs : List Value) (m : Mach) (ts : List Tok), k ≤ n ∧ i = .int .i64 k ∧ Gath w.heap.size wr w.heap.size m bv v cs ts ∧ runM mach0 (l.take k) = (ts, m) ∧ Below w.heap.size w wr) (fun _ i _ => n - (intOf i).toNat)
  case atStart => exact ⟨0, _, [], mach0, [], Nat.zero_le _, rfl, ⟨mach0_at _ _ (Nat.le_refl _), World.ownsRow_nil _ _ _ _, rfl, by simp [Value.ownBlock], by simp [Value.ownBlock]⟩, rfl, Ext.new1 _ _⟩
  case round =>
    obtain ⟨k, bv, cs, m, ts, hk, rfl, hg, hrun, hb⟩ := hrel
    have hs := hb.size
    by_cases hlt : k < n
    · have hkl : k < l.length := by have := HL.out; omega
      obtain ⟨b, o, rfl, HC⟩ := hr.bytes (by omega)
      have hc1 := HC.out wr hb k hkl
      have hrun1 : runM mach0 (l.take (k + 1)) = (ts ++ (feed m l[k]).2.toList, (feed m l[k]).1) := by
        rw [List.take_succ_eq_append_getElem hkl, runM_snoc, hrun]
      have HRUN := Lib.hid hrun1
      have hlen : ts.length ≤ k := by have := runM_len (l.take k) mach0; rw [hrun] at this; simp at this; omega
      clear hrun hrun1
      cases hf : (feed m l[k]).2 with
      | none =>
        have HF := Lib.hid hf
        clear hf
        go_wp2_with (go_at_call 16; refine (iacFeedN l[k] _ hg.mach HF.out).mono ?_; rintro e w1 ⟨A1, n1, d1, bv1, rfl, hfd⟩; have hb1 := hfd.chg.below hb hs (by have := fun k hk => (hg.mach.own.lt k hk).1; simp; exact this); have hg1 := hg.fed hfd; clear hfd)
        go_roundw
        case rel => exact ⟨k + 1, bv1, cs, _, ts, by omega, by go_num, hg1.keep (Ext.new1 _ _), by rw [HRUN.out, HF.out]; simp, hb1.alloc hb1.size _⟩
        case measure => simp [intOf]; omega
      | some t =>
        have HF := Lib.hid hf
        clear hf
        go_wp2_with (first
          | (at_builtin; go_loud (refine wpList_app2 Try.elemT rfl (.tmp 29) (.tmp 31) rfl (v := u5) rfl (hg3.keep (Ext.new1 _ _)).own (by simp; omega) rfl (rd_newAt _ 5 1 [.int .i64 t.kind, .int .i64 t.code, .int .i64 t.opt, .slice A3 t.body.length c3, .bool t.cut] _ rfl (by simp)) (by simp [Value.oneCell']) (by omega) (by unfold maxLen; omega) ?_); intro v4 w4 hown4 hg4 _ hat4)
          | (go_at_call 36; refine (bytesClone t.body A1 n1 d1 _ (hrd1.keep (Ext.new1 _ _)) (by omega)).mono ?_; rintro e w2 ⟨v3, rfl, hown3, hb2⟩; obtain ⟨A3, c3, hv3, h31, h32, hrd3⟩ := own_rd hown3; subst hv3; have hxb := (Blk.newL w1 35 [.int .i64 t.kind, .int .i64 t.code, .int .i64 t.opt, .slice A1 n1 d1, .bool t.cut]).keep hb2; have x0 : w2.cell? ⟨w1.heap.size, 0, none⟩ = some (.int .i64 t.kind) := hxb.cell 0; have x1 : w2.cell? ⟨w1.heap.size, 1, none⟩ = some (.int .i64 t.code) := hxb.cell 1; have x2 : w2.cell? ⟨w1.heap.size, 2, none⟩ = some (.int .i64 t.opt) := hxb.cell 2; have x3 : w2.cell? ⟨w1.heap.size, 3, none⟩ = some (.slice A1 n1 d1) := hxb.cell 3; have x4 : w2.cell? ⟨w1.heap.size, 4, none⟩ = some (.bool t.cut) := hxb.cell 4; have y3 := hxb.frozen 3;
             have hb3 : Ext w1 (w2.setCell ⟨w1.heap.size, 3, none⟩ (.slice A3 t.body.length c3)) := ((Ext.new1 w1 _).trans hb2).setCell (Nat.le_refl _) _; have hg3 := hg1.keep hb3; have hs2 : w1.heap.size + 1 ≤ w2.heap.size := (by have := hb2.size; simpa using this))
          | (go_at_call 16; refine (iacFeedS l[k] _ t hg.mach HF.out).mono ?_; rintro e w1 ⟨A1, n1, d1, bv1, rfl, hfd, hrd1, hnd1, hdm1⟩; have hb1 := hfd.chg.below hb hs (by have := fun k hk => (hg.mach.own.lt k hk).1; simp; exact this); have hg1 := hg.fed hfd; have hlb : n1 ≤ 256 := (by have h1 := hrd1.len_bytes; have h2 := feed_body hg.mach.ok HF.out; omega); have hs1 := hb1.size; clear hfd))
        have hbx : RdX w2 (w1.heap.size :: (w.heap.size :: bv1.ownBlock.toList ++ u5.ownBlock.toList)) (.slice A3 t.body.length c3) t.body := own_rdx hown3 (fun j hj => by
          have h1 := (hown3.lt j hj).1
          simp only [World.size_alloc] at h1
          simp only [List.cons_append, List.mem_cons, List.mem_append, Option.mem_toList]
          rintro (h | h | h | h)
          · omega
          · omega
          · have := (hg1.mach.own.lt j h).2; omega
          · have := (hg1.own.lt j h).2; omega)
        have hg5 := (hg3.keep (Ext.new1 _ (.cells #[.int .i64 t.kind, .int .i64 t.code, .int .i64 t.opt, .slice A3 t.body.length c3, .bool t.cut] 35))).app hown4 hg4.chg (by
          rcases hat4 with h | h
          · exact .inl h
          · exact .inr ⟨_, h, Nat.le_refl _⟩) (hbx.step (Y := [w1.heap.size]) (((Chg.refl _ _).setCell (by simp) _).alloc _) (by simp) (fun x hx => .inl (List.mem_cons_of_mem _ hx)))
        have hb4 : Below w.heap.size w w4 := hg4.below ((hb1.trans (hb3.mono hs1)).alloc (by simp; omega) _) (Nat.le_refl _) (by simp; omega)
        refine ⟨⟨k + 1, bv1, _, _, _, by omega, by go_num, hg5, by rw [HRUN.out, HF.out]; rfl, hb4⟩, by simp [intOf]; omega⟩
    · obtain rfl : k = n := by omega
      have ht : l.take k = l := List.take_of_length_le (by have := HL.out; omega)
      rw [ht] at hrun
      have HRUN := Lib.hid hrun
      clear hrun ht
      go_wp2_with (go_at_call 18; refine (iacIdle _ hg.mach).mono ?_; rintro e w1 ⟨rfl, rfl⟩)
      go_ret2
      refine ⟨u5, cs, by rw [HRUN.out]; simp, by rw [HRUN.out]; exact hg.own, ?_, hb⟩
      rw [HRUN.out]
      exact hg.toks.step (Chg.refl [] _) (by simp) (fun x hx => .inl (List.mem_append_right _ hx))
end Go.Proofs.Ytbipkbpcjkgohaa
