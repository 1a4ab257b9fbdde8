/- layer 5: the document's tokens of all bytes. -/
import Derived.Test.YtbipkbpcjkgohaaIac5
namespace Go.Proofs.Ytbipkbpcjkgohaa
open Go Go.RowKit

set_option maxHeartbeats 2000000 in
set_option maxRecDepth 20000 in
theorem refAllC (l : List UInt8) (hn : l.length ≤ 100000) (w : World) :
    Calls Try.prog 12 #[.string ⟨l.toArray⟩] w fun e w' => ∃ v, e = .returned (.tuple #[v, .string ⟨(refAll l.length l).2.toArray⟩]) ∧ w'.ownsRow w.heap.size 40 5 v (refAll l.length l).1.length (rtokAll (refAll l.length l).1) ∧ Ext w w' := by
  obtain ⟨res, hres⟩ : ∃ res, refAll l.length l = res := ⟨_, rfl⟩
  rw [hres]
  have HRES := Lib.hid hres
  clear hres
  go_enter Try.func12, Try.ntmps12
  go_wp2
  go_loopw [0, 4] (fun sv v wr => ∃ (f : Nat) (s : List UInt8) (ts : List Tok), s.length ≤ f ∧ f + ts.length ≤ l.length ∧ sv = .string ⟨s.toArray⟩ ∧ res = (ts ++ (refAll f s).1, (refAll f s).2) ∧ wr.ownsRow w.heap.size 40 5 v ts.length (rtokAll ts) ∧ Below w.heap.size w wr) (fun sv _ _ => match sv with | .string b => b.size | _ => 0)
  case atStart => exact ⟨l.length, l, [], Nat.le_refl _, by simp, rfl, by rw [HRES.out]; rfl, own_empty _ _ _, Ext.new1 _ _⟩
  case round =>
    obtain ⟨f, s, ts, hsf, hft, rfl, hr, hown, hb⟩ := hrel
    have hs := hb.size
    have hle := next_le s
    by_cases h0 : (next s).2 = 0
    · have hr2 : res = (ts, s) := by
        rw [hr]
        cases f with
        | zero => simp [refAll]
        | succ f => simp [refAll, h0]
      have hbz : (((next s).2 : Int) == 0) = true := by rw [h0]; rfl
      have HR := Lib.hid hr2
      clear hr hr2 h0
      go_wp2_with (go_at_call 15; refine (refNext s (by omega) _).mono ?_; rintro e w1 ⟨rfl, hb1⟩)
      go_ret2
      exact ⟨u4, by rw [HR.out]; simp, by rw [HR.out]; exact own_ext hown (hb1.trans (Ext.new1 _ _)), (hb.trans (hb1.mono hs)).alloc (by have := hb1.size; omega) _⟩
    · obtain ⟨f, rfl⟩ : ∃ f', f = f' + 1 := ⟨f - 1, by omega⟩
      have hr2 : res = ((ts ++ [(next s).1]) ++ (refAll f (s.drop (next s).2)).1, (refAll f (s.drop (next s).2)).2) := by
        rw [hr, refAll, if_neg h0, List.append_assoc]; rfl
      have hbz : (((next s).2 : Int) == 0) = false := by rw [beq_eq_false_iff_ne]; omega
      have hlz : 0 < (next s).2 := by omega
      have hcut : ((next s).2 : Int) ≤ s.length := by omega
      have HR := Lib.hid hr2
      clear hr hr2 h0
      go_wp2_with (first
        | (at_builtin; refine wpList_app2 Try.elemR rfl (.tmp 17) (.tmp 19) rfl (v := u4) rfl (own_ext hown (hb1.trans ((Ext.new1 _ (.cells #[.int .i64 (next s).1.kind, .int .i64 (next s).1.code, .int .i64 (next s).1.opt, .string ⟨(next s).1.body.toArray⟩, .bool (next s).1.cut] 40)).trans (Ext.new1 _ _)))) (by simp; omega) rfl (rd_newAt _ 5 1 [.int .i64 (next s).1.kind, .int .i64 (next s).1.code, .int .i64 (next s).1.opt, .string ⟨(next s).1.body.toArray⟩, .bool (next s).1.cut] _ rfl (by simp)) (by simp [Value.oneCell']) (by omega) (by unfold maxLen; omega) ?_; intro v4 w4 hown4 hg4 _ _)
        | (go_at_call 15; refine (refNext s (by omega) _).mono ?_; rintro e w1 ⟨rfl, hb1⟩; have hs1 := hb1.size))
      have hb4 : Below w.heap.size w w4 := hg4.below (((hb.trans (hb1.mono hs)).alloc (by omega) _).alloc (by simp; omega) _) (Nat.le_refl _) (by simp; omega)
      refine ⟨⟨f, _, ts ++ [(next s).1], by simp; omega, by simp; omega, rfl, HR.out, ?_, hb4⟩, ?_⟩
      · have e : rtokAll (ts ++ [(next s).1]) = rtokAll ts ++ rtokL (next s).1 := by simp [rtokAll]
        rw [e, List.length_append]
        exact hown4
      · show (List.drop (next s).2 s).length < s.length
        rw [List.length_drop]; omega

/-- The document's token of a token. -/
theorem rtok_at (ts : List Tok) (t : Tok) : ∀ (j : Nat), ts[j]? = some t → (rtokAll ts)[j * 5]? = some (.int .i64 t.kind) ∧ (rtokAll ts)[j * 5 + 1]? = some (.int .i64 t.code) ∧ (rtokAll ts)[j * 5 + 2]? = some (.int .i64 t.opt) ∧ (rtokAll ts)[j * 5 + 3]? = some (.string ⟨t.body.toArray⟩) ∧ (rtokAll ts)[j * 5 + 4]? = some (.bool t.cut) := by
  induction ts with
  | nil => intro j h; simp at h
  | cons t' ts ih =>
    intro j hj
    have e : rtokAll (t' :: ts) = rtokL t' ++ rtokAll ts := by simp [rtokAll]
    rw [e]
    cases j with
    | zero => simp at hj; subst hj; exact ⟨rfl, rfl, rfl, rfl, rfl⟩
    | succ j =>
      have g := ih j (by simpa using hj)
      rw [show (j + 1) * 5 = j * 5 + 5 by omega, show j * 5 + 5 + 1 = j * 5 + 1 + 5 by omega, show j * 5 + 5 + 2 = j * 5 + 2 + 5 by omega, show j * 5 + 5 + 3 = j * 5 + 3 + 5 by omega, show j * 5 + 5 + 4 = j * 5 + 4 + 5 by omega]
      simpa [rtokL] using g

set_option maxHeartbeats 400000 in
theorem lawOf (k c o : Int) (A : Option Addr) (n d : Nat) (cut : Bool) (l : List UInt8) (w : World) (hr : Rd w 1 A n (bytesV l)) :
    Calls Try.prog 17 #[.agg #[.int .i64 k, .int .i64 c, .int .i64 o, .slice A n d, .bool cut]] w fun e w' => e = .returned (.agg #[.int .i64 k, .int .i64 c, .int .i64 o, .string ⟨l.toArray⟩, .bool cut]) ∧ Ext w w' := by
  have hcv := conv_all (P := Try.prog) (c := d) Try.underlying22 Try.underlying5 Try.underlying9 hr
  have hcv1 := hcv ((w.alloc (.cells #[.int .i64 k, .int .i64 c, .int .i64 o, .slice A n d, .bool cut] 35)).alloc (.cells #[.int .i64 0, .int .i64 0, .int .i64 0, .string ⟨#[]⟩, .bool false] 40)) ((Ext.new1 _ _).trans (Ext.new1 _ _))
  clear hcv
  go_enter Try.func17, Try.ntmps17
  go_wp2
  refine bodyPost_ret (v := .agg #[.int .i64 k, .int .i64 c, .int .i64 o, .string ⟨l.toArray⟩, .bool cut]) (by simp [results, Try.results17, go_sem]) rfl ⟨rfl, (Ext.new1 _ _).trans (Ext.new1 _ _)⟩
end Go.Proofs.Ytbipkbpcjkgohaa
