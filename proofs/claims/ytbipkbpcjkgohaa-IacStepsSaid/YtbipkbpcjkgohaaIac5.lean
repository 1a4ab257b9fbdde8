/- layer 5: the document's answer. -/
import Derived.Test.YtbipkbpcjkgohaaIac4
namespace Go.Proofs.Ytbipkbpcjkgohaa
open Go Go.RowKit

def rtokL (t : Tok) : List Value := [.int .i64 t.kind, .int .i64 t.code, .int .i64 t.opt, .string ⟨t.body.toArray⟩, .bool t.cut]
def RefPost (w : World) (r : Tok × Nat) (e : Ending) (w' : World) : Prop := e = .returned (.tuple #[.agg #[.int .i64 r.1.kind, .int .i64 r.1.code, .int .i64 r.1.opt, .string ⟨r.1.body.toArray⟩, .bool r.1.cut], .int .i64 r.2]) ∧ Ext w w'

theorem neByte2 {c d : UInt8} {n : Int} (h : ¬ c = d) (hd : (d.toNat : Int) = n) : ((c.toNat : Int) != n) = true := by
  rw [bne_iff_ne, ← hd]
  exact fun e => h (UInt8.toNat_inj.1 (by omega))

set_option maxHeartbeats 2000000 in
set_option maxRecDepth 20000 in
theorem refSub (l : List UInt8) (h3 : 3 ≤ l.length) (hn : l.length ≤ 1000000) (w : World) :
    Calls Try.prog 37 #[.string ⟨l.toArray⟩] w (RefPost w (subGo l[2] [] 3 (l.drop 3))) := by
  obtain ⟨res, hres⟩ : ∃ res, subGo l[2] [] 3 (l.drop 3) = res := ⟨_, rfl⟩
  rw [hres]
  have HRES := Lib.hid hres
  clear hres
  have ho256 : (l[2].toNat : Int) < 256 := by have := l[2].toNat_lt; omega
  go_enter Try.func37, Try.ntmps37
  go_wp2
  go_loop [4, 5] (fun v i => ∃ (j : Nat) (acc : List UInt8), 3 ≤ j ∧ j ≤ l.length ∧ acc.length ≤ j ∧ i = .int .i64 j ∧ v = .string ⟨acc.toArray⟩ ∧ res = subGo l[2] acc j (l.drop j)) (fun _ i => l.length - (intOf i).toNat)
  case atStart => exact ⟨3, [], Nat.le_refl _, h3, Nat.zero_le _, rfl, rfl, HRES.out.symm⟩
  case round =>
    obtain ⟨j, acc, hj3, hj, hacc, rfl, rfl, hr⟩ := hrel
    by_cases hlt : j < l.length
    · have hd : l.drop j = l[j] :: l.drop (j + 1) := List.drop_eq_getElem_cons hlt
      rw [hd] at hr
      have hsz : acc.length + 1 ≤ 9223372036854775807 := by omega
      by_cases hc : l[j] = 255
      · by_cases hlast : j + 1 < l.length
        · have hd2 : l.drop (j + 1) = l[j + 1] :: l.drop (j + 2) := List.drop_eq_getElem_cons hlast
          have hne : ((j : Int) == (l.length : Int) - 1) = false := by rw [beq_eq_false_iff_ne]; omega
          rw [hd2, hc] at hr
          by_cases h255 : l[j + 1] = 255
          · have hr2 : res = subGo l[2] (acc ++ [255]) (j + 2) (l.drop (j + 2)) := by rw [hr, h255]; simp [subGo]
            have HR := Lib.hid hr2
            clear hr hr2 hd hd2
            go_wp2
            go_round
            case rel => exact ⟨j + 2, acc ++ [255], by omega, by omega, by simp; omega, by go_num, rfl, HR.out⟩
            case measure => simp [intOf]; omega
          · have b1 := neByte h255 (n := 255) (by decide)
            have hc256 : (l[j + 1].toNat : Int) < 256 := by have := l[j + 1].toNat_lt; omega
            by_cases h240 : l[j + 1] = 240
            · have hr2 : res = (⟨4, 0, l[2].toNat, acc.take 256, decide (256 < acc.length)⟩, j + 2) := by rw [hr, h240]; simp [subGo]
              have HR := Lib.hid hr2
              clear hr hr2 hd hd2
              by_cases hlong : (256 : Int) < acc.length
              · have hb2 : decide (256 < acc.length) = true := by simp; omega
                have HB2 := Lib.hid hb2
                clear hb2
                go_wp2
                refine bodyPost_ret (v := .tuple #[.agg #[.int .i64 4, .int .i64 0, .int .i64 l[2].toNat, .string ⟨(acc.take 256).toArray⟩, .bool true], .int .i64 ((j : Int) + 2)]) (by simp [results, Try.results37, go_sem]) rfl ⟨by rw [HR.out, HB2.out]; simp, (Ext.new1 _ _).trans (Ext.new1 _ _)⟩
              · have hb2 : decide (256 < acc.length) = false := by simp; omega
                have ht : acc.take 256 = acc := List.take_of_length_le (by omega)
                have HB2 := Lib.hid hb2
                have HT := Lib.hid ht
                clear hb2 ht
                go_wp2
                refine bodyPost_ret (v := .tuple #[.agg #[.int .i64 4, .int .i64 0, .int .i64 l[2].toNat, .string ⟨acc.toArray⟩, .bool false], .int .i64 ((j : Int) + 2)]) (by simp [results, Try.results37, go_sem]) rfl ⟨by rw [HR.out, HB2.out, HT.out]; simp, (Ext.new1 _ _).trans (Ext.new1 _ _)⟩
            · have b2 := neByte h240 (n := 240) (by decide)
              have hr2 : res = (⟨5, l[j + 1].toNat, l[2].toNat, [], false⟩, j + 2) := by rw [hr]; simp [subGo, h255, h240]
              have HR := Lib.hid hr2
              clear hr hr2 hd hd2 h255 h240
              go_wp2
              refine bodyPost_ret (v := .tuple #[.agg #[.int .i64 5, .int .i64 l[j + 1].toNat, .int .i64 l[2].toNat, .string ⟨#[]⟩, .bool false], .int .i64 ((j : Int) + 2)]) (by simp [results, Try.results37, go_sem]) rfl ⟨by rw [HR.out]; simp, Ext.new1 _ _⟩
        · have hd2 : l.drop (j + 1) = [] := List.drop_eq_nil_of_le (by omega)
          have hr2 : res = (noTok, 0) := by rw [hr, hd2, hc]; rfl
          have heq : ((j : Int) == (l.length : Int) - 1) = true := by rw [beq_iff_eq]; omega
          have HR := Lib.hid hr2
          clear hr hr2 hd hd2
          go_wp2
          refine bodyPost_ret (v := .tuple #[.agg #[.int .i64 0, .int .i64 0, .int .i64 0, .string ⟨#[]⟩, .bool false], .int .i64 0]) (by simp [results, Try.results37, go_sem]) rfl ⟨by rw [HR.out]; simp [noTok], Ext.new1 _ _⟩
      · have hr2 : res = subGo l[2] (acc ++ [l[j]]) (j + 1) (l.drop (j + 1)) := by rw [hr, subGo_step _ _ _ _ hc]
        have b1 := neByte hc (n := 255) (by decide)
        have b2 := neByte2 hc (n := 255) (by decide)
        have hx : List.drop j (List.take (j + 1) l) = [l[j]] := by
          rw [List.take_succ_eq_append_getElem hlt, List.drop_append_of_le_length (by simp; omega)]; simp
        have HX := Lib.hid hx
        have HR := Lib.hid hr2
        clear hr hr2 hd hc hx
        go_wp2
        go_round
        case rel => exact ⟨j + 1, acc ++ [l[j]], by omega, by omega, by simp; omega, by go_num, by rw [HX.out], HR.out⟩
        case measure => simp [intOf]; omega
    · obtain rfl : j = l.length := by omega
      have hr2 : res = (noTok, 0) := by rw [hr, List.drop_length]; rfl
      have HR := Lib.hid hr2
      clear hr hr2
      go_wp2
      refine bodyPost_ret (v := .tuple #[.agg #[.int .i64 0, .int .i64 0, .int .i64 0, .string ⟨#[]⟩, .bool false], .int .i64 0]) (by simp [results, Try.results37, go_sem]) rfl ⟨by rw [HR.out]; simp [noTok], Ext.new1 _ _⟩

set_option maxHeartbeats 2000000 in
set_option maxRecDepth 20000 in
theorem refNext (l : List UInt8) (hn : l.length ≤ 1000000) (w : World) :
    Calls Try.prog 15 #[.string ⟨l.toArray⟩] w (RefPost w (next l)) := by
  match l, hn with
  | [], _ =>
    go_enter Try.func15, Try.ntmps15
    go_wp2
    refine bodyPost_ret (v := .tuple #[.agg #[.int .i64 0, .int .i64 0, .int .i64 0, .string ⟨#[]⟩, .bool false], .int .i64 0]) (by simp [results, Try.results15, go_sem]) rfl ⟨by simp [next, noTok], Ext.new1 _ _⟩
  | c :: r, hn =>
    have hc256 : (c.toNat : Int) < 256 := by have := c.toNat_lt; omega
    by_cases hc : c = 255
    · subst hc
      match r, hn with
      | [], _ =>
        go_enter Try.func15, Try.ntmps15
        go_wp2
        refine bodyPost_ret (v := .tuple #[.agg #[.int .i64 0, .int .i64 0, .int .i64 0, .string ⟨#[]⟩, .bool false], .int .i64 0]) (by simp [results, Try.results15, go_sem]) rfl ⟨by simp [next, noTok], Ext.new1 _ _⟩
      | d :: r, hn =>
        have hd256 : (d.toNat : Int) < 256 := by have := d.toNat_lt; omega
        have hr1 : ((r.length : Int) + 1 + 1 == 0) = false := by rw [beq_eq_false_iff_ne]; omega
        have hr2 : ((r.length : Int) + 1 + 1 == 1) = false := by rw [beq_eq_false_iff_ne]; omega
        by_cases h255 : d = 255
        · subst h255
          have hres : next (255 :: 255 :: r) = (⟨1, 255, 0, [], false⟩, 2) := by cases r <;> simp [next]
          have HRES := Lib.hid hres
          clear hres
          go_enter Try.func15, Try.ntmps15
          go_wp2
          refine bodyPost_ret (v := .tuple #[.agg #[.int .i64 1, .int .i64 255, .int .i64 0, .string ⟨#[]⟩, .bool false], .int .i64 2]) (by simp [results, Try.results15, go_sem]) rfl ⟨by rw [HRES.out]; simp, Ext.new1 _ _⟩
        · have b1 := neByte h255 (n := 255) (by decide)
          have H255 := Lib.hid h255
          clear h255
          by_cases h250 : (d.toNat : Int) < 250
          · have hres : next (255 :: d :: r) = (⟨2, d.toNat, 0, [], false⟩, 2) := by
              have : d.toNat < 250 := by omega
              cases r <;> simp [next, H255.out, this]
            have HRES := Lib.hid hres
            clear hres
            go_enter Try.func15, Try.ntmps15
            go_wp2
            refine bodyPost_ret (v := .tuple #[.agg #[.int .i64 2, .int .i64 d.toNat, .int .i64 0, .string ⟨#[]⟩, .bool false], .int .i64 2]) (by simp [results, Try.results15, go_sem]) rfl ⟨by rw [HRES.out]; simp, Ext.new1 _ _⟩
          · match r, hn with
            | [], _ =>
              have hres : next [255, d] = (noTok, 0) := by
                have : ¬ d.toNat < 250 := by omega
                simp [next, H255.out, this]
              have HRES := Lib.hid hres
              clear hres
              go_enter Try.func15, Try.ntmps15
              go_wp2
              refine bodyPost_ret (v := .tuple #[.agg #[.int .i64 0, .int .i64 0, .int .i64 0, .string ⟨#[]⟩, .bool false], .int .i64 0]) (by simp [results, Try.results15, go_sem]) rfl ⟨by rw [HRES.out]; simp [noTok], Ext.new1 _ _⟩
            | o :: r, hn =>
              have ho256 : (o.toNat : Int) < 256 := by have := o.toNat_lt; omega
              have hr3 : ((r.length : Int) + 1 + 1 + 1 == 0) = false := by rw [beq_eq_false_iff_ne]; omega
              have hr4 : ((r.length : Int) + 1 + 1 + 1 == 1) = false := by rw [beq_eq_false_iff_ne]; omega
              have hr5 : ((r.length : Int) + 1 + 1 + 1 == 2) = false := by rw [beq_eq_false_iff_ne]; omega
              clear hr1 hr2
              by_cases h251 : (250 : Int) < d.toNat
              · have hres : next (255 :: d :: o :: r) = (⟨3, d.toNat, o.toNat, [], false⟩, 3) := by
                  have h1 : ¬ d.toNat < 250 := by omega
                  have h2 : 250 < d.toNat := by omega
                  simp [next, H255.out, h1, h2]
                have HRES := Lib.hid hres
                clear hres
                go_enter Try.func15, Try.ntmps15
                go_wp2
                refine bodyPost_ret (v := .tuple #[.agg #[.int .i64 3, .int .i64 d.toNat, .int .i64 o.toNat, .string ⟨#[]⟩, .bool false], .int .i64 3]) (by simp [results, Try.results15, go_sem]) rfl ⟨by rw [HRES.out]; simp, Ext.new1 _ _⟩
              · have hd : d = 250 := UInt8.toNat_inj.1 (by show d.toNat = 250; omega)
                subst hd
                have HRES := Lib.hid (next_sub o r)
                go_enter Try.func15, Try.ntmps15
                go_wp2_with (go_at_call 37; refine (refSub (255 :: 250 :: o :: r) (by simp) hn _).mono ?_; rintro e w1 ⟨rfl, hb1⟩; have hB1 := (Blk.newL w 40 [.int .i64 0, .int .i64 0, .int .i64 0, .string ⟨#[]⟩, .bool false]).keep hb1; have r0 : w1.cell? ⟨w.heap.size, 0, none⟩ = some (.int .i64 0) := hB1.cell 0; have r1 : w1.cell? ⟨w.heap.size, 1, none⟩ = some (.int .i64 0) := hB1.cell 1; have r2 : w1.cell? ⟨w.heap.size, 2, none⟩ = some (.int .i64 0) := hB1.cell 2; have r3 : w1.cell? ⟨w.heap.size, 3, none⟩ = some (.string ⟨#[]⟩) := hB1.cell 3; have r4 : w1.cell? ⟨w.heap.size, 4, none⟩ = some (.bool false) := hB1.cell 4; have k0 := hB1.frozen 0; have k1 := hB1.frozen 1; have k2 := hB1.frozen 2; have k3 := hB1.frozen 3; have k4 := hB1.frozen 4)
                refine bodyPost_ret (v := .tuple #[.agg #[.int .i64 (subGo o [] 3 r).1.kind, .int .i64 (subGo o [] 3 r).1.code, .int .i64 (subGo o [] 3 r).1.opt, .string ⟨(subGo o [] 3 r).1.body.toArray⟩, .bool (subGo o [] 3 r).1.cut], .int .i64 (subGo o [] 3 r).2]) (by simp [results, Try.results15, go_sem, r0, r1, r2, r3, r4]) rfl ⟨by rw [HRES.out], ?_⟩
                exact ((((((Ext.new1 w _).trans hb1).setCell (Nat.le_refl _) _).setCell (Nat.le_refl _) _).setCell (Nat.le_refl _) _).setCell (Nat.le_refl _) _).setCell (Nat.le_refl _) _
    · have hres : next (c :: r) = (⟨1, c.toNat, 0, [], false⟩, 1) := by
        match r with
        | [] => simp [next, hc]
        | [d] => simp [next, hc]
        | d :: e :: r => simp [next, hc]
      have b2 := neByte2 hc (n := 255) (by decide)
      have hr1 : ((r.length : Int) + 1 == 0) = false := by rw [beq_eq_false_iff_ne]; omega
      have HRES := Lib.hid hres
      clear hres hc
      go_enter Try.func15, Try.ntmps15
      go_wp2
      refine bodyPost_ret (v := .tuple #[.agg #[.int .i64 1, .int .i64 c.toNat, .int .i64 0, .string ⟨#[]⟩, .bool false], .int .i64 1]) (by simp [results, Try.results15, go_sem]) rfl ⟨by rw [HRES.out]; simp, Ext.new1 _ _⟩

def rtokAll (ts : List Tok) : List Value := ts.flatMap rtokL
theorem Try.elemR : Elem Try.prog 28 40 (.agg #[.int .i64 0, .int .i64 0, .int .i64 0, .string ⟨#[]⟩, .bool false]) 5 48 := ⟨Try.underlying28, by kernel_rfl, rfl, by omega⟩
end Go.Proofs.Ytbipkbpcjkgohaa
