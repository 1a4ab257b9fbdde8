/- Signs of base 16; escapes, as the code reads them. -/
import Derived.Test.YthjnbpfbhmfopaaDoorCl17
import Derived.Test.YthjnbpfbhmfopaaDoorCl15
import Derived.Test.YthjnbpfbhmfopaaDoorErrC
namespace Go.Proofs.YthjnbpfbhmfopaaDoor
open Go Go.RowKit
attribute [local irreducible] wd

theorem digV_of (c : Nat) : digV c = if 48 ≤ c ∧ c ≤ 57 then (c : Int) - 48 else if 97 ≤ c ∧ c ≤ 102 then (c : Int) - 87 else if 65 ≤ c ∧ c ≤ 70 then (c : Int) - 55 else -1 := by
  unfold digV digO isFig
  by_cases h1 : 48 ≤ c ∧ c ≤ 57
  · rw [if_pos h1]; simp [h1]; omega
  · rw [if_neg h1]
    by_cases h2 : 97 ≤ c ∧ c ≤ 102
    · rw [if_pos h2]
      have : ¬ c ≤ 57 := by omega
      simp [h2, this]; omega
    · rw [if_neg h2]
      by_cases h3 : 65 ≤ c ∧ c ≤ 70
      · rw [if_pos h3]
        have a1 : ¬ c ≤ 57 := by omega
        have a2 : ¬ 97 ≤ c := by omega
        simp [h3, a1, a2]; omega
      · rw [if_neg h3]
        have a1 : (decide (48 ≤ c) && decide (c ≤ 57)) = false := by simp; omega
        have a2 : (decide (97 ≤ c) && decide (c ≤ 102)) = false := by simp; omega
        have a3 : (decide (65 ≤ c) && decide (c ≤ 70)) = false := by simp; omega
        simp [a1, a2, a3]

set_option linter.unusedSimpArgs false in
set_option maxRecDepth 20000 in
theorem clDigit (c : Nat) (hc : c < 256) (w : World) :
    Calls Tryd.prog 90 #[.int .u8 (c : Nat)] w fun e w' => e = .returned (.int .i64 (digV c)) ∧ w' = w := by
  rw [digV_of]
  have hf : isFig c = (decide (48 ≤ c) && decide (c ≤ 57)) := rfl
  have hr : (48 ≤ c ∧ c ≤ 57) ∨ (c < 48) ∨ (58 ≤ c ∧ c ≤ 64) ∨ (65 ≤ c ∧ c ≤ 70) ∨ (71 ≤ c ∧ c ≤ 96) ∨ (97 ≤ c ∧ c ≤ 102) ∨ 103 ≤ c := by omega
  rcases hr with h | h | h | h | h | h | h
  focus
    have hF : isFig c = true := by rw [hf]; simp [h]
    have hw : IntKind.u8.wrap ((c : Int) - 48) = (c : Int) - 48 := by rw [IntKind.wrap_u8]; omega
    rw [if_pos h]
    clear hf h
    go_enter Tryd.func90, Tryd.ntmps90
    go_wp2_with (go_at_call 75; refine (clFigure c hc _).mono ?_; rintro e w1 ⟨rfl, rfl⟩; rw [hF])
    go_ret
    exact ⟨by simp, rfl⟩
  all_goals
    have hF : isFig c = false := by rw [hf]; simp; omega
    (try have g1 : (97 : Int) ≤ (c : Int) := by omega)
    (try have g1 : ¬ (97 : Int) ≤ (c : Int) := by omega)
    (try have g2 : (c : Int) ≤ (102 : Int) := by omega)
    (try have g2 : ¬ (c : Int) ≤ (102 : Int) := by omega)
    (try have g3 : (65 : Int) ≤ (c : Int) := by omega)
    (try have g3 : ¬ (65 : Int) ≤ (c : Int) := by omega)
    (try have g4 : (c : Int) ≤ (70 : Int) := by omega)
    (try have g4 : ¬ (c : Int) ≤ (70 : Int) := by omega)
    (try have hw : IntKind.u8.wrap ((c : Int) - 97) = (c : Int) - 97 := by rw [IntKind.wrap_u8]; omega)
    (try have hw : IntKind.u8.wrap ((c : Int) - 65) = (c : Int) - 65 := by rw [IntKind.wrap_u8]; omega)
    have hv : (if 48 ≤ c ∧ c ≤ 57 then (c : Int) - 48 else if 97 ≤ c ∧ c ≤ 102 then (c : Int) - 87 else if 65 ≤ c ∧ c ≤ 70 then (c : Int) - 55 else -1) = (if (97 : Int) ≤ c ∧ (c : Int) ≤ 102 then (c : Int) - 97 + 10 else if (65 : Int) ≤ c ∧ (c : Int) ≤ 70 then (c : Int) - 65 + 10 else -1) := by
      (repeat' split) <;> omega
    rw [hv]
    clear hf h hv
    go_enter Tryd.func90, Tryd.ntmps90
    go_wp2_with (go_at_call 75; refine (clFigure c hc _).mono ?_; rintro e w1 ⟨rfl, rfl⟩; rw [hF])
    go_ret
    exact ⟨by simp [g1, g2, g3, g4], rfl⟩

/-- An error by its number. -/
def ev (E : Nat → Addr) : Nat → Value
  | 0 => .nilIface
  | k + 1 => errV E k
def sgV (E : Nat → Addr) (s : Sg) : Value := .tuple #[sp s.set, .bool s.one, .int .i64 (s.size : Nat), ev E s.err]
theorem load_sp {w : World} {g : Nat} {p : Nat → Bool} (h : SB w g p) : (loadVar 25 ⟨g, 0, none⟩).run Tryd.prog w = .ok (sp p) w :=
  run_loadVar_row w g 25 25 _ (0, 0) _ h Tryd.underlying25 rfl (by kernel_rfl)
theorem results_sp4 {fn : Func} {p a b c : Tmp} (h : fn.results = #[.cell p 25, .tmp a, .tmp b, .tmp c]) {tmps : Array Value} {w : World} {g : Nat} {q : Nat → Bool} {va vb vc : Value}
    (hp : tmps.getD p undef = .pointer (some ⟨g, 0, none⟩)) (hg : SB w g q) (ha : tmps.getD a undef = va) (hb : tmps.getD b undef = vb) (hc : tmps.getD c undef = vc) : (results fn tmps).run Tryd.prog w = .ok (.tuple #[sp q, va, vb, vc]) w := by
  have hp' : tmps[p]?.getD undef = .pointer (some ⟨g, 0, none⟩) := by simpa using hp
  subst ha hb hc
  simp [results, h, hp', asAddr, load_sp hg]
theorem results_sp3 {fn : Func} {p a b : Tmp} (h : fn.results = #[.cell p 25, .tmp a, .tmp b]) {tmps : Array Value} {w : World} {g : Nat} {q : Nat → Bool} {va vb : Value}
    (hp : tmps.getD p undef = .pointer (some ⟨g, 0, none⟩)) (hg : SB w g q) (ha : tmps.getD a undef = va) (hb : tmps.getD b undef = vb) : (results fn tmps).run Tryd.prog w = .ok (.tuple #[sp q, va, vb]) w := by
  have hp' : tmps[p]?.getD undef = .pointer (some ⟨g, 0, none⟩) := by simpa using hp
  subst ha hb
  simp [results, h, hp', asAddr, load_sp hg]
theorem results_sp2 {fn : Func} {p a : Tmp} (h : fn.results = #[.cell p 25, .tmp a]) {tmps : Array Value} {w : World} {g : Nat} {q : Nat → Bool} {va : Value}
    (hp : tmps.getD p undef = .pointer (some ⟨g, 0, none⟩)) (hg : SB w g q) (ha : tmps.getD a undef = va) : (results fn tmps).run Tryd.prog w = .ok (.tuple #[sp q, va]) w := by
  have hp' : tmps[p]?.getD undef = .pointer (some ⟨g, 0, none⟩) := by simpa using hp
  subst ha
  simp [results, h, hp', asAddr, load_sp hg]

theorem hex_or : ∀ h d : Fin 16, bits .or .i64 (IntKind.i64.wrap ((h.1 : Int) * 16)) (d.1 : Int) = (h.1 : Int) * 16 + (d.1 : Int) := by decide +kernel
def CodedAt (l : List UInt8) : Nat → Nat → Prop
  | 2, h => h = 0
  | 3, h => ∃ a d, l[2]? = some a ∧ digO a.toNat = some d ∧ h = d
  | 4, h => ∃ a d b e, l[2]? = some a ∧ digO a.toNat = some d ∧ l[3]? = some b ∧ digO b.toNat = some e ∧ h = 16 * d + e
  | _, _ => False
theorem CodedAt.lt {l : List UInt8} {i h : Nat} (k : CodedAt l i h) (hi : i ≤ 3) : h < 16 := by
  match i, k with
  | 2, k => have k : h = 0 := k; omega
  | 3, k =>
    obtain ⟨a, d, _, h2, rfl⟩ := k
    exact digO_lt (UInt8.toNat_lt a) h2

set_option maxHeartbeats 2000000 in
set_option maxRecDepth 20000 in
theorem clCoded (E : Nat → Addr) (l : List UInt8) (_ : l.length ≤ 10000) (w : World) (hE : ErrC [2, 4] w E) :
    Calls Tryd.prog 87 #[.string ⟨l.toArray⟩] w fun e w' => e = .returned (sgV E (codedS l)) ∧ Ext w w' := by
  have hz0 : 4 < w.heap.size := block_lt_of_cell (hE.cell (i := 2) (by simp) rfl)
  have hz1 : 1 < w.heap.size := block_lt_of_cell (hE.cell (i := 4) (by simp) rfl)
  have HE := Lib.hid hE
  clear hE
  go_enter Tryd.func87, Tryd.ntmps87
  go_wp2
  generalize hgz : w.heap.size = gz
  rw [hgz] at hz0 hz1
  have n0 : ¬ 4 = gz := by omega
  have n1 : ¬ 1 = gz := by omega
  have n2 : ¬ gz = 4 := by omega
  have n3 : ¬ gz = 1 := by omega
  go_loopw [6, 7] (fun hv iv wr => ∃ i h : Nat, 2 ≤ i ∧ i ≤ 4 ∧ iv = .int .i64 i ∧ hv = .int .i64 h ∧ CodedAt l i h ∧ SB wr gz (fun _ => false) ∧ Ext w wr) (fun _ iv _ => 4 - (intOf iv).toNat)
  case atStart => exact ⟨2, 0, by omega, by omega, rfl, rfl, rfl, SB.zero hgz, by (first | exact Ext.refl _ | (unfold Ext; repeat (first | exact Below.refl _ _ | assumption | refine Below.alloc ?_ (by first | (simp; done) | (simp; omega) | omega) _ | refine Below.setCell ?_ (by first | (simp; done) | (simp; omega) | omega) _ | refine Below.drew ?_)))⟩
  case round =>
    obtain ⟨i, h, hi2, hi4, rfl, rfl, hC, hS, hx⟩ := hrel
    have hE1 := HE.out.keep hx
    have c0 : wr.cell? ⟨4, 0, none⟩ = some (errV E 2) := hE1.cell (i := 2) (by simp) rfl
    have c1 : wr.cell? ⟨1, 0, none⟩ = some (errV E 4) := hE1.cell (i := 4) (by simp) rfl
    by_cases hlt : i < 4
    · have hlt' : (i : Int) < 4 := by omega
      by_cases hs : l.length ≤ i
      · have hs' : (l.length : Int) ≤ (i : Int) := by omega
        have hres : codedS l = .bad 3 := by
          unfold codedS
          have hi' : i = 2 ∨ i = 3 := by omega
          rcases hi' with rfl | rfl
          · rw [List.getElem?_eq_none hs]
          · obtain ⟨a, d, h1, h2, _⟩ := hC
            rw [h1]
            simp only [h2]
            rw [List.getElem?_eq_none hs]
        have HR := Lib.hid hres
        clear hres
        obtain ⟨y0, y1, y2, y3⟩ := hS.cells
        have f0 := hS.frozen 0
        have f1 := hS.frozen 1
        have f2 := hS.frozen 2
        have f3 := hS.frozen 3
        have HS := Lib.hid hS
        clear hS hC hE1
        go_wp2
        go_region
        all_goals go_wp2
        all_goals exact bodyPost_ret (v := .tuple #[sp (fun _ => false), .bool false, .int .i64 0, errV E 2]) (results_sp4 rfl rfl HS.out.zset.drew rfl rfl rfl) rfl ⟨by rw [HR.out]; rfl, by (first | exact Ext.refl _ | (unfold Ext; repeat (first | exact Below.refl _ _ | assumption | refine Below.alloc ?_ (by first | (simp; done) | (simp; omega) | omega) _ | refine Below.setCell ?_ (by first | (simp; done) | (simp; omega) | omega) _ | refine Below.drew ?_)))⟩
      · have hli : i < l.length := by omega
        have hs' : ¬ (l.length : Int) ≤ (i : Int) := by omega
        have hli' : (i : Int) < (l.length : Int) := by omega
        obtain ⟨a, ha⟩ : ∃ a, l[i]'hli = a := ⟨_, rfl⟩
        have ha2 : l[i]? = some a := by rw [List.getElem?_eq_getElem hli, ha]
        have ha6 := UInt8.toNat_lt a
        have hi' : i = 2 ∨ i = 3 := by omega
        cases hd : digO a.toNat with
        | none =>
          have hres : codedS l = .bad 5 := by
            unfold codedS
            rcases hi' with rfl | rfl
            · rw [ha2]; simp only [hd]
            · obtain ⟨a', d', h1, h2, _⟩ := hC
              rw [h1]
              simp only [h2, ha2, hd]
          have hv : digV a.toNat = -1 := by unfold digV; rw [hd]
          have HV := Lib.hid hv
          have HR := Lib.hid hres
          obtain ⟨y0, y1, y2, y3⟩ := hS.cells
          have f0 := hS.frozen 0
          have f1 := hS.frozen 1
          have f2 := hS.frozen 2
          have f3 := hS.frozen 3
          have HS := Lib.hid hS
          clear hS hC hE1 hres hv hd ha2 hi'
          go_wp2_with (go_at_call 90; refine (clDigit a.toNat ha6 _).mono ?_; rintro e w1 ⟨rfl, rfl⟩; rw [HV.out])
          go_region
          all_goals go_wp2
          all_goals exact bodyPost_ret (v := .tuple #[sp (fun _ => false), .bool false, .int .i64 0, errV E 4]) (results_sp4 rfl rfl HS.out.zset.drew rfl rfl rfl) rfl ⟨by rw [HR.out]; rfl, by (first | exact Ext.refl _ | (unfold Ext; repeat (first | exact Below.refl _ _ | assumption | refine Below.alloc ?_ (by first | (simp; done) | (simp; omega) | omega) _ | refine Below.setCell ?_ (by first | (simp; done) | (simp; omega) | omega) _ | refine Below.drew ?_)))⟩
        | some d =>
          have hd6 := digO_lt ha6 hd
          have hh6 := hC.lt (by omega)
          have hv : digV a.toNat = (d : Int) := by unfold digV; rw [hd]
          have hn : CodedAt l (i + 1) (h * 16 + d) := by
            rcases hi' with rfl | rfl
            · have hC : h = 0 := hC
              subst hC
              exact ⟨a, d, ha2, hd, by omega⟩
            · obtain ⟨a', d', h1, h2, rfl⟩ := hC
              exact ⟨a', h, a, d, h1, h2, ha2, hd, by omega⟩
          have ho : bits .or .i64 (IntKind.i64.wrap ((h : Int) * 16)) (d : Int) = (h : Int) * 16 + (d : Int) := hex_or ⟨h, hh6⟩ ⟨d, hd6⟩
          have hw16 : IntKind.i64.wrap ((h : Int) * 16) = (h : Int) * 16 := wrap_id (by omega) (by omega)
          rw [hw16] at ho
          have hd0 : ¬ (d : Int) < 0 := by omega
          have HV := Lib.hid hv
          have HN := Lib.hid hn
          have HS := Lib.hid hS
          clear hS hC hE1 hv hd ha2 hi' hn
          go_wp2_with (go_at_call 90; refine (clDigit a.toNat ha6 _).mono ?_; rintro e w1 ⟨rfl, rfl⟩; rw [HV.out])
          go_roundw
          case rel => exact ⟨i + 1, h * 16 + d, by omega, by omega, by go_num, by go_num, HN.out, HS.out, hx⟩
          case measure => simp [intOf]; omega
    · obtain rfl : i = 4 := by omega
      obtain ⟨a, d, b, e, h1, h2, h3, h4, rfl⟩ := hC
      have hres : codedS l = .byte (16 * d + e) 4 := by
        unfold codedS
        simp only [h1, h2, h3, h4]
      have hd6 := digO_lt (UInt8.toNat_lt a) h2
      have he6 := digO_lt (UInt8.toNat_lt b) h4
      have hm6 : 16 * d + e < 256 := by omega
      generalize 16 * d + e = m at *
      have hu8 : IntKind.u8.wrap (m : Int) = (m : Int) := by rw [IntKind.wrap_u8]; omega
      have HR := Lib.hid hres
      have HS := Lib.hid hS
      clear hS hE1 hres h1 h2 h3 h4
      go_wp2_with (go_at_call 81; refine (setOne m hm6 _).mono ?_; rintro e w1 ⟨rfl, hx1⟩; have hS1 := HS.out.keep hx1; obtain ⟨y0, y1, y2, y3⟩ := hS1.cells; have f0 := hS1.frozen 0; have f1 := hS1.frozen 1; have f2 := hS1.frozen 2; have f3 := hS1.frozen 3; have HS1 := Lib.hid hS1; clear hS1; unfold sp)
      have hxx := hx.trans hx1
      exact bodyPost_ret (v := .tuple #[sp (fun j => j == m), .bool true, .int .i64 4, .nilIface]) (results_sp4 rfl rfl (HS1.out.set4 (fun j => j == m)) rfl rfl rfl) rfl ⟨by rw [HR.out]; rfl, by (first | exact Ext.refl _ | (unfold Ext; repeat (first | exact Below.refl _ _ | assumption | refine Below.alloc ?_ (by first | (simp; done) | (simp; omega) | omega) _ | refine Below.setCell ?_ (by first | (simp; done) | (simp; omega) | omega) _ | refine Below.drew ?_)))⟩
end Go.Proofs.YthjnbpfbhmfopaaDoor
