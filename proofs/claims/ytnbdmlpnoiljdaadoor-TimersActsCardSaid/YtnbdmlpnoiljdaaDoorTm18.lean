/- The law TimersActs walked. -/
import Derived.Test.YtnbdmlpnoiljdaaDoorTm17
import Derived.Test.YtnbdmlpnoiljdaaDoorDagP
import Derived.Test.YtnbdmlpnoiljdaaDoorTactsR
namespace Go.Proofs.YtnbdmlpnoiljdaaDoor
open Go Go.RowKit

set_option maxHeartbeats 8000000 in
set_option maxRecDepth 100000 in
theorem lawTActs (E : Nat → Addr) (xs : List TAct) (A : Option Addr) (n c : Nat) (w : World) (HE : Errs w E) (h : TActs w A n xs ∧ ∀ x ∈ xs, -9223372036854775808 ≤ x.n ∧ x.n ≤ 9223372036854775807) :
    Calls Tryd.prog 8 #[.slice A n c] w fun e w' => e = .returned (.bool true) ∧ Below w.heap.size w w' := by
  have HR := Lib.hid h.1
  have HL := Lib.hid h.1.1
  have HN := Lib.hid h.2
  have HEE := Lib.hid HE
  clear h HE
  go_enter Tryd.func8, Tryd.ntmps8
  by_cases hn60 : (60 : Int) < n
  · go_wp2_with (go_at_call 36; refine (tmAlive _).mono ?_; rintro e w1 ⟨rfl, hx1⟩)
    go_ret
    exact ⟨rfl, hx1⟩
  go_wp2_with (first
    | (go_at_call 37; go_loud (refine (tmNew w1).mono ?_); rintro e w2 ⟨rfl, hT2, hx2⟩)
    | (go_at_call 36; refine (tmAlive _).mono ?_; rintro e w1 ⟨rfl, hx1⟩))
  have hT3 := hT2.keep (Ext.new1 w2 (.cells #[.int .i64 0, .slice none 0 0] 83))
  have hM3 : ModAt (w2.alloc (.cells #[.int .i64 0, .slice none 0 0] 83)) w1.heap.size w2.heap.size (.slice none 0 0) 0 [] := ⟨Blk.newL w2 _ [.int .i64 0, .slice none 0 0], RlAt.nil _ _, hx2.size⟩
  have hb3 : Below w1.heap.size w1 (w2.alloc (.cells #[.int .i64 0, .slice none 0 0] 83)) := Ext.trans hx2 (Ext.new1 _ _)
  have HFIN := Lib.hid (show ∀ w', Below w1.heap.size w1 w' → Below w.heap.size w w' from fun w' hb => hx1.trans hb)
  have HA1 := Lib.hid (show ∀ w', Below w1.heap.size w1 w' → TActs w' A n xs from fun w' hb => (HR.out.keep hx1).keep hb)
  have HE1 := Lib.hid (show ∀ w', Below w1.heap.size w1 w' → Errs w' E from fun w' hb => (HEE.out.keep hx1).keep hb)
  generalize w2.alloc (.cells #[.int .i64 0, .slice none 0 0] 83) = w3 at *
  have hmt : w1.heap.size ≠ w2.heap.size := by have := hT2.blk.lt; omega
  clear hT2 hx2 hx1
  generalize w1.heap.size = tb at *
  generalize w2.heap.size = mb at *
  go_loopw [33] (fun i wr => ∃ (k : Nat) (T : Int) (L M : List (Int × Int)) (tv mv : Value), k ≤ n ∧ i = .int .i64 k ∧ TmAt wr tb tb tv T L ∧ ModAt wr tb mb mv T M ∧ Below tb w1 wr ∧ M.Perm L ∧ 0 ≤ T ∧ T ≤ 1099511627776) (fun i _ => n - (intOf i).toNat)
  case atStart => exact ⟨0, 0, [], [], _, _, Nat.zero_le _, rfl, hT3, hM3, hb3, List.Perm.refl _, by omega, by omega⟩
  case round =>
    clear hT3 hM3 hb3
    obtain ⟨k, T, L, M, tv, mv, hk, rfl, hT, hM, hb, hp, hT0, hT9⟩ := hrel
    by_cases hlt : k < n
    · obtain ⟨⟨kd, key, m⟩, hx⟩ : ∃ x, xs[k]? = some x := ⟨_, List.getElem?_eq_getElem (by have := HL.out; omega)⟩
      have hm := HN.out _ (List.mem_of_getElem? hx)
      obtain ⟨b, o, rfl, h2, c3, c4, c5⟩ := (HA1.out wr hb).2 k _ hx
      simp only at c3 c4 c5 hm
      have HP := Lib.hid hp
      have HML := Lib.hid (show M.length ≤ 100 by have := hp.length_eq; have := hT.len; omega)
      have hml := hM.blk.lt
      have htl := hT.blk.lt
      have hba : Below tb w1 (wr.alloc (.cells #[.int .i64 kd, .int .i64 key, .int .i64 m] 72)) := hb.trans ((Ext.new1 _ _).mono (by omega))
      have hTa := hT.keep (Ext.new1 wr (.cells #[.int .i64 kd, .int .i64 key, .int .i64 m] 72))
      have hMa := hM.keep (Ext.new1 wr (.cells #[.int .i64 kd, .int .i64 key, .int .i64 m] 72))
      have hact := Blk.newL wr 72 [.int .i64 kd, .int .i64 key, .int .i64 m]
      have hsa : wr.heap.size < (wr.alloc (.cells #[.int .i64 kd, .int .i64 key, .int .i64 m] 72)).heap.size := by simp
      obtain ⟨Y, hYd⟩ : ∃ Y, tb :: tv.ownBlock.toList = Y := ⟨_, rfl⟩
      have hYl : ∀ y ∈ Y, y < wr.heap.size := fun y hy => by
        rw [← hYd] at hy
        rcases List.mem_cons.1 hy with h | h
        · omega
        · exact (hT.own.lt (by simpa using h)).2
      have hYB : ∀ y ∈ Y ++ [mb], tb ≤ y := fun y hy => by
        rcases List.mem_append.1 hy with hy | hy
        · rw [← hYd] at hy
          rcases List.mem_cons.1 hy with h | h
          · omega
          · exact (hT.own.lt (by simpa using h)).1
        · simp at hy
          subst hy
          exact hM.low
      have htY : tb ∈ Y := by rw [← hYd]; simp
      have hvY : ∀ k, tv.ownBlock = some k → k ∈ Y := fun k hk => by rw [← hYd]; simp [hk]
      have hmY : mb ∉ Y := fun hm => by
        rw [← hYd] at hm
        rcases List.mem_cons.1 hm with h | h
        · exact hmt h.symm
        · exact hT.own.apart hM.blk (by decide +kernel) (by simpa using h)
      have huY : ∀ k, mv.ownBlock = some k → k ∉ Y := fun k hk hm => by
        rw [← hYd] at hm
        rcases List.mem_cons.1 hm with h | h
        · subst h
          exact row_apart hM.own hT.blk (by decide +kernel) hk
        · exact rows_apart hM.own hT.own (by decide +kernel) k hk (by simpa using h)
      have hmx : mb < wr.heap.size := hml
      have hxY : wr.heap.size ∉ Y ++ [mb] := fun hm => by
        rcases List.mem_append.1 hm with h | h
        · have := hYl _ h; omega
        · simp at h; omega
      have HYD := Lib.hid hYd
      have hs1 := hT.srt
      have hd1 := hT.keys
      have h16 := hT.len
      clear hYd hx hb hT hM
      by_cases hk0 : kd = 0
      · subst hk0
        obtain ⟨z, hz0, hz1, hz2, hz3⟩ := set_agree (E := E) (now := T) hp h16 key m
        have HZ0 := Lib.hid hz0
        have HZ1 := Lib.hid hz1
        have HZ2 := Lib.hid hz2
        have HZ3 := Lib.hid hz3
        have HS1 := Lib.hid hs1
        clear hz0 hz1 hz2 hz3 hp hs1 hd1
        go_wp2
        have hT6 := hTa
        have hM6 := hMa
        have hb6 := hba
        have hact6 := hact
        generalize wr.alloc (.cells #[.int .i64 0, .int .i64 key, .int .i64 m] 72) = w6 at *
        generalize wr.heap.size = xb at *
        have HX1 := Lib.hid (show ∀ wx, Chg (Y ++ [mb]) w6 wx → wx.cell? ⟨xb, 1, none⟩ = some (.int .i64 key) from fun wx hE => (hact6.chg hE hxY).cell 1)
        have HX2 := Lib.hid (show ∀ wx, Chg (Y ++ [mb]) w6 wx → wx.cell? ⟨xb, 2, none⟩ = some (.int .i64 m) from fun wx hE => (hact6.chg hE hxY).cell 2)
        have HBL := Lib.hid (show ∀ wx, Chg (Y ++ [mb]) w6 wx → Below tb w1 wx from fun wx hE => hE.below hb6 (by omega) (fun x hx => hYB x hx))
        have HER := Lib.hid (show ∀ wx, Chg (Y ++ [mb]) w6 wx → Errs wx E from fun wx hE => HE1.out wx (HBL.out wx hE))
        have HXB := Lib.hid (show ∀ wx, Chg (Y ++ [mb]) w6 wx → Blk wx xb 72 [.int .i64 0, .int .i64 key, .int .i64 m] from fun wx hE => hact6.chg hE hxY)
        clear hact hact6 hTa hMa hba
        refine wp_region_dagP (X := fun j => if j = 5 then Y else if j = 12 then [mb] else []) (XX := (Y ++ [mb])) (late := fun j => if j = 5 then [6, 13] else if j = 12 then [13] else []) (Pre := fun i w => (i = 5 → TmAt w tb tb tv T L) ∧ (i = 12 → ModAt w tb mb mv T M) ∧ True) (w0 := w6) (Φ := fun i v w => match i with | 0 => (v = .pointer (some ⟨tb, 0, none⟩)) | 1 => (v = .pointer (some ⟨xb, 1, none⟩)) | 2 => (v = .int .i64 key) | 3 => (v = .pointer (some ⟨xb, 2, none⟩)) | 4 => (v = .int .i64 m) | 5 => (v = errT E z ∧ StT w tb tb Y xb T (fun L' => ∃ u, SetAns E T key m L L' u)) | 6 => (v = .int .i64 z) | 7 => (v = .pointer (some ⟨mb, 0, none⟩)) | 8 => (v = .pointer (some ⟨xb, 1, none⟩)) | 9 => (v = .int .i64 key) | 10 => (v = .pointer (some ⟨xb, 2, none⟩)) | 11 => (v = .int .i64 m) | 12 => (v = .int .i64 z ∧ StM w tb mb Y T (fun M' => ∃ c', SetMod T key m M M' c')) | 13 => (v = .bool false) | _ => True) (show Tryd.prog.follows .mixedOrders = true from Checked.mixed Tryd.checked) 161 rfl (by decide +kernel) ?_ ?_ ?_ ?_ ?_ ⟨?_, ?_, ?_, ?_, ?_, ?_, ?_, ?_, ?_, ?_, ?_, ?_, ?_, ?_, trivial⟩ ?_
        · intro j x hx
          by_cases hj5 : j = 5
          · subst hj5; have hx' : x ∈ Y := hx; first | exact hx' | (rw [List.mem_append]; first | exact .inl hx' | exact .inr hx')
          by_cases hj12 : j = 12
          · subst hj12; have hx' : x ∈ [mb] := hx; first | exact hx' | (rw [List.mem_append]; first | exact .inl hx' | exact .inr hx')
          simp [hj5, hj12] at hx
        · intro j
          by_cases hj5 : j = 5
          · subst hj5; decide +kernel
          by_cases hj12 : j = 12
          · subst hj12; decide +kernel
          simp [hj5, hj12, lateOk]
        · intro i
          exact ⟨fun _ => hT6.keep ((Below.refl _ _).drew), fun _ => hM6.keep ((Below.refl _ _).drew), trivial⟩
        · intro i j w w' hij h hc
          refine ⟨?_, ?_, trivial⟩
          · intro hi
            subst hi
            have hp := h.1 rfl
            have hc' : Chg ([mb]) w w' := hc.mono (fun x hx => by
              by_cases hj5 : j = 5
              · exact absurd hj5 (by omega)
              by_cases hj12 : j = 12
              · subst hj12; have hx' : x ∈ [mb] := hx; first | exact hx' | (rw [List.mem_append]; first | exact .inl hx' | exact .inr hx')
              simp [hj5, hj12] at hx)
            exact hp.chg hc' (fun hm => hmY (by simp at hm; rw [← hm]; exact htY)) (fun k hk hm => hmY (by simp at hm; rw [← hm]; exact hvY k hk))
          · intro hi
            subst hi
            have hp := h.2.1 rfl
            have hc' : Chg (Y) w w' := hc.mono (fun x hx => by
              by_cases hj5 : j = 5
              · subst hj5; have hx' : x ∈ Y := hx; first | exact hx' | (rw [List.mem_append]; first | exact .inl hx' | exact .inr hx')
              by_cases hj12 : j = 12
              · exact absurd hj12 (by omega)
              simp [hj5, hj12] at hx)
            exact hp.chg hc' hmY huY
        · intro i j v w w' hij hla h hc
          by_cases hj5 : j = 5
          · subst hj5
            have hc' : Chg Y w w' := hc
            match i, hij, hla, h with
            | 0, _, _, h => exact h
            | 1, _, _, h => exact h
            | 2, _, _, h => exact h
            | 3, _, _, h => exact h
            | 4, _, _, h => exact h
            | 5, hij, _, _ => exact absurd rfl hij
            | 6, _, _, h => exact h
            | 7, _, _, h => exact h
            | 8, _, _, h => exact h
            | 9, _, _, h => exact h
            | 10, _, _, h => exact h
            | 11, _, _, h => exact h
            | 12, _, _, h => exact ⟨h.1, h.2.md hmY hc'⟩
            | 13, _, _, h => exact h
            | _ + 14, _, _, _ => trivial
          by_cases hj12 : j = 12
          · subst hj12
            have hc' : Chg [mb] w w' := hc
            match i, hij, hla, h with
            | 0, _, _, h => exact h
            | 1, _, _, h => exact h
            | 2, _, _, h => exact h
            | 3, _, _, h => exact h
            | 4, _, _, h => exact h
            | 5, _, _, h => exact ⟨h.1, h.2.st hmY hmx htY hc'⟩
            | 6, _, _, h => exact h
            | 7, _, _, h => exact h
            | 8, _, _, h => exact h
            | 9, _, _, h => exact h
            | 10, _, _, h => exact h
            | 11, _, _, h => exact h
            | 12, hij, _, _ => exact absurd rfl hij
            | 13, _, _, h => exact h
            | _ + 14, _, _, _ => trivial
          have hc0 : Chg [] w w' := by simpa [hj5, hj12] using hc
          have hE : Ext w w' := hc0.ext (by simp)
          match i, h with
          | 0, h => exact h
          | 1, h => exact h
          | 2, h => exact h
          | 3, h => exact h
          | 4, h => exact h
          | 5, h => exact ⟨h.1, h.2.keep hE⟩
          | 6, h => exact h
          | 7, h => exact h
          | 8, h => exact h
          | 9, h => exact h
          | 10, h => exact h
          | 11, h => exact h
          | 12, h => exact ⟨h.1, h.2.keep hE⟩
          | 13, h => exact h
          | _ + 14, _ => trivial
        · -- 0: t41 := move t3 
          intro ac wx hE hP hsz hdf h
          have e3 : ac.tmps[3]? = some (.pointer (some ⟨tb, 0, none⟩)) := by obtain ⟨v, h1, h2⟩ := h 3 (by decide +kernel); exact h1.trans (h2.symm.trans rfl)
          clear h hsz hdf
          go_wp2
          exact ⟨_, rfl, rfl, Chg.refl _ _⟩
        · -- 1: t42 := fieldAddr 72 t6 1 
          intro ac wx hE hP hsz hdf h
          have e6 : ac.tmps[6]? = some (.pointer (some ⟨xb, 0, none⟩)) := by obtain ⟨v, h1, h2⟩ := h 6 (by decide +kernel); exact h1.trans (h2.symm.trans rfl)
          clear h hsz hdf
          go_wp2
          exact ⟨_, rfl, rfl, Chg.refl _ _⟩
        · -- 2: t43 := load 3 t42 
          intro ac wx hE hP hsz hdf h
          have e42 : ac.tmps[42]? = some (.pointer (some ⟨xb, 1, none⟩)) := by obtain ⟨v, h1, h2⟩ := h 42 (by decide +kernel); rw [h1]; exact congrArg some h2
          clear h hsz hdf
          have x1 := HX1.out wx hE
          go_wp2
          exact ⟨_, rfl, rfl, Chg.refl _ _⟩
        · -- 3: t44 := fieldAddr 72 t6 2 
          intro ac wx hE hP hsz hdf h
          have e6 : ac.tmps[6]? = some (.pointer (some ⟨xb, 0, none⟩)) := by obtain ⟨v, h1, h2⟩ := h 6 (by decide +kernel); exact h1.trans (h2.symm.trans rfl)
          clear h hsz hdf
          go_wp2
          exact ⟨_, rfl, rfl, Chg.refl _ _⟩
        · -- 4: t45 := load 3 t44 
          intro ac wx hE hP hsz hdf h
          have e44 : ac.tmps[44]? = some (.pointer (some ⟨xb, 2, none⟩)) := by obtain ⟨v, h1, h2⟩ := h 44 (by decide +kernel); rw [h1]; exact congrArg some h2
          clear h hsz hdf
          have x2 := HX2.out wx hE
          go_wp2
          exact ⟨_, rfl, rfl, Chg.refl _ _⟩
        · -- 5: t46 := call { value (Operand.func 38), args := #[t41, t43, t45], argTypes := #[69, 3, 3] } 
          intro ac wx hE hP hsz hdf h
          have e41 : ac.tmps[41]? = some (.pointer (some ⟨tb, 0, none⟩)) := by obtain ⟨v, h1, h2⟩ := h 41 (by decide +kernel); rw [h1]; exact congrArg some h2
          have e43 : ac.tmps[43]? = some (.int .i64 key) := by obtain ⟨v, h1, h2⟩ := h 43 (by decide +kernel); rw [h1]; exact congrArg some h2
          have e45 : ac.tmps[45]? = some (.int .i64 m) := by obtain ⟨v, h1, h2⟩ := h 45 (by decide +kernel); rw [h1]; exact congrArg some h2
          clear h hsz hdf
          have hT2 := hP.1 rfl; have hsx := hE.size
          go_wp2_with ((go_at_call 38; go_loud (refine (regSet (xb := xb) hT2 HYD.out (by omega) ((HER.out wx hE).some [0, 1]) key m HZ1.out).mono ?_); rintro e w' ⟨rfl, hst3, hc3⟩))
          exact ⟨_, rfl, ⟨rfl, hst3⟩, hc3⟩
        · -- 6: t47 := call { value (Operand.func 18), args := #[t46], argTypes := #[35] } 
          intro ac wx hE hP hsz hdf h
          obtain ⟨e46, s46⟩ : ac.tmps[46]? = some (errT E z) ∧ (StT wx tb tb Y xb T (fun L' => ∃ u, SetAns E T key m L L' u)) := by obtain ⟨v, h1, h2, h3⟩ := h 46 (by decide +kernel); exact ⟨h1.trans (congrArg some h2), h3⟩
          clear h hsz hdf
          have hER := HER.out wx hE
          go_wp2_with ((go_at_call 18; go_loud (refine (numT E z wx hER (by have := HZ0.out; omega)).mono ?_); rintro e w' ⟨rfl, hx3⟩))
          exact ⟨_, rfl, rfl, .of_ext hx3⟩
        · -- 7: t48 := move t4 
          intro ac wx hE hP hsz hdf h
          have e4 : ac.tmps[4]? = some (.pointer (some ⟨mb, 0, none⟩)) := by obtain ⟨v, h1, h2⟩ := h 4 (by decide +kernel); exact h1.trans (h2.symm.trans rfl)
          clear h hsz hdf
          go_wp2
          exact ⟨_, rfl, rfl, Chg.refl _ _⟩
        · -- 8: t49 := fieldAddr 72 t6 1 
          intro ac wx hE hP hsz hdf h
          have e6 : ac.tmps[6]? = some (.pointer (some ⟨xb, 0, none⟩)) := by obtain ⟨v, h1, h2⟩ := h 6 (by decide +kernel); exact h1.trans (h2.symm.trans rfl)
          clear h hsz hdf
          go_wp2
          exact ⟨_, rfl, rfl, Chg.refl _ _⟩
        · -- 9: t50 := load 3 t49 
          intro ac wx hE hP hsz hdf h
          have e49 : ac.tmps[49]? = some (.pointer (some ⟨xb, 1, none⟩)) := by obtain ⟨v, h1, h2⟩ := h 49 (by decide +kernel); rw [h1]; exact congrArg some h2
          clear h hsz hdf
          have x1 := HX1.out wx hE
          go_wp2
          exact ⟨_, rfl, rfl, Chg.refl _ _⟩
        · -- 10: t51 := fieldAddr 72 t6 2 
          intro ac wx hE hP hsz hdf h
          have e6 : ac.tmps[6]? = some (.pointer (some ⟨xb, 0, none⟩)) := by obtain ⟨v, h1, h2⟩ := h 6 (by decide +kernel); exact h1.trans (h2.symm.trans rfl)
          clear h hsz hdf
          go_wp2
          exact ⟨_, rfl, rfl, Chg.refl _ _⟩
        · -- 11: t52 := load 3 t51 
          intro ac wx hE hP hsz hdf h
          have e51 : ac.tmps[51]? = some (.pointer (some ⟨xb, 2, none⟩)) := by obtain ⟨v, h1, h2⟩ := h 51 (by decide +kernel); rw [h1]; exact congrArg some h2
          clear h hsz hdf
          have x2 := HX2.out wx hE
          go_wp2
          exact ⟨_, rfl, rfl, Chg.refl _ _⟩
        · -- 12: t53 := call { value (Operand.func 44), args := #[t48, t50, t52], argTypes := #[80, 3, 3] } 
          intro ac wx hE hP hsz hdf h
          have e48 : ac.tmps[48]? = some (.pointer (some ⟨mb, 0, none⟩)) := by obtain ⟨v, h1, h2⟩ := h 48 (by decide +kernel); rw [h1]; exact congrArg some h2
          have e50 : ac.tmps[50]? = some (.int .i64 key) := by obtain ⟨v, h1, h2⟩ := h 50 (by decide +kernel); rw [h1]; exact congrArg some h2
          have e52 : ac.tmps[52]? = some (.int .i64 m) := by obtain ⟨v, h1, h2⟩ := h 52 (by decide +kernel); rw [h1]; exact congrArg some h2
          clear h hsz hdf
          have hM2 := hP.2.1 rfl; have hsx := hE.size
          go_wp2_with ((go_at_call 44; go_loud (refine (regMSet hM2 HML.out (fun y hy => by have := hYl y hy; omega) huY key m HZ2.out).mono ?_); rintro e w' ⟨rfl, hmd3, hc3⟩))
          exact ⟨_, rfl, ⟨rfl, hmd3⟩, hc3⟩
        · -- 13: t54 := binOp BinOp.neq 3 t47 t53 3 
          intro ac wx hE hP hsz hdf h
          have e47 : ac.tmps[47]? = some (.int .i64 z) := by obtain ⟨v, h1, h2⟩ := h 47 (by decide +kernel); rw [h1]; exact congrArg some h2
          obtain ⟨e53, s53⟩ : ac.tmps[53]? = some (.int .i64 z) ∧ (StM wx tb mb Y T (fun M' => ∃ c', SetMod T key m M M' c')) := by obtain ⟨v, h1, h2, h3⟩ := h 53 (by decide +kernel); exact ⟨h1.trans (congrArg some h2), h3⟩
          clear h hsz hdf
          go_wp2
          exact ⟨_, rfl, by simp, Chg.refl _ _⟩
        · intro ac w9 hE hsz hdf h hrest
          obtain ⟨v0, s0, g0⟩ := h 0 _ rfl
          have e0 := g0 41 rfl
          obtain rfl : v0 = .pointer (some ⟨tb, 0, none⟩) := s0
          obtain ⟨v1, s1, g1⟩ := h 1 _ rfl
          have e1 := g1 42 rfl
          obtain rfl : v1 = .pointer (some ⟨xb, 1, none⟩) := s1
          obtain ⟨v2, s2, g2⟩ := h 2 _ rfl
          have e2 := g2 43 rfl
          obtain rfl : v2 = .int .i64 key := s2
          obtain ⟨v3, s3, g3⟩ := h 3 _ rfl
          have e3 := g3 44 rfl
          obtain rfl : v3 = .pointer (some ⟨xb, 2, none⟩) := s3
          obtain ⟨v4, s4, g4⟩ := h 4 _ rfl
          have e4 := g4 45 rfl
          obtain rfl : v4 = .int .i64 m := s4
          obtain ⟨v5, s5, g5⟩ := h 5 _ rfl
          have e5 := g5 46 rfl
          obtain ⟨rfl, r5⟩ : v5 = errT E z ∧ (StT w9 tb tb Y xb T (fun L' => ∃ u, SetAns E T key m L L' u)) := s5
          obtain ⟨v6, s6, g6⟩ := h 6 _ rfl
          have e6 := g6 47 rfl
          obtain rfl : v6 = .int .i64 z := s6
          obtain ⟨v7, s7, g7⟩ := h 7 _ rfl
          have e7 := g7 48 rfl
          obtain rfl : v7 = .pointer (some ⟨mb, 0, none⟩) := s7
          obtain ⟨v8, s8, g8⟩ := h 8 _ rfl
          have e8 := g8 49 rfl
          obtain rfl : v8 = .pointer (some ⟨xb, 1, none⟩) := s8
          obtain ⟨v9, s9, g9⟩ := h 9 _ rfl
          have e9 := g9 50 rfl
          obtain rfl : v9 = .int .i64 key := s9
          obtain ⟨v10, s10, g10⟩ := h 10 _ rfl
          have e10 := g10 51 rfl
          obtain rfl : v10 = .pointer (some ⟨xb, 2, none⟩) := s10
          obtain ⟨v11, s11, g11⟩ := h 11 _ rfl
          have e11 := g11 52 rfl
          obtain rfl : v11 = .int .i64 m := s11
          obtain ⟨v12, s12, g12⟩ := h 12 _ rfl
          have e12 := g12 53 rfl
          obtain ⟨rfl, r12⟩ : v12 = .int .i64 z ∧ (StM w9 tb mb Y T (fun M' => ∃ c', SetMod T key m M M' c')) := s12
          obtain ⟨v13, s13, g13⟩ := h 13 _ rfl
          have e13 := g13 54 rfl
          obtain rfl : v13 = .bool false := s13
          have ha := act_of [(41, .pointer (some ⟨tb, 0, none⟩)), (42, .pointer (some ⟨xb, 1, none⟩)), (43, .int .i64 key), (44, .pointer (some ⟨xb, 2, none⟩)), (45, .int .i64 m), (46, errT E z), (47, .int .i64 z), (48, .pointer (some ⟨mb, 0, none⟩)), (49, .pointer (some ⟨xb, 1, none⟩)), (50, .int .i64 key), (51, .pointer (some ⟨xb, 2, none⟩)), (52, .int .i64 m), (53, .int .i64 z), (54, .bool false)] rfl hsz hdf (by intro p hp; simp only [List.mem_cons, List.not_mem_nil, or_false] at hp; rcases hp with rfl | rfl | rfl | rfl | rfl | rfl | rfl | rfl | rfl | rfl | rfl | rfl | rfl | rfl <;> first | exact e0 | exact e1 | exact e2 | exact e3 | exact e4 | exact e5 | exact e6 | exact e7 | exact e8 | exact e9 | exact e10 | exact e11 | exact e12 | exact e13) hrest
          clear h hrest hsz hdf e0 e1 e2 e3 e4 e5 e6 e7 e8 e9 e10 e11 e12 e13 g0 g1 g2 g3 g4 g5 g6 g7 g8 g9 g10 g11 g12 g13
          subst ha
          simp only [List.foldl_cons, List.foldl_nil, Act.put, List.setIfInBounds_toArray, List.set_cons_succ, List.set_cons_zero]
          obtain ⟨Ln, tv9, ⟨u9, hsa9⟩, hT9, _⟩ := r5
          obtain ⟨Mn, mv9, ⟨c9, hsm9⟩, hM9, _⟩ := r12
          have hPn := HZ3.out _ _ _ _ hsa9 hsm9
          obtain ⟨Tn, rfl⟩ : ∃ Tn, Tn = T := ⟨_, rfl⟩
          obtain ⟨hTn0, hTn9⟩ : 0 ≤ Tn ∧ Tn ≤ 1099511627776 := ⟨hT0, by assumption⟩
          clear hsa9 hsm9 HZ0 HZ1 HZ2 HZ3
          obtain ⟨kd, hkd⟩ : ∃ kd : Int, (0 : Int) = kd := ⟨_, rfl⟩
          have hXB9 := HXB.out _ hE
          have hb9 := HBL.out _ hE
          clear hE HX1 HX2 HER HXB HBL hT6 hM6 hb6
          have hW : Tw w1 w9 tb tb mb xb Tn Ln Tn Mn [.int .i64 0, .int .i64 key, .int .i64 m] := ⟨⟨_, _, hT9, hM9, hb9⟩, hXB9⟩
          clear hT9 hM9 hb9 hXB9

          rw [hkd] at hW
          clear hkd
          obtain ⟨hsn, hln, hkn, hBn⟩ := hW.facts
          obtain ⟨nk, na, nb, hn1, hn2⟩ := tw_next w1 tb tb mb xb Tn Tn Ln Mn [.int .i64 kd, .int .i64 key, .int .i64 m] hPn hln hsn
          obtain ⟨ax, ab, ha1, ha2⟩ := tw_at w1 tb tb mb xb Tn Tn Ln Mn [.int .i64 kd, .int .i64 key, .int .i64 m] key hPn hln hkn
          have N1 := Lib.hid hn1
          have N2 := Lib.hid hn2
          have A1 := Lib.hid ha1
          have A2 := Lib.hid ha2
          have HPN := Lib.hid hPn
          clear hn1 hn2 ha1 ha2 hPn hsn hln hkn hBn
          go_wp2_with (first
            | (go_at_call 51; go_loud (refine (A2.out _ hW4).mono ?_); rintro e wE ⟨rfl, hW5⟩; clear hW4)
            | (go_at_call 50; go_loud (refine (A1.out _ hW3).mono ?_); rintro e wD ⟨rfl, hW4⟩; have y4 : wD.cell? ⟨xb, 1, none⟩ = some (.int .i64 key) := hW4.act.cell 1; clear hW3)
            | (go_at_call 49; go_loud (refine (N2.out _ hW2).mono ?_); rintro e wC ⟨rfl, hW3⟩; have y3 : wC.cell? ⟨xb, 1, none⟩ = some (.int .i64 key) := hW3.act.cell 1; clear hW2)
            | (go_at_call 39; go_loud (refine (N1.out _ hW).mono ?_); rintro e wB ⟨rfl, hW2⟩))
          obtain ⟨z0, Am, cm, z1⟩ := hW5.cells
          obtain ⟨nn, hnn⟩ : ∃ nn, Mn.length = nn := ⟨_, rfl⟩
          rw [hnn] at z1
          have hnl : Ln.length = nn := by rw [← hnn]; exact HPN.out.length_eq.symm
          have HNL := Lib.hid hnl
          have HW5 := Lib.hid hW5
          clear hnl hnn hW5
          have hq1 : ∀ j, Calls Tryd.prog 42 #[.pointer (some ⟨tb, 0, none⟩)] (wE.drewN j) fun e w'' => e = .returned (.int .i64 Tn) ∧ ∃ m, w'' = wE.drewN m := fun j => Calls.quiet_of (twNowQ (HW5.out.keep (Ext.drawn _ _)))
          have hq2 : ∀ j, Calls Tryd.prog 40 #[.pointer (some ⟨tb, 0, none⟩)] (wE.drewN j) fun e w'' => e = .returned (.int .i64 nn) ∧ ∃ m, w'' = wE.drewN m := fun j => Calls.quiet_of (twLenQ (HW5.out.keep (Ext.drawn _ _)) HNL.out)
          have HQ1 := Lib.hid hq1
          have HQ2 := Lib.hid hq2
          clear hq1 hq2
          go_quiet (first
            | (go_at_call 42; exact HQ1.out _)
            | (go_at_call 40; exact HQ2.out _))
          go_wp2
          obtain ⟨⟨tv', mv', hT', hM', hb'⟩, _⟩ := HW5.out.keep (Ext.drawn _ nq)
          exact ⟨⟨k + 1, Tn, Ln, Mn, tv', mv', by omega, by go_num, hT', hM', hb', HPN.out, hTn0, hTn9⟩, by simp [intOf]; omega⟩
      by_cases hk1 : kd = 1
      · subst hk1
        clear hk0
        obtain ⟨bz, hbz⟩ : ∃ bz : Bool, (bz = true ↔ ∃ x ∈ L, x.2 = key) := ⟨decide (∃ x ∈ L, x.2 = key), by simp⟩
        have hbm : bz = true ↔ ∃ x ∈ M, x.2 = key := hbz.trans ⟨fun ⟨y, hy, h⟩ => ⟨y, hp.symm.subset hy, h⟩, fun ⟨y, hy, h⟩ => ⟨y, hp.subset hy, h⟩⟩
        have HB1 := Lib.hid hbz
        have HB2 := Lib.hid hbm
        clear hbz hbm hp hs1 hd1
        go_wp2
        have hT6 := hTa
        have hM6 := hMa
        have hb6 := hba
        have hact6 := hact
        generalize wr.alloc (.cells #[.int .i64 1, .int .i64 key, .int .i64 m] 72) = w6 at *
        generalize wr.heap.size = xb at *
        have HX1 := Lib.hid (show ∀ wx, Chg (Y ++ [mb]) w6 wx → wx.cell? ⟨xb, 1, none⟩ = some (.int .i64 key) from fun wx hE => (hact6.chg hE hxY).cell 1)
        have HX2 := Lib.hid (show ∀ wx, Chg (Y ++ [mb]) w6 wx → wx.cell? ⟨xb, 2, none⟩ = some (.int .i64 m) from fun wx hE => (hact6.chg hE hxY).cell 2)
        have HBL := Lib.hid (show ∀ wx, Chg (Y ++ [mb]) w6 wx → Below tb w1 wx from fun wx hE => hE.below hb6 (by omega) (fun x hx => hYB x hx))
        have HER := Lib.hid (show ∀ wx, Chg (Y ++ [mb]) w6 wx → Errs wx E from fun wx hE => HE1.out wx (HBL.out wx hE))
        have HXB := Lib.hid (show ∀ wx, Chg (Y ++ [mb]) w6 wx → Blk wx xb 72 [.int .i64 1, .int .i64 key, .int .i64 m] from fun wx hE => hact6.chg hE hxY)
        clear hact hact6 hTa hMa hba
        refine wp_region_dagP (X := fun j => if j = 3 then Y else if j = 7 then [mb] else []) (XX := (Y ++ [mb])) (late := fun j => if j = 3 then [8] else if j = 7 then [8] else []) (Pre := fun i w => (i = 3 → TmAt w tb tb tv T L) ∧ (i = 7 → ModAt w tb mb mv T M) ∧ True) (w0 := w6) (Φ := fun i v w => match i with | 0 => (v = .pointer (some ⟨tb, 0, none⟩)) | 1 => (v = .pointer (some ⟨xb, 1, none⟩)) | 2 => (v = .int .i64 key) | 3 => (v = .bool bz ∧ StT w tb tb Y xb T (fun L' => L' = dropK key L)) | 4 => (v = .pointer (some ⟨mb, 0, none⟩)) | 5 => (v = .pointer (some ⟨xb, 1, none⟩)) | 6 => (v = .int .i64 key) | 7 => (v = .bool bz ∧ StM w tb mb Y T (fun M' => M' = dropK key M)) | 8 => (v = .bool false) | _ => True) (show Tryd.prog.follows .mixedOrders = true from Checked.mixed Tryd.checked) 161 rfl (by decide +kernel) ?_ ?_ ?_ ?_ ?_ ⟨?_, ?_, ?_, ?_, ?_, ?_, ?_, ?_, ?_, trivial⟩ ?_
        · intro j x hx
          by_cases hj3 : j = 3
          · subst hj3; have hx' : x ∈ Y := hx; first | exact hx' | (rw [List.mem_append]; first | exact .inl hx' | exact .inr hx')
          by_cases hj7 : j = 7
          · subst hj7; have hx' : x ∈ [mb] := hx; first | exact hx' | (rw [List.mem_append]; first | exact .inl hx' | exact .inr hx')
          simp [hj3, hj7] at hx
        · intro j
          by_cases hj3 : j = 3
          · subst hj3; decide +kernel
          by_cases hj7 : j = 7
          · subst hj7; decide +kernel
          simp [hj3, hj7, lateOk]
        · intro i
          exact ⟨fun _ => hT6.keep ((Below.refl _ _).drew), fun _ => hM6.keep ((Below.refl _ _).drew), trivial⟩
        · intro i j w w' hij h hc
          refine ⟨?_, ?_, trivial⟩
          · intro hi
            subst hi
            have hp := h.1 rfl
            have hc' : Chg ([mb]) w w' := hc.mono (fun x hx => by
              by_cases hj3 : j = 3
              · exact absurd hj3 (by omega)
              by_cases hj7 : j = 7
              · subst hj7; have hx' : x ∈ [mb] := hx; first | exact hx' | (rw [List.mem_append]; first | exact .inl hx' | exact .inr hx')
              simp [hj3, hj7] at hx)
            exact hp.chg hc' (fun hm => hmY (by simp at hm; rw [← hm]; exact htY)) (fun k hk hm => hmY (by simp at hm; rw [← hm]; exact hvY k hk))
          · intro hi
            subst hi
            have hp := h.2.1 rfl
            have hc' : Chg (Y) w w' := hc.mono (fun x hx => by
              by_cases hj3 : j = 3
              · subst hj3; have hx' : x ∈ Y := hx; first | exact hx' | (rw [List.mem_append]; first | exact .inl hx' | exact .inr hx')
              by_cases hj7 : j = 7
              · exact absurd hj7 (by omega)
              simp [hj3, hj7] at hx)
            exact hp.chg hc' hmY huY
        · intro i j v w w' hij hla h hc
          by_cases hj3 : j = 3
          · subst hj3
            have hc' : Chg Y w w' := hc
            match i, hij, hla, h with
            | 0, _, _, h => exact h
            | 1, _, _, h => exact h
            | 2, _, _, h => exact h
            | 3, hij, _, _ => exact absurd rfl hij
            | 4, _, _, h => exact h
            | 5, _, _, h => exact h
            | 6, _, _, h => exact h
            | 7, _, _, h => exact ⟨h.1, h.2.md hmY hc'⟩
            | 8, _, _, h => exact h
            | _ + 9, _, _, _ => trivial
          by_cases hj7 : j = 7
          · subst hj7
            have hc' : Chg [mb] w w' := hc
            match i, hij, hla, h with
            | 0, _, _, h => exact h
            | 1, _, _, h => exact h
            | 2, _, _, h => exact h
            | 3, _, _, h => exact ⟨h.1, h.2.st hmY hmx htY hc'⟩
            | 4, _, _, h => exact h
            | 5, _, _, h => exact h
            | 6, _, _, h => exact h
            | 7, hij, _, _ => exact absurd rfl hij
            | 8, _, _, h => exact h
            | _ + 9, _, _, _ => trivial
          have hc0 : Chg [] w w' := by simpa [hj3, hj7] using hc
          have hE : Ext w w' := hc0.ext (by simp)
          match i, h with
          | 0, h => exact h
          | 1, h => exact h
          | 2, h => exact h
          | 3, h => exact ⟨h.1, h.2.keep hE⟩
          | 4, h => exact h
          | 5, h => exact h
          | 6, h => exact h
          | 7, h => exact ⟨h.1, h.2.keep hE⟩
          | 8, h => exact h
          | _ + 9, _ => trivial
        · -- 0: t57 := move t3 
          intro ac wx hE hP hsz hdf h
          have e3 : ac.tmps[3]? = some (.pointer (some ⟨tb, 0, none⟩)) := by obtain ⟨v, h1, h2⟩ := h 3 (by decide +kernel); exact h1.trans (h2.symm.trans rfl)
          clear h hsz hdf
          go_wp2
          exact ⟨_, rfl, rfl, Chg.refl _ _⟩
        · -- 1: t58 := fieldAddr 72 t6 1 
          intro ac wx hE hP hsz hdf h
          have e6 : ac.tmps[6]? = some (.pointer (some ⟨xb, 0, none⟩)) := by obtain ⟨v, h1, h2⟩ := h 6 (by decide +kernel); exact h1.trans (h2.symm.trans rfl)
          clear h hsz hdf
          go_wp2
          exact ⟨_, rfl, rfl, Chg.refl _ _⟩
        · -- 2: t59 := load 3 t58 
          intro ac wx hE hP hsz hdf h
          have e58 : ac.tmps[58]? = some (.pointer (some ⟨xb, 1, none⟩)) := by obtain ⟨v, h1, h2⟩ := h 58 (by decide +kernel); rw [h1]; exact congrArg some h2
          clear h hsz hdf
          have x1 := HX1.out wx hE
          go_wp2
          exact ⟨_, rfl, rfl, Chg.refl _ _⟩
        · -- 3: t60 := call { value (Operand.func 45), args := #[t57, t59], argTypes := #[69, 3] } 
          intro ac wx hE hP hsz hdf h
          have e57 : ac.tmps[57]? = some (.pointer (some ⟨tb, 0, none⟩)) := by obtain ⟨v, h1, h2⟩ := h 57 (by decide +kernel); rw [h1]; exact congrArg some h2
          have e59 : ac.tmps[59]? = some (.int .i64 key) := by obtain ⟨v, h1, h2⟩ := h 59 (by decide +kernel); rw [h1]; exact congrArg some h2
          clear h hsz hdf
          have hT2 := hP.1 rfl; have hsx := hE.size
          go_wp2_with ((go_at_call 45; go_loud (refine (regClear (xb := xb) hT2 HYD.out (by omega) key HB1.out).mono ?_); rintro e w' ⟨rfl, hst3, hc3⟩))
          exact ⟨_, rfl, ⟨rfl, hst3⟩, hc3⟩
        · -- 4: t61 := move t4 
          intro ac wx hE hP hsz hdf h
          have e4 : ac.tmps[4]? = some (.pointer (some ⟨mb, 0, none⟩)) := by obtain ⟨v, h1, h2⟩ := h 4 (by decide +kernel); exact h1.trans (h2.symm.trans rfl)
          clear h hsz hdf
          go_wp2
          exact ⟨_, rfl, rfl, Chg.refl _ _⟩
        · -- 5: t62 := fieldAddr 72 t6 1 
          intro ac wx hE hP hsz hdf h
          have e6 : ac.tmps[6]? = some (.pointer (some ⟨xb, 0, none⟩)) := by obtain ⟨v, h1, h2⟩ := h 6 (by decide +kernel); exact h1.trans (h2.symm.trans rfl)
          clear h hsz hdf
          go_wp2
          exact ⟨_, rfl, rfl, Chg.refl _ _⟩
        · -- 6: t63 := load 3 t62 
          intro ac wx hE hP hsz hdf h
          have e62 : ac.tmps[62]? = some (.pointer (some ⟨xb, 1, none⟩)) := by obtain ⟨v, h1, h2⟩ := h 62 (by decide +kernel); rw [h1]; exact congrArg some h2
          clear h hsz hdf
          have x1 := HX1.out wx hE
          go_wp2
          exact ⟨_, rfl, rfl, Chg.refl _ _⟩
        · -- 7: t64 := call { value (Operand.func 46), args := #[t61, t63], argTypes := #[80, 3] } 
          intro ac wx hE hP hsz hdf h
          have e61 : ac.tmps[61]? = some (.pointer (some ⟨mb, 0, none⟩)) := by obtain ⟨v, h1, h2⟩ := h 61 (by decide +kernel); rw [h1]; exact congrArg some h2
          have e63 : ac.tmps[63]? = some (.int .i64 key) := by obtain ⟨v, h1, h2⟩ := h 63 (by decide +kernel); rw [h1]; exact congrArg some h2
          clear h hsz hdf
          have hM2 := hP.2.1 rfl; have hsx := hE.size
          go_wp2_with ((go_at_call 46; go_loud (refine (regDrop hM2 HML.out (fun y hy => by have := hYl y hy; omega) huY key HB2.out).mono ?_); rintro e w' ⟨rfl, hmd3, hc3⟩))
          exact ⟨_, rfl, ⟨rfl, hmd3⟩, hc3⟩
        · -- 8: t65 := binOp BinOp.neq 4 t60 t64 4 
          intro ac wx hE hP hsz hdf h
          obtain ⟨e60, s60⟩ : ac.tmps[60]? = some (.bool bz) ∧ (StT wx tb tb Y xb T (fun L' => L' = dropK key L)) := by obtain ⟨v, h1, h2, h3⟩ := h 60 (by decide +kernel); exact ⟨h1.trans (congrArg some h2), h3⟩
          obtain ⟨e64, s64⟩ : ac.tmps[64]? = some (.bool bz) ∧ (StM wx tb mb Y T (fun M' => M' = dropK key M)) := by obtain ⟨v, h1, h2, h3⟩ := h 64 (by decide +kernel); exact ⟨h1.trans (congrArg some h2), h3⟩
          clear h hsz hdf
          go_wp2
          exact ⟨_, rfl, by simp, Chg.refl _ _⟩
        · intro ac w9 hE hsz hdf h hrest
          obtain ⟨v0, s0, g0⟩ := h 0 _ rfl
          have e0 := g0 57 rfl
          obtain rfl : v0 = .pointer (some ⟨tb, 0, none⟩) := s0
          obtain ⟨v1, s1, g1⟩ := h 1 _ rfl
          have e1 := g1 58 rfl
          obtain rfl : v1 = .pointer (some ⟨xb, 1, none⟩) := s1
          obtain ⟨v2, s2, g2⟩ := h 2 _ rfl
          have e2 := g2 59 rfl
          obtain rfl : v2 = .int .i64 key := s2
          obtain ⟨v3, s3, g3⟩ := h 3 _ rfl
          have e3 := g3 60 rfl
          obtain ⟨rfl, r3⟩ : v3 = .bool bz ∧ (StT w9 tb tb Y xb T (fun L' => L' = dropK key L)) := s3
          obtain ⟨v4, s4, g4⟩ := h 4 _ rfl
          have e4 := g4 61 rfl
          obtain rfl : v4 = .pointer (some ⟨mb, 0, none⟩) := s4
          obtain ⟨v5, s5, g5⟩ := h 5 _ rfl
          have e5 := g5 62 rfl
          obtain rfl : v5 = .pointer (some ⟨xb, 1, none⟩) := s5
          obtain ⟨v6, s6, g6⟩ := h 6 _ rfl
          have e6 := g6 63 rfl
          obtain rfl : v6 = .int .i64 key := s6
          obtain ⟨v7, s7, g7⟩ := h 7 _ rfl
          have e7 := g7 64 rfl
          obtain ⟨rfl, r7⟩ : v7 = .bool bz ∧ (StM w9 tb mb Y T (fun M' => M' = dropK key M)) := s7
          obtain ⟨v8, s8, g8⟩ := h 8 _ rfl
          have e8 := g8 65 rfl
          obtain rfl : v8 = .bool false := s8
          have ha := act_of [(57, .pointer (some ⟨tb, 0, none⟩)), (58, .pointer (some ⟨xb, 1, none⟩)), (59, .int .i64 key), (60, .bool bz), (61, .pointer (some ⟨mb, 0, none⟩)), (62, .pointer (some ⟨xb, 1, none⟩)), (63, .int .i64 key), (64, .bool bz), (65, .bool false)] rfl hsz hdf (by intro p hp; simp only [List.mem_cons, List.not_mem_nil, or_false] at hp; rcases hp with rfl | rfl | rfl | rfl | rfl | rfl | rfl | rfl | rfl <;> first | exact e0 | exact e1 | exact e2 | exact e3 | exact e4 | exact e5 | exact e6 | exact e7 | exact e8) hrest
          clear h hrest hsz hdf e0 e1 e2 e3 e4 e5 e6 e7 e8 g0 g1 g2 g3 g4 g5 g6 g7 g8
          subst ha
          simp only [List.foldl_cons, List.foldl_nil, Act.put, List.setIfInBounds_toArray, List.set_cons_succ, List.set_cons_zero]
          obtain ⟨Ln, tv9, hsa9, hT9, _⟩ := r3
          obtain ⟨Mn, mv9, hsm9, hM9, _⟩ := r7
          have hPn : Mn.Perm Ln := by rw [hsa9, hsm9]; exact dropK_perm HP.out key
          obtain ⟨Tn, rfl⟩ : ∃ Tn, Tn = T := ⟨_, rfl⟩
          obtain ⟨hTn0, hTn9⟩ : 0 ≤ Tn ∧ Tn ≤ 1099511627776 := ⟨hT0, by assumption⟩
          clear hsa9 hsm9 HB1 HB2
          obtain ⟨kd, hkd⟩ : ∃ kd : Int, (1 : Int) = kd := ⟨_, rfl⟩
          have hXB9 := HXB.out _ hE
          have hb9 := HBL.out _ hE
          clear hE HX1 HX2 HER HXB HBL hT6 hM6 hb6
          have hW : Tw w1 w9 tb tb mb xb Tn Ln Tn Mn [.int .i64 1, .int .i64 key, .int .i64 m] := ⟨⟨_, _, hT9, hM9, hb9⟩, hXB9⟩
          clear hT9 hM9 hb9 hXB9

          rw [hkd] at hW
          clear hkd
          obtain ⟨hsn, hln, hkn, hBn⟩ := hW.facts
          obtain ⟨nk, na, nb, hn1, hn2⟩ := tw_next w1 tb tb mb xb Tn Tn Ln Mn [.int .i64 kd, .int .i64 key, .int .i64 m] hPn hln hsn
          obtain ⟨ax, ab, ha1, ha2⟩ := tw_at w1 tb tb mb xb Tn Tn Ln Mn [.int .i64 kd, .int .i64 key, .int .i64 m] key hPn hln hkn
          have N1 := Lib.hid hn1
          have N2 := Lib.hid hn2
          have A1 := Lib.hid ha1
          have A2 := Lib.hid ha2
          have HPN := Lib.hid hPn
          clear hn1 hn2 ha1 ha2 hPn hsn hln hkn hBn
          go_wp2_with (first
            | (go_at_call 51; go_loud (refine (A2.out _ hW4).mono ?_); rintro e wE ⟨rfl, hW5⟩; clear hW4)
            | (go_at_call 50; go_loud (refine (A1.out _ hW3).mono ?_); rintro e wD ⟨rfl, hW4⟩; have y4 : wD.cell? ⟨xb, 1, none⟩ = some (.int .i64 key) := hW4.act.cell 1; clear hW3)
            | (go_at_call 49; go_loud (refine (N2.out _ hW2).mono ?_); rintro e wC ⟨rfl, hW3⟩; have y3 : wC.cell? ⟨xb, 1, none⟩ = some (.int .i64 key) := hW3.act.cell 1; clear hW2)
            | (go_at_call 39; go_loud (refine (N1.out _ hW).mono ?_); rintro e wB ⟨rfl, hW2⟩))
          obtain ⟨z0, Am, cm, z1⟩ := hW5.cells
          obtain ⟨nn, hnn⟩ : ∃ nn, Mn.length = nn := ⟨_, rfl⟩
          rw [hnn] at z1
          have hnl : Ln.length = nn := by rw [← hnn]; exact HPN.out.length_eq.symm
          have HNL := Lib.hid hnl
          have HW5 := Lib.hid hW5
          clear hnl hnn hW5
          have hq1 : ∀ j, Calls Tryd.prog 42 #[.pointer (some ⟨tb, 0, none⟩)] (wE.drewN j) fun e w'' => e = .returned (.int .i64 Tn) ∧ ∃ m, w'' = wE.drewN m := fun j => Calls.quiet_of (twNowQ (HW5.out.keep (Ext.drawn _ _)))
          have hq2 : ∀ j, Calls Tryd.prog 40 #[.pointer (some ⟨tb, 0, none⟩)] (wE.drewN j) fun e w'' => e = .returned (.int .i64 nn) ∧ ∃ m, w'' = wE.drewN m := fun j => Calls.quiet_of (twLenQ (HW5.out.keep (Ext.drawn _ _)) HNL.out)
          have HQ1 := Lib.hid hq1
          have HQ2 := Lib.hid hq2
          clear hq1 hq2
          go_quiet (first
            | (go_at_call 42; exact HQ1.out _)
            | (go_at_call 40; exact HQ2.out _))
          go_wp2
          obtain ⟨⟨tv', mv', hT', hM', hb'⟩, _⟩ := HW5.out.keep (Ext.drawn _ nq)
          exact ⟨⟨k + 1, Tn, Ln, Mn, tv', mv', by omega, by go_num, hT', hM', hb', HPN.out, hTn0, hTn9⟩, by simp [intOf]; omega⟩
      have hW6 : Tw w1 (wr.alloc (.cells #[.int .i64 kd, .int .i64 key, .int .i64 m] 72)) tb tb mb wr.heap.size T L T M [.int .i64 kd, .int .i64 key, .int .i64 m] := ⟨⟨_, _, hTa, hMa, hba⟩, hact⟩
      have hb6 := hba
      have q2 : (wr.alloc (.cells #[.int .i64 kd, .int .i64 key, .int .i64 m] 72)).cell? ⟨wr.heap.size, 2, none⟩ = some (.int .i64 m) := hact.cell 2
      clear hTa hMa hba hact hYl hYB htY hvY hmY huY hmx hxY HYD
      by_cases hk2 : kd = 2
      · subst hk2
        clear hk0 hk1
        by_cases hbad : m < 0 ∨ 1099511627776 - T < m
        · have HBAD := Lib.hid hbad
          have HMR := Lib.hid hm
          clear hbad hm
          unfold errV at *
          go_wp2_with (first
            | (go_at_call 48; go_loud (refine (sameInts [] [] none none 0 0 0 0 _ Rd.nil Rd.nil (by omega) (by omega) true (by decide)).mono ?_); rintro e w10 ⟨rfl, hx10⟩)
            | (go_at_call 18; go_loud (refine (num1 E w8 (HE1.out w8 hW8.below)).mono ?_); rintro e w9 ⟨rfl, hx9⟩; have hW9 := hW8.keep hx9)
            | (go_at_call 47; go_loud (refine (twMTickBad hW7 m HMR.out (by omega) (by omega) HBAD.out).mono ?_); rintro e w8 ⟨rfl, rfl⟩; have hW8 := hW7)
            | (go_at_call 41; go_loud (refine (twTickBad hW6 m ((HE1.out _ hb6).some [0, 1]) (by omega) (by omega) HBAD.out).mono ?_); rintro e w7 ⟨rfl, hW7⟩; have q7 : w7.cell? ⟨wr.heap.size, 2, none⟩ = some (.int .i64 m) := hW7.act.cell 2))
          obtain ⟨Tn, rfl⟩ : ∃ Tn, Tn = T := ⟨_, rfl⟩
          obtain ⟨Ln, rfl⟩ : ∃ Ln, Ln = L := ⟨_, rfl⟩
          obtain ⟨Mn, rfl⟩ : ∃ Mn, Mn = M := ⟨_, rfl⟩
          have hTn0 := hT0
          have hTn9 := hT9
          have hPn := HP.out
          have hW := hW9.keep hx10
          clear hW6 hW7 hW8 hW9 hb6 q2 q7
          generalize wr.heap.size = xb at *
          obtain ⟨kd, hkd⟩ : ∃ kd : Int, (2 : Int) = kd := ⟨_, rfl⟩
          rw [hkd] at hW
          clear hkd
          obtain ⟨hsn, hln, hkn, hBn⟩ := hW.facts
          obtain ⟨nk, na, nb, hn1, hn2⟩ := tw_next w1 tb tb mb xb Tn Tn Ln Mn [.int .i64 kd, .int .i64 key, .int .i64 m] hPn hln hsn
          obtain ⟨ax, ab, ha1, ha2⟩ := tw_at w1 tb tb mb xb Tn Tn Ln Mn [.int .i64 kd, .int .i64 key, .int .i64 m] key hPn hln hkn
          have N1 := Lib.hid hn1
          have N2 := Lib.hid hn2
          have A1 := Lib.hid ha1
          have A2 := Lib.hid ha2
          have HPN := Lib.hid hPn
          clear hn1 hn2 ha1 ha2 hPn hsn hln hkn hBn
          go_wp2_with (first
            | (go_at_call 51; go_loud (refine (A2.out _ hW4).mono ?_); rintro e wE ⟨rfl, hW5⟩; clear hW4)
            | (go_at_call 50; go_loud (refine (A1.out _ hW3).mono ?_); rintro e wD ⟨rfl, hW4⟩; have y4 : wD.cell? ⟨xb, 1, none⟩ = some (.int .i64 key) := hW4.act.cell 1; clear hW3)
            | (go_at_call 49; go_loud (refine (N2.out _ hW2).mono ?_); rintro e wC ⟨rfl, hW3⟩; have y3 : wC.cell? ⟨xb, 1, none⟩ = some (.int .i64 key) := hW3.act.cell 1; clear hW2)
            | (go_at_call 39; go_loud (refine (N1.out _ hW).mono ?_); rintro e wB ⟨rfl, hW2⟩))
          obtain ⟨z0, Am, cm, z1⟩ := hW5.cells
          obtain ⟨nn, hnn⟩ : ∃ nn, Mn.length = nn := ⟨_, rfl⟩
          rw [hnn] at z1
          have hnl : Ln.length = nn := by rw [← hnn]; exact HPN.out.length_eq.symm
          have HNL := Lib.hid hnl
          have HW5 := Lib.hid hW5
          clear hnl hnn hW5
          have hq1 : ∀ j, Calls Tryd.prog 42 #[.pointer (some ⟨tb, 0, none⟩)] (wE.drewN j) fun e w'' => e = .returned (.int .i64 Tn) ∧ ∃ m, w'' = wE.drewN m := fun j => Calls.quiet_of (twNowQ (HW5.out.keep (Ext.drawn _ _)))
          have hq2 : ∀ j, Calls Tryd.prog 40 #[.pointer (some ⟨tb, 0, none⟩)] (wE.drewN j) fun e w'' => e = .returned (.int .i64 nn) ∧ ∃ m, w'' = wE.drewN m := fun j => Calls.quiet_of (twLenQ (HW5.out.keep (Ext.drawn _ _)) HNL.out)
          have HQ1 := Lib.hid hq1
          have HQ2 := Lib.hid hq2
          clear hq1 hq2
          go_quiet (first
            | (go_at_call 42; exact HQ1.out _)
            | (go_at_call 40; exact HQ2.out _))
          go_wp2
          obtain ⟨⟨tv', mv', hT', hM', hb'⟩, _⟩ := HW5.out.keep (Ext.drawn _ nq)
          exact ⟨⟨k + 1, Tn, Ln, Mn, tv', mv', by omega, by go_num, hT', hM', hb', HPN.out, hTn0, hTn9⟩, by simp [intOf]; omega⟩
        · obtain ⟨Tn, hTn⟩ : ∃ Tn, T + m = Tn := ⟨_, rfl⟩
          have hm0 : 0 ≤ m := by omega
          have hm9 : m ≤ 1099511627776 - T := by omega
          have hTn0 : 0 ≤ Tn := by omega
          have hTn9 : Tn ≤ 1099511627776 := by omega
          have HTN := Lib.hid hTn
          have HS1 := Lib.hid hs1
          have HD1 := Lib.hid hd1
          clear hbad hTn hs1 hd1 hm
          go_wp2_with (first
            | (go_at_call 48; go_loud (refine (sameInts (D.map (·.2)) (D.map (·.2)) A7 A8 d7 c7 d7 c8 w9 (HR7.out.keep hx9) (HR8.out.keep hx9) (by omega) (by omega) true (by simp)).mono ?_); rintro e w10 ⟨rfl, hx10⟩)
            | (go_at_call 18; go_loud (refine (numNil w8).mono ?_); rintro e w9 ⟨rfl, hw9⟩; have hx9 : Ext w8 w9 := (by rw [← hw9]; exact Ext.refl _); clear hw9; have hW9 := hW8.keep hx9)
            | (go_at_call 47; go_loud (refine (twMTick hW7 (by omega) HP.out HS1.out HD1.out m Tn hT0 hT9 hm0 hm9 HTN.out).mono ?_); rintro e w8 ⟨A8, c8, d8, D8, R8, Mn, rfl, hD8, hl8, hp8, hr8, hW8, hc8⟩; obtain ⟨rfl, rfl⟩ := Due.uni hD7 hD8; obtain rfl : d7 = d8 := hl7.symm.trans hl8; have HR7 := Lib.hid (hW7.row ho7 hc8); have HR8 := Lib.hid hr8; clear hD7 hD8 hl8 ho7 hc8 hr8)
            | (go_at_call 41; go_loud (refine (twTick hW6 m Tn hT0 hT9 hm0 hm9 HTN.out).mono ?_); rintro e w7 ⟨A7, c7, d7, D, Ln, rfl, hD7, hl7, ho7, hW7⟩; have hd7 : d7 ≤ 16 := (by have h1 := congrArg List.length hD7.app; rw [List.length_append] at h1; omega); have q7 : w7.cell? ⟨wr.heap.size, 2, none⟩ = some (.int .i64 m) := hW7.act.cell 2))
          have hPn := hp8
          have hW := hW9.keep hx10
          clear hW6 hW7 hW8 hW9 hb6 q2 q7 hp8 HR7 HR8 hl7
          generalize wr.heap.size = xb at *
          obtain ⟨kd, hkd⟩ : ∃ kd : Int, (2 : Int) = kd := ⟨_, rfl⟩
          rw [hkd] at hW
          clear hkd
          obtain ⟨hsn, hln, hkn, hBn⟩ := hW.facts
          obtain ⟨nk, na, nb, hn1, hn2⟩ := tw_next w1 tb tb mb xb Tn Tn Ln Mn [.int .i64 kd, .int .i64 key, .int .i64 m] hPn hln hsn
          obtain ⟨ax, ab, ha1, ha2⟩ := tw_at w1 tb tb mb xb Tn Tn Ln Mn [.int .i64 kd, .int .i64 key, .int .i64 m] key hPn hln hkn
          have N1 := Lib.hid hn1
          have N2 := Lib.hid hn2
          have A1 := Lib.hid ha1
          have A2 := Lib.hid ha2
          have HPN := Lib.hid hPn
          clear hn1 hn2 ha1 ha2 hPn hsn hln hkn hBn
          go_wp2_with (first
            | (go_at_call 51; go_loud (refine (A2.out _ hW4).mono ?_); rintro e wE ⟨rfl, hW5⟩; clear hW4)
            | (go_at_call 50; go_loud (refine (A1.out _ hW3).mono ?_); rintro e wD ⟨rfl, hW4⟩; have y4 : wD.cell? ⟨xb, 1, none⟩ = some (.int .i64 key) := hW4.act.cell 1; clear hW3)
            | (go_at_call 49; go_loud (refine (N2.out _ hW2).mono ?_); rintro e wC ⟨rfl, hW3⟩; have y3 : wC.cell? ⟨xb, 1, none⟩ = some (.int .i64 key) := hW3.act.cell 1; clear hW2)
            | (go_at_call 39; go_loud (refine (N1.out _ hW).mono ?_); rintro e wB ⟨rfl, hW2⟩))
          obtain ⟨z0, Am, cm, z1⟩ := hW5.cells
          obtain ⟨nn, hnn⟩ : ∃ nn, Mn.length = nn := ⟨_, rfl⟩
          rw [hnn] at z1
          have hnl : Ln.length = nn := by rw [← hnn]; exact HPN.out.length_eq.symm
          have HNL := Lib.hid hnl
          have HW5 := Lib.hid hW5
          clear hnl hnn hW5
          have hq1 : ∀ j, Calls Tryd.prog 42 #[.pointer (some ⟨tb, 0, none⟩)] (wE.drewN j) fun e w'' => e = .returned (.int .i64 Tn) ∧ ∃ m, w'' = wE.drewN m := fun j => Calls.quiet_of (twNowQ (HW5.out.keep (Ext.drawn _ _)))
          have hq2 : ∀ j, Calls Tryd.prog 40 #[.pointer (some ⟨tb, 0, none⟩)] (wE.drewN j) fun e w'' => e = .returned (.int .i64 nn) ∧ ∃ m, w'' = wE.drewN m := fun j => Calls.quiet_of (twLenQ (HW5.out.keep (Ext.drawn _ _)) HNL.out)
          have HQ1 := Lib.hid hq1
          have HQ2 := Lib.hid hq2
          clear hq1 hq2
          go_quiet (first
            | (go_at_call 42; exact HQ1.out _)
            | (go_at_call 40; exact HQ2.out _))
          go_wp2
          obtain ⟨⟨tv', mv', hT', hM', hb'⟩, _⟩ := HW5.out.keep (Ext.drawn _ nq)
          exact ⟨⟨k + 1, Tn, Ln, Mn, tv', mv', by omega, by go_num, hT', hM', hb', HPN.out, hTn0, hTn9⟩, by simp [intOf]; omega⟩
      · obtain ⟨Tn, rfl⟩ : ∃ Tn, Tn = T := ⟨_, rfl⟩
        obtain ⟨Ln, rfl⟩ : ∃ Ln, Ln = L := ⟨_, rfl⟩
        obtain ⟨Mn, rfl⟩ : ∃ Mn, Mn = M := ⟨_, rfl⟩
        have hTn0 := hT0
        have hTn9 := hT9
        have hPn := HP.out
        have hW := hW6
        clear hb6 q2 hW6
        obtain ⟨hsn, hln, hkn, hBn⟩ := hW.facts
        obtain ⟨nk, na, nb, hn1, hn2⟩ := tw_next w1 tb tb mb wr.heap.size Tn Tn Ln Mn [.int .i64 kd, .int .i64 key, .int .i64 m] hPn hln hsn
        obtain ⟨ax, ab, ha1, ha2⟩ := tw_at w1 tb tb mb wr.heap.size Tn Tn Ln Mn [.int .i64 kd, .int .i64 key, .int .i64 m] key hPn hln hkn
        have N1 := Lib.hid hn1
        have N2 := Lib.hid hn2
        have A1 := Lib.hid ha1
        have A2 := Lib.hid ha2
        have HPN := Lib.hid hPn
        clear hn1 hn2 ha1 ha2 hPn hsn hln hkn hBn
        go_wp2_with (first
          | (go_at_call 51; go_loud (refine (A2.out _ hW4).mono ?_); rintro e wE ⟨rfl, hW5⟩; clear hW4)
          | (go_at_call 50; go_loud (refine (A1.out _ hW3).mono ?_); rintro e wD ⟨rfl, hW4⟩; have y4 : wD.cell? ⟨wr.heap.size, 1, none⟩ = some (.int .i64 key) := hW4.act.cell 1; clear hW3)
          | (go_at_call 49; go_loud (refine (N2.out _ hW2).mono ?_); rintro e wC ⟨rfl, hW3⟩; have y3 : wC.cell? ⟨wr.heap.size, 1, none⟩ = some (.int .i64 key) := hW3.act.cell 1; clear hW2)
          | (go_at_call 39; go_loud (refine (N1.out _ hW).mono ?_); rintro e wB ⟨rfl, hW2⟩))
        obtain ⟨z0, Am, cm, z1⟩ := hW5.cells
        obtain ⟨nn, hnn⟩ : ∃ nn, Mn.length = nn := ⟨_, rfl⟩
        rw [hnn] at z1
        have hnl : Ln.length = nn := by rw [← hnn]; exact HPN.out.length_eq.symm
        have HNL := Lib.hid hnl
        have HW5 := Lib.hid hW5
        clear hnl hnn hW5
        have hq1 : ∀ j, Calls Tryd.prog 42 #[.pointer (some ⟨tb, 0, none⟩)] (wE.drewN j) fun e w'' => e = .returned (.int .i64 Tn) ∧ ∃ m, w'' = wE.drewN m := fun j => Calls.quiet_of (twNowQ (HW5.out.keep (Ext.drawn _ _)))
        have hq2 : ∀ j, Calls Tryd.prog 40 #[.pointer (some ⟨tb, 0, none⟩)] (wE.drewN j) fun e w'' => e = .returned (.int .i64 nn) ∧ ∃ m, w'' = wE.drewN m := fun j => Calls.quiet_of (twLenQ (HW5.out.keep (Ext.drawn _ _)) HNL.out)
        have HQ1 := Lib.hid hq1
        have HQ2 := Lib.hid hq2
        clear hq1 hq2
        go_quiet (first
          | (go_at_call 42; exact HQ1.out _)
          | (go_at_call 40; exact HQ2.out _))
        go_wp2
        obtain ⟨⟨tv', mv', hT', hM', hb'⟩, _⟩ := HW5.out.keep (Ext.drawn _ nq)
        exact ⟨⟨k + 1, Tn, Ln, Mn, tv', mv', by omega, by go_num, hT', hM', hb', HPN.out, hTn0, hTn9⟩, by simp [intOf]; omega⟩
    · obtain rfl : k = n := by omega
      go_wp2
      go_ret
      exact ⟨rfl, HFIN.out _ hb⟩
end Go.Proofs.YtnbdmlpnoiljdaaDoor
