/- Timers and the document's, side by side. -/
import Derived.Test.YtnbdmlpnoiljdaaDoorTm16
namespace Go.Proofs.YtnbdmlpnoiljdaaDoor
open Go Go.RowKit

def errT (E : Nat → Addr) (z : Nat) : Value := if z = 0 then .nilIface else errV E (z - 1)
theorem numT (E : Nat → Addr) (z : Nat) (w : World) (h : Errs w E) (hz : z ≤ 16) : Calls Tryd.prog 18 #[errT E z] w fun e w' => e = .returned (.int .i64 z) ∧ Ext w w' := by
  unfold errT
  by_cases h0 : z = 0
  · rw [if_pos h0]
    refine (numNil w).mono ?_
    rintro e w' ⟨rfl, rfl⟩
    exact ⟨by rw [h0]; rfl, Ext.refl _⟩
  · rw [if_neg h0]
    refine (numErr E (z - 1) w h (by omega)).mono ?_
    rintro e w' ⟨rfl, hx⟩
    exact ⟨by rw [show ((z - 1 : Nat) : Int) + 1 = z by omega], hx⟩

theorem blk_ne {w : World} {g g' : Nat} {e e' : TypeId} {cs cs' : List Value} (h : Blk w g e cs) (h' : Blk w g' e' cs') (he : e ≠ e') : g ≠ g' := by
  rintro rfl
  unfold Blk at h h'
  rw [h] at h'
  injection h' with h'
  injection h' with _ h'
  exact he h'

/-- The two answer alike. -/
theorem set_agree {E : Nat → Addr} {now : Int} {L M : List (Int × Int)} (hp : M.Perm L) (h16 : L.length ≤ 16) (key at' : Int) :
    ∃ c : Nat, c ≤ 2 ∧ (∀ L' u, SetAns E now key at' L L' u → u = errT E c) ∧ (∀ M' c', SetMod now key at' M M' c' → c' = c) ∧ (∀ L' M' u c', SetAns E now key at' L L' u → SetMod now key at' M M' c' → M'.Perm L') := by
  have hlen := hp.length_eq
  have hno : (∀ y ∈ M, y.2 ≠ key) ↔ ∀ y ∈ L, y.2 ≠ key := ⟨fun h y hy => h y (hp.symm.subset hy), fun h y hy => h y (hp.subset hy)⟩
  have hex : (∃ x ∈ M, x.2 = key) ↔ ∃ x ∈ L, x.2 = key := ⟨fun ⟨y, hy, h⟩ => ⟨y, hp.subset hy, h⟩, fun ⟨y, hy, h⟩ => ⟨y, hp.symm.subset hy, h⟩⟩
  have hcon : (∀ y ∈ L, y.2 ≠ key) → (∃ x ∈ L, x.2 = key) → False := fun h ⟨x, hx, he⟩ => h x hx he
  by_cases h1 : at' < now ∨ 1099511627776 < at'
  · refine ⟨1, by omega, ?_, ?_, ?_⟩
    · rintro L' u (⟨_, rfl, _⟩ | ⟨_, _, _, _, _, _⟩ | ⟨_, _, _, _, _⟩)
      · rfl
      · omega
      · omega
    · rintro M' c' (⟨_, rfl, _⟩ | ⟨_, _, _, _, _, _⟩ | ⟨_, _, _, _, _⟩)
      · rfl
      · omega
      · omega
    · intro L' M' u c' hs hm
      have e1 : L' = L := by
        rcases hs with ⟨_, _, h⟩ | ⟨ha, hb, _⟩ | ⟨ha, hb, _⟩
        · exact h
        · rcases h1 with h1 | h1 <;> omega
        · rcases h1 with h1 | h1 <;> omega
      have e2 : M' = M := by
        rcases hm with ⟨_, _, h⟩ | ⟨ha, hb, _⟩ | ⟨ha, hb, _⟩
        · exact h
        · rcases h1 with h1 | h1 <;> omega
        · rcases h1 with h1 | h1 <;> omega
      rw [e1, e2]
      exact hp
  by_cases h2 : (∀ y ∈ L, y.2 ≠ key) ∧ L.length = 16
  · refine ⟨2, by omega, ?_, ?_, ?_⟩
    · rintro L' u (⟨h, _⟩ | ⟨_, _, _, _, rfl, _⟩ | ⟨_, _, h, _, _⟩)
      · exact absurd h h1
      · rfl
      · rcases h with h | h
        · exact (hcon h2.1 h).elim
        · omega
    · rintro M' c' (⟨h, _⟩ | ⟨_, _, _, _, rfl, _⟩ | ⟨_, _, h, _, _⟩)
      · exact absurd h h1
      · rfl
      · rcases h with h | h
        · exact (hcon h2.1 (hex.1 h)).elim
        · omega
    · rintro L' M' u c' (⟨h, _⟩ | ⟨_, _, _, _, _, rfl⟩ | ⟨_, _, h, _, _⟩) (⟨h', _⟩ | ⟨_, _, _, _, _, rfl⟩ | ⟨_, _, h', _, _⟩)
      · exact absurd h h1
      · exact absurd h h1
      · exact absurd h h1
      · exact absurd h' h1
      · exact hp
      · rcases h' with h' | h'
        · exact (hcon h2.1 (hex.1 h')).elim
        · omega
      · exact absurd h' h1
      · rcases h with h | h
        · exact (hcon h2.1 h).elim
        · omega
      · rcases h with h | h
        · exact (hcon h2.1 h).elim
        · omega
  · refine ⟨0, by omega, ?_, ?_, ?_⟩
    · rintro L' u (⟨h, _⟩ | ⟨_, _, h, h', _, _⟩ | ⟨_, _, _, rfl, _⟩)
      · exact absurd h h1
      · exact absurd ⟨h, by omega⟩ h2
      · rfl
    · rintro M' c' (⟨h, _⟩ | ⟨_, _, h, h', _, _⟩ | ⟨_, _, _, rfl, _⟩)
      · exact absurd h h1
      · exact absurd ⟨hno.1 h, by omega⟩ h2
      · rfl
    · rintro L' M' u c' (⟨h, _⟩ | ⟨_, _, h, h', _, _⟩ | ⟨_, _, _, _, hq⟩) (⟨k, _⟩ | ⟨_, _, k, k', _, _⟩ | ⟨_, _, _, _, rfl⟩)
      · exact absurd h h1
      · exact absurd h h1
      · exact absurd h h1
      · exact absurd k h1
      · exact absurd ⟨h, by omega⟩ h2
      · exact absurd ⟨h, by omega⟩ h2
      · exact absurd k h1
      · exact absurd ⟨hno.1 k, by omega⟩ h2
      · refine List.Perm.trans ?_ hq.symm
        exact (List.perm_append_comm (l₁ := dropK key M) (l₂ := [(at', key)])).trans ((dropK_perm hp key).cons _)

/-- One of the two behind a call, while the other may still turn. -/
def StT (w : World) (B tb : Nat) (Y : List Nat) (xb : Nat) (now : Int) (P : List (Int × Int) → Prop) : Prop := ∃ L' v', P L' ∧ TmAt w B tb v' now L' ∧ ∀ k, v'.ownBlock = some k → k ∈ Y ∨ xb < k
def StM (w : World) (B mb : Nat) (Y : List Nat) (now : Int) (P : List (Int × Int) → Prop) : Prop := ∃ M' u', P M' ∧ ModAt w B mb u' now M' ∧ ∀ k, u'.ownBlock = some k → k ∉ Y
theorem StT.keep {w w' : World} {B tb xb : Nat} {Y : List Nat} {now : Int} {P : List (Int × Int) → Prop} (h : StT w B tb Y xb now P) (hx : Ext w w') : StT w' B tb Y xb now P := by
  obtain ⟨L', v', h1, h2, h3⟩ := h
  exact ⟨L', v', h1, h2.keep hx, h3⟩
theorem StM.keep {w w' : World} {B mb : Nat} {Y : List Nat} {now : Int} {P : List (Int × Int) → Prop} (h : StM w B mb Y now P) (hx : Ext w w') : StM w' B mb Y now P := by
  obtain ⟨L', v', h1, h2, h3⟩ := h
  exact ⟨L', v', h1, h2.keep hx, h3⟩
theorem StT.st {w w' : World} {B tb xb mb : Nat} {Y : List Nat} {now : Int} {P : List (Int × Int) → Prop} (h : StT w B tb Y xb now P) (hmY : mb ∉ Y) (hmx : mb < xb) (htb : tb ∈ Y) (hc : Chg [mb] w w') : StT w' B tb Y xb now P := by
  obtain ⟨L', v', h1, h2, h3⟩ := h
  refine ⟨L', v', h1, h2.chg hc (fun hm => hmY (by simp at hm; rwa [← hm])) (fun k hk hm => ?_), h3⟩
  simp at hm
  subst hm
  rcases h3 k hk with h | h
  · exact hmY h
  · omega
theorem StM.md {w w' : World} {B mb : Nat} {Y : List Nat} {now : Int} {P : List (Int × Int) → Prop} (h : StM w B mb Y now P) (hmY : mb ∉ Y) (hc : Chg Y w w') : StM w' B mb Y now P := by
  obtain ⟨L', v', h1, h2, h3⟩ := h
  exact ⟨L', v', h1, h2.chg hc hmY h3, h3⟩
theorem StT.of {w w' : World} {B tb xb : Nat} {v : Value} {Y : List Nat} {now : Int} {L : List (Int × Int)} {P : List (Int × Int) → Prop} (hY : tb :: v.ownBlock.toList = Y) (hxb : xb < w.heap.size) (hP : P L) (h : TmTurned w w' B tb v now L) : StT w' B tb Y xb now P ∧ Chg Y w w' := by
  obtain ⟨v', h1, h2, h3⟩ := h
  refine ⟨⟨L, v', hP, h1, fun k hk => ?_⟩, by rw [← hY]; exact h2⟩
  rcases h3 k hk with h | h
  · exact .inl (by rw [← hY]; simp [h])
  · exact .inr (by omega)
theorem StM.of {w w' : World} {B mb : Nat} {u : Value} {Y : List Nat} {now : Int} {M : List (Int × Int)} {P : List (Int × Int) → Prop} (hY : ∀ y ∈ Y, y < w.heap.size) (hu : ∀ k, u.ownBlock = some k → k ∉ Y) (hP : P M) (h : ModTurned w w' B mb u now M) : StM w' B mb Y now P ∧ Chg [mb] w w' := by
  obtain ⟨u', h1, h2, h3⟩ := h
  refine ⟨⟨M, u', hP, h1, fun k hk => ?_⟩, h2⟩
  rcases h3 k hk with h | h
  · exact hu k h
  · intro hk'
    have := hY k hk'
    omega

theorem regSet {w : World} {B tb xb : Nat} {v : Value} {Y : List Nat} {now : Int} {L : List (Int × Int)} {E : Nat → Addr} (h : TmAt w B tb v now L) (hY : tb :: v.ownBlock.toList = Y) (hxb : xb < w.heap.size) (hE : ErrC [0, 1] w E) (key at' : Int) {c : Nat} (hc : ∀ L' u, SetAns E now key at' L L' u → u = errT E c) :
    Calls Tryd.prog 38 #[.pointer (some ⟨tb, 0, none⟩), .int .i64 key, .int .i64 at'] w fun e w' => e = .returned (errT E c) ∧ StT w' B tb Y xb now (fun L' => ∃ u, SetAns E now key at' L L' u) ∧ Chg Y w w' := by
  refine (tmSet h key at' hE).mono ?_
  rintro e w' ⟨u, L', rfl, hs, ht⟩
  have := hc _ _ hs
  subst this
  exact ⟨rfl, StT.of hY hxb (P := fun L' => ∃ u, SetAns E now key at' L L' u) ⟨_, hs⟩ ht⟩
theorem regMSet {w : World} {B mb : Nat} {u : Value} {Y : List Nat} {now : Int} {M : List (Int × Int)} (h : ModAt w B mb u now M) (hlen : M.length ≤ 100) (hY : ∀ y ∈ Y, y < w.heap.size) (hu : ∀ k, u.ownBlock = some k → k ∉ Y) (key at' : Int) {c : Nat} (hc : ∀ M' c', SetMod now key at' M M' c' → c' = c) :
    Calls Tryd.prog 44 #[.pointer (some ⟨mb, 0, none⟩), .int .i64 key, .int .i64 at'] w fun e w' => e = .returned (.int .i64 c) ∧ StM w' B mb Y now (fun M' => ∃ c', SetMod now key at' M M' c') ∧ Chg [mb] w w' := by
  refine (refSet h hlen key at').mono ?_
  rintro e w' ⟨c', M', rfl, hs, ht⟩
  have := hc _ _ hs
  subst this
  exact ⟨rfl, StM.of hY hu (P := fun M' => ∃ c', SetMod now key at' M M' c') ⟨_, hs⟩ ht⟩
theorem regClear {w : World} {B tb xb : Nat} {v : Value} {Y : List Nat} {now : Int} {L : List (Int × Int)} (h : TmAt w B tb v now L) (hY : tb :: v.ownBlock.toList = Y) (hxb : xb < w.heap.size) (key : Int) {b : Bool} (hb : b = true ↔ ∃ x ∈ L, x.2 = key) :
    Calls Tryd.prog 45 #[.pointer (some ⟨tb, 0, none⟩), .int .i64 key] w fun e w' => e = .returned (.bool b) ∧ StT w' B tb Y xb now (fun L' => L' = dropK key L) ∧ Chg Y w w' := by
  refine (tmClear h key).mono ?_
  rintro e w' ⟨b', rfl, hs, ht⟩
  obtain rfl : b' = b := by
    rcases hs with ⟨rfl, hx⟩ | ⟨rfl, hno⟩
    · exact (hb.2 hx).symm
    · cases b with
      | false => rfl
      | true =>
        obtain ⟨x, hx, he⟩ := hb.1 rfl
        exact absurd he (hno x hx)
  exact ⟨rfl, StT.of hY hxb (P := fun L' => L' = dropK key L) rfl ht⟩
theorem regDrop {w : World} {B mb : Nat} {u : Value} {Y : List Nat} {now : Int} {M : List (Int × Int)} (h : ModAt w B mb u now M) (hlen : M.length ≤ 100) (hY : ∀ y ∈ Y, y < w.heap.size) (hu : ∀ k, u.ownBlock = some k → k ∉ Y) (key : Int) {b : Bool} (hb : b = true ↔ ∃ x ∈ M, x.2 = key) :
    Calls Tryd.prog 46 #[.pointer (some ⟨mb, 0, none⟩), .int .i64 key] w fun e w' => e = .returned (.bool b) ∧ StM w' B mb Y now (fun M' => M' = dropK key M) ∧ Chg [mb] w w' := by
  refine (refDrop h (by omega) key).mono ?_
  rintro e w' ⟨b', rfl, hs, ht⟩
  obtain rfl : b' = b := by
    rcases hs with ⟨rfl, hx⟩ | ⟨rfl, hno⟩
    · exact (hb.2 hx).symm
    · cases b with
      | false => rfl
      | true =>
        obtain ⟨x, hx, he⟩ := hb.1 rfl
        exact absurd he (hno x hx)
  exact ⟨rfl, StM.of hY hu (P := fun M' => M' = dropK key M) rfl ht⟩

/-- Both as they stand, and an act. -/
structure Tw (w0 w : World) (B tb mb xb : Nat) (t : Int) (L : List (Int × Int)) (s : Int) (M : List (Int × Int)) (cs : List Value) : Prop where
  ex : ∃ v u, TmAt w B tb v t L ∧ ModAt w B mb u s M ∧ Below B w0 w
  act : Blk w xb 72 cs
theorem Tw.keep {w0 w w' : World} {B tb mb xb : Nat} {t s : Int} {L M : List (Int × Int)} {cs : List Value} (h : Tw w0 w B tb mb xb t L s M cs) (hx : Ext w w') : Tw w0 w' B tb mb xb t L s M cs := by
  obtain ⟨⟨v, u, h1, h2, h3⟩, h4⟩ := h
  have := h1.blk.lt
  have := h1.low
  exact ⟨⟨v, u, h1.keep hx, h2.keep hx, h3.trans (hx.mono (by omega))⟩, h4.keep hx⟩
theorem Tw.turnT {w0 w w' : World} {B tb mb xb : Nat} {t s T : Int} {L M L' : List (Int × Int)} {cs : List Value} {v u : Value} (h1 : TmAt w B tb v t L) (h2 : ModAt w B mb u s M) (h3 : Below B w0 w) (h4 : Blk w xb 72 cs) (ht : TmTurned w w' B tb v T L') : Tw w0 w' B tb mb xb T L' s M cs := by
  obtain ⟨v', h5, hc, _⟩ := ht
  have n1 : mb ∉ tb :: v.ownBlock.toList := fun hm => by
    rcases List.mem_cons.1 hm with h | h
    · exact blk_ne h2.blk h1.blk (by decide +kernel) h
    · exact h1.own.apart h2.blk (by decide +kernel) (by simpa using h)
  have n2 : ∀ k, u.ownBlock = some k → k ∉ tb :: v.ownBlock.toList := fun k hk hm => by
    rcases List.mem_cons.1 hm with h | h
    · subst h
      exact row_apart h2.own h1.blk (by decide +kernel) hk
    · exact rows_apart h2.own h1.own (by decide +kernel) k hk (by simpa using h)
  have n3 : xb ∉ tb :: v.ownBlock.toList := fun hm => by
    rcases List.mem_cons.1 hm with h | h
    · exact blk_ne h4 h1.blk (by decide +kernel) h
    · exact h1.own.apart h4 (by decide +kernel) (by simpa using h)
  exact ⟨⟨v', u, h5, h2.chg hc n1 n2, h1.below hc h3⟩, h4.chg hc n3⟩
theorem Tw.turnM {w0 w w' : World} {B tb mb xb : Nat} {t s S : Int} {L M M' : List (Int × Int)} {cs : List Value} {v u : Value} (h1 : TmAt w B tb v t L) (h2 : ModAt w B mb u s M) (h3 : Below B w0 w) (h4 : Blk w xb 72 cs) (ht : ModTurned w w' B mb u S M') : Tw w0 w' B tb mb xb t L S M' cs := by
  obtain ⟨u', h5, hc, _⟩ := ht
  have hlt := h1.blk.lt
  have hlow := h1.low
  refine ⟨⟨v, u', h1.chg hc (fun hm => ?_) (fun k hk hm => ?_), h5, hc.below h3 (by omega) (fun x hx => ?_)⟩, h4.chg hc (fun hm => ?_)⟩
  · exact blk_ne h1.blk h2.blk (by decide +kernel) (by simpa using hm)
  · simp at hm
    subst hm
    exact h1.own.apart h2.blk (by decide +kernel) hk
  · simp at hx
    subst hx
    exact h2.low
  · exact blk_ne h4 h2.blk (by decide +kernel) (by simpa using hm)
/-- The facts that a walk reads. -/
theorem Tw.cells {w0 w : World} {B tb mb xb : Nat} {t s : Int} {L M : List (Int × Int)} {cs : List Value} (h : Tw w0 w B tb mb xb t L s M cs) : w.cell? ⟨mb, 0, none⟩ = some (.int .i64 s) ∧ ∃ A c, w.cell? ⟨mb, 1, none⟩ = some (.slice A M.length c) := by
  obtain ⟨⟨v, u, h1, h2, h3⟩, _⟩ := h
  obtain ⟨A, c, rfl, _⟩ := h2.own.rd
  exact ⟨h2.blk.cell 0, A, c, h2.blk.cell 1⟩

theorem twTickBad {w0 w : World} {B tb mb xb : Nat} {t s : Int} {L M : List (Int × Int)} {cs : List Value} {E : Nat → Addr} (h : Tw w0 w B tb mb xb t L s M cs) (n : Int) (hE : ErrC [0, 1] w E) (h0 : 0 ≤ t) (h9 : t ≤ 1099511627776) (hbad : n < 0 ∨ 1099511627776 - t < n) :
    Calls Tryd.prog 41 #[.pointer (some ⟨tb, 0, none⟩), .int .i64 n] w fun e w' => e = .returned (.tuple #[.slice none 0 0, errV E 0]) ∧ Tw w0 w' B tb mb xb t L s M cs := by
  obtain ⟨⟨v, u, h1, h2, h3⟩, h4⟩ := h
  refine (tmTickRange h1 n hE h0 h9 hbad).mono ?_
  rintro e w' ⟨rfl, hx⟩
  exact ⟨rfl, Tw.keep ⟨⟨v, u, h1, h2, h3⟩, h4⟩ hx⟩
theorem twMTickBad {w0 w : World} {B tb mb xb : Nat} {t s : Int} {L M : List (Int × Int)} {cs : List Value} (h : Tw w0 w B tb mb xb t L s M cs) (n : Int) (hn : -9223372036854775808 ≤ n ∧ n ≤ 9223372036854775807) (h0 : 0 ≤ s) (h9 : s ≤ 1099511627776) (hbad : n < 0 ∨ 1099511627776 - s < n) :
    Calls Tryd.prog 47 #[.pointer (some ⟨mb, 0, none⟩), .int .i64 n] w fun e w' => e = .returned (.tuple #[.slice none 0 0, .int .i64 1]) ∧ w' = w := by
  obtain ⟨⟨v, u, h1, h2, h3⟩, h4⟩ := h
  exact refTickRange h2 n hn h0 h9 hbad
theorem twTick {w0 w : World} {B tb mb xb : Nat} {t s : Int} {L M : List (Int × Int)} {cs : List Value} (h : Tw w0 w B tb mb xb t L s M cs) (n T : Int) (h0 : 0 ≤ t) (h9 : t ≤ 1099511627776) (hn0 : 0 ≤ n) (hn9 : n ≤ 1099511627776 - t) (hT : t + n = T) :
    Calls Tryd.prog 41 #[.pointer (some ⟨tb, 0, none⟩), .int .i64 n] w fun e w' => ∃ A c d D R, e = .returned (.tuple #[.slice A d c, .nilIface]) ∧ Due L T D R ∧ D.length = d ∧ w'.ownsRow w.heap.size 3 1 (.slice A d c) d (intsV (D.map (·.2))) ∧ Tw w0 w' B tb mb xb T R s M cs := by
  obtain ⟨⟨v, u, h1, h2, h3⟩, h4⟩ := h
  refine (tmTickOk h1 n T h0 h9 hn0 hn9 hT).mono ?_
  rintro e w' ⟨A, c, D, R, rfl, hL, hD, hR, ho, ht⟩
  exact ⟨A, c, _, D, R, rfl, ⟨hL, hD, hR⟩, rfl, ho, Tw.turnT h1 h2 h3 h4 ht⟩
theorem twMTick {w0 w : World} {B tb mb xb : Nat} {t s : Int} {L L0 M : List (Int × Int)} {cs : List Value} (h : Tw w0 w B tb mb xb t L s M cs) (hlen : L0.length ≤ 100) (hp : M.Perm L0) (hs : sortP L0) (hk : (L0.map (·.2)).Nodup) (n T : Int) (h0 : 0 ≤ s) (h9 : s ≤ 1099511627776) (hn0 : 0 ≤ n) (hn9 : n ≤ 1099511627776 - s) (hT : s + n = T) :
    Calls Tryd.prog 47 #[.pointer (some ⟨mb, 0, none⟩), .int .i64 n] w fun e w' => ∃ A c d D R M', e = .returned (.tuple #[.slice A d c, .int .i64 0]) ∧ Due L0 T D R ∧ D.length = d ∧ M'.Perm R ∧ Rd w' 1 A d (intsV (D.map (·.2))) ∧ Tw w0 w' B tb mb xb t L T M' cs ∧ Chg [mb] w w' := by
  obtain ⟨⟨v, u, h1, h2, h3⟩, h4⟩ := h
  refine (refTickOk h2 hlen hp hs hk n T h0 h9 hn0 hn9 hT).mono ?_
  rintro e w' ⟨A, c, D, R, M', rfl, hd, hp', ho, ht⟩
  obtain ⟨A', c', hv, _, _, hr⟩ := own_rd ho
  cases hv
  have hc : Chg [mb] w w' := by obtain ⟨_, _, hc, _⟩ := ht; exact hc
  exact ⟨A, c, _, D, R, M', rfl, hd, rfl, hp', hr, Tw.turnM h1 h2 h3 h4 ht, hc⟩

theorem Tw.row {w0 w w' : World} {B tb mb xb : Nat} {t s : Int} {L M : List (Int × Int)} {cs : List Value} (h : Tw w0 w B tb mb xb t L s M cs) {b n : Nat} {A : Option Addr} {c : Nat} {xs : List Value} (ho : w.ownsRow b 3 1 (.slice A n c) n xs) (hc : Chg [mb] w w') : Rd w' 1 A n xs := by
  obtain ⟨⟨v, u, h1, h2, h3⟩, _⟩ := h
  have := own_chg ho hc (fun k hk hm => by
    simp at hm
    subst hm
    exact row_apart ho h2.blk (by decide +kernel) hk)
  obtain ⟨A', c', hv, _, _, hr⟩ := own_rd this
  cases hv
  exact hr
theorem Tw.facts {w0 w : World} {B tb mb xb : Nat} {t s : Int} {L M : List (Int × Int)} {cs : List Value} (h : Tw w0 w B tb mb xb t L s M cs) : sortP L ∧ L.length ≤ 16 ∧ (L.map (·.2)).Nodup ∧ B ≤ w.heap.size := by
  obtain ⟨⟨v, u, h1, h2, h3⟩, _⟩ := h
  have := h1.blk.lt
  have := h1.low
  exact ⟨h1.srt, h1.len, h1.keys, by omega⟩
theorem Tw.below {w0 w : World} {B tb mb xb : Nat} {t s : Int} {L M : List (Int × Int)} {cs : List Value} (h : Tw w0 w B tb mb xb t L s M cs) : Below B w0 w := by
  obtain ⟨⟨v, u, h1, h2, h3⟩, _⟩ := h
  exact h3
theorem num1 (E : Nat → Addr) (w : World) (h : Errs w E) : Calls Tryd.prog 18 #[errV E 0] w fun e w' => e = .returned (.int .i64 1) ∧ Ext w w' := numErr E 0 w h (by omega)

/-- Next and First answer alike; At and At. -/
theorem tw_next (w0 : World) (B tb mb xb : Nat) (t s : Int) (L M : List (Int × Int)) (cs : List Value) (hp : M.Perm L) (h16 : L.length ≤ 16) (hs : sortP L) :
    ∃ k a b, (∀ w, Tw w0 w B tb mb xb t L s M cs → Calls Tryd.prog 39 #[.pointer (some ⟨tb, 0, none⟩)] w fun e w' => e = .returned (.tuple #[.int .i64 k, .int .i64 a, .bool b]) ∧ Tw w0 w' B tb mb xb t L s M cs) ∧
      ∀ w, Tw w0 w B tb mb xb t L s M cs → Calls Tryd.prog 49 #[.pointer (some ⟨mb, 0, none⟩)] w fun e w' => e = .returned (.tuple #[.int .i64 k, .int .i64 a, .bool b]) ∧ Tw w0 w' B tb mb xb t L s M cs := by
  have hlen := hp.length_eq
  cases L with
  | nil =>
    refine ⟨0, 0, false, fun w h => ?_, fun w h => ?_⟩
    · obtain ⟨⟨v, u, h1, h2, h3⟩, h4⟩ := h
      refine (tmNextNo h1).mono ?_
      rintro e w' ⟨rfl, hx⟩
      exact ⟨rfl, Tw.keep ⟨⟨v, u, h1, h2, h3⟩, h4⟩ hx⟩
    · obtain ⟨⟨v, u, h1, h2, h3⟩, h4⟩ := h
      refine (refFirst0 h2 hp).mono ?_
      rintro e w' ⟨rfl, hx⟩
      exact ⟨rfl, Tw.keep ⟨⟨v, u, h1, h2, h3⟩, h4⟩ hx⟩
  | cons x r =>
    refine ⟨x.2, x.1, true, fun w h => ?_, fun w h => ?_⟩
    · obtain ⟨⟨v, u, h1, h2, h3⟩, h4⟩ := h
      refine (tmNext h1).mono ?_
      rintro e w' ⟨rfl, hx⟩
      exact ⟨rfl, Tw.keep ⟨⟨v, u, h1, h2, h3⟩, h4⟩ hx⟩
    · obtain ⟨⟨v, u, h1, h2, h3⟩, h4⟩ := h
      refine (refFirst1 h2 (by omega) hp hs).mono ?_
      rintro e w' ⟨rfl, hx⟩
      exact ⟨rfl, Tw.keep ⟨⟨v, u, h1, h2, h3⟩, h4⟩ hx⟩

theorem at_ex (L : List (Int × Int)) (key : Int) : ∃ a b, AtAns L key a b := by
  by_cases h : ∃ x ∈ L, x.2 = key
  · obtain ⟨x, hx, he⟩ := h
    exact ⟨_, _, .inl ⟨x, hx, he, rfl, rfl⟩⟩
  · exact ⟨_, _, .inr ⟨fun y hy he => h ⟨y, hy, he⟩, rfl, rfl⟩⟩
theorem tw_at (w0 : World) (B tb mb xb : Nat) (t s : Int) (L M : List (Int × Int)) (cs : List Value) (key : Int) (hp : M.Perm L) (h16 : L.length ≤ 16) (hd : (L.map (·.2)).Nodup) :
    ∃ a b, (∀ w, Tw w0 w B tb mb xb t L s M cs → Calls Tryd.prog 50 #[.pointer (some ⟨tb, 0, none⟩), .int .i64 key] w fun e w' => e = .returned (.tuple #[.int .i64 a, .bool b]) ∧ Tw w0 w' B tb mb xb t L s M cs) ∧
      ∀ w, Tw w0 w B tb mb xb t L s M cs → Calls Tryd.prog 51 #[.pointer (some ⟨mb, 0, none⟩), .int .i64 key] w fun e w' => e = .returned (.tuple #[.int .i64 a, .bool b]) ∧ Tw w0 w' B tb mb xb t L s M cs := by
  have hlen := hp.length_eq
  obtain ⟨a, b, hab⟩ := at_ex M key
  refine ⟨a, b, fun w h => ?_, fun w h => ?_⟩
  · obtain ⟨⟨v, u, h1, h2, h3⟩, h4⟩ := h
    refine (tmAt h1 key).mono ?_
    rintro e w' ⟨a', b', rfl, ha, hx⟩
    obtain ⟨rfl, rfl⟩ := AtAns.perm hp hd ha hab
    exact ⟨rfl, Tw.keep ⟨⟨v, u, h1, h2, h3⟩, h4⟩ hx⟩
  · obtain ⟨⟨v, u, h1, h2, h3⟩, h4⟩ := h
    refine (refAt h2 (by omega) key).mono ?_
    rintro e w' ⟨a', b', rfl, ha, hx⟩
    obtain ⟨a0, b0, h0⟩ := at_ex L key
    obtain ⟨rfl, rfl⟩ := AtAns.perm hp hd h0 hab
    obtain ⟨rfl, rfl⟩ := AtAns.perm hp hd h0 ha
    exact ⟨rfl, Tw.keep ⟨⟨v, u, h1, h2, h3⟩, h4⟩ hx⟩

theorem twNowQ {w0 w : World} {B tb mb xb : Nat} {t s : Int} {L M : List (Int × Int)} {cs : List Value} (h : Tw w0 w B tb mb xb t L s M cs) :
    Calls Tryd.prog 42 #[.pointer (some ⟨tb, 0, none⟩)] w fun e w' => e = .returned (.int .i64 t) ∧ ∃ m, w' = w.drewN m := by
  obtain ⟨⟨v, u, h1, h2, h3⟩, h4⟩ := h
  exact (tmNow h1).mono fun _ _ ⟨he, hw⟩ => ⟨he, 0, hw⟩
theorem twLenQ {w0 w : World} {B tb mb xb : Nat} {t s : Int} {L M : List (Int × Int)} {cs : List Value} (h : Tw w0 w B tb mb xb t L s M cs) {n : Nat} (hn : L.length = n) :
    Calls Tryd.prog 40 #[.pointer (some ⟨tb, 0, none⟩)] w fun e w' => e = .returned (.int .i64 n) ∧ ∃ m, w' = w.drewN m := by
  obtain ⟨⟨v, u, h1, h2, h3⟩, h4⟩ := h
  subst hn
  exact (tmLen h1).mono fun _ _ ⟨he, hw⟩ => ⟨he, 0, hw⟩
end Go.Proofs.YtnbdmlpnoiljdaaDoor
