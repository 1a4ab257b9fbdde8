/- Which numbers the errors of the document's parser have. Plain. -/
import Derived.Test.YtigmdlchbjanoaaDoorPRp1
namespace Go.Proofs.YtigmdlchbjanoaaDoor
open Go Go.RowKit
def ErrK (k:Nat):Prop:=k=2∨k=3∨k=4∨k=5∨k=11∨k=15
theorem goS_err (l:List UInt8) (b:Nat):∀ (f i:Nat) (x:Nat→Bool),(goS l b f i x).2.2=0∨ErrK (goS l b f i x).2.2:=by
 intro f
 induction f with
 | zero=>intro i x;exact .inr (.inr (.inl rfl))
 | succ f ih =>
  intro i x
  unfold goS
  split
  ·exact .inl rfl
  ·split
   ·have:=(item_fits (l.drop i)).2
    dsimp only
    unfold ErrK
    omega
   ·exact ih _ _
theorem parseS_err (l:List UInt8):(parseS l).2.2=0∨ErrK (parseS l).2.2:=by
 have key:∀ (b:Bool) (r:(Nat→Bool) × Nat × Nat),(r.2.2=0∨ErrK r.2.2)→(if r.2.2=0 then (notP b r.1,r.2) else r).2.2=0∨ErrK (if r.2.2=0 then (notP b r.1,r.2) else r).2.2:=by
  intro b r h
  by_cases h0:r.2.2=0
  ·rw [if_pos h0];exact .inl h0
  ·rw [if_neg h0];exact h
 unfold parseS
 split
 ·exact .inr (.inr (.inl rfl))
 ·split
  ·exact key _ _ (goS_err _ _ _ _ _)
  ·exact .inr (.inr (.inr (.inr (.inl rfl))))
theorem oneS_err (l:List UInt8) (i:Nat) (c:UInt8) (h:(oneS l i c).2.2 ≠ 0):ErrK (oneS l i c).2.2:=by
 unfold oneS at h ⊢
 split at h
 ·rename_i hc
  rw [if_pos hc]
  have hf:=esc_fits (l.drop i)
  dsimp only at h ⊢
  cases he:escS (l.drop i) with
  | bad k=>rw [he] at hf h;unfold Sg.fits at hf;dsimp only at hf;show ErrK k;unfold ErrK;omega
  | byte m n=>rw [he] at h;exact absurd rfl h
  | cls p n=>rw [he] at h;exact absurd rfl h
 ·rename_i hc
  rw [if_neg hc]
  split at h
  ·rename_i h2
   rw [if_pos h2]
   exact (parseS_err _).resolve_left h
  ·rename_i h2
   split at h <;> exact absurd rfl h
theorem step_err {l:List UInt8} {s:Cfg} {k:Nat} (h:stepM l s=.fin (.err k)):ErrK k:=by
 have e3:ErrK 3:=.inr (.inl rfl)
 have e5:ErrK 5:=.inr (.inr (.inr (.inl rfl)))
 have e2:ErrK 2:=.inl rfl
 have e11:ErrK 11:=.inr (.inr (.inr (.inr (.inl rfl))))
 have e15:ErrK 15:=.inr (.inr (.inr (.inr (.inr rfl))))
 unfold stepM at h
 split at h
 ·split at h
  ·cases h
  ·cases h;exact e3
 ·split at h
  ·split at h
   ·cases h;exact e5
   ·split at h
    ·cases h
    ·split at h
     ·cases h;exact e15
     ·cases h
  ·split at h
   ·cases h
   ·split at h
    ·split at h
     ·cases h;exact e11
     ·split at h
      ·split at h
       ·cases h;exact e3
       ·split at h
        ·cases h
        ·cases h;exact e5
      ·split at h
       ·cases h;exact e2
       ·cases h
    ·split at h
     ·split at h
      ·cases h;exact e5
      ·cases h
     ·split at h
      ·cases h
      ·rename_i hn
       cases h
       exact oneS_err _ _ _ hn
theorem runs_err {l:List UInt8} {c:Cfg} {r:PR} (h:Runs l c r):∀ k,r=.err k→ErrK k:=by
 induction h with
 | fin hs=>intro k hk;rw [hk] at hs;exact step_err hs
 | go _ _ ih=>exact ih
theorem parseR_err {l:List UInt8} {k:Nat} (h:parseR l=.err k):ErrK k:=by
 by_cases hl:120<l.length
 ·unfold parseR at h
  rw [if_pos hl] at h
  cases h
  exact .inr (.inr (.inl rfl))
 ·exact runs_err (runs_parse hl) k h
end Go.Proofs.YtigmdlchbjanoaaDoor
