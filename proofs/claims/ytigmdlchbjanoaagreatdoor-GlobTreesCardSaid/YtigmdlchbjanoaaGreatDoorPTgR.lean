/- Put together: Rx33, Rx34. -/
import Derived.Test.YtigmdlchbjanoaaGreatDoorPTgL
import Derived.Test.YtigmdlchbjanoaaGreatDoorPTgQ
namespace Go.Proofs.YtigmdlchbjanoaaGreatDoor
open Go Go.RowKit
attribute [local irreducible] wd
theorem same_take {ks ls:List T} {i:Nat} (h1:i<ks.length) (h2:i<ls.length):sameL (ks.take (i+1)) (ls.take (i+1))=(sameL (ks.take i) (ls.take i) && (ks[i]'h1).same (ls[i]'h2)):=by
 induction ks generalizing ls i with
 | nil=>simp at h1
 | cons t ts ih =>
  cases ls with
  | nil=>simp at h2
  | cons u us =>
   cases i with
   | zero=>simp [sameL]
   | succ i =>
    have h1':i<ts.length:=by simpa using h1
    have h2':i<us.length:=by simpa using h2
    rw [List.take_succ_cons,List.take_succ_cons,List.take_succ_cons,List.take_succ_cons,sameL,sameL,ih h1' h2',Bool.and_assoc]
    rfl
theorem same_at {ks ls:List T} (h:sameL ks ls=true) {i:Nat} (h1:i<ks.length) (h2:i<ls.length):(ks[i]'h1).same (ls[i]'h2)=true:=by
 induction ks generalizing ls i with
 | nil=>simp at h1
 | cons t ts ih =>
  cases ls with
  | nil=>simp at h2
  | cons u us =>
   rw [sameL,Bool.and_eq_true] at h
   cases i with
   | zero=>exact h.1
   | succ i=>exact ih h.2 (by simpa using h1) (by simpa using h2)
end Go.Proofs.YtigmdlchbjanoaaGreatDoor
namespace Go.Proofs.YtigmdlchbjanoaaGreatDoor
open Go Go.RowKit
attribute [local irreducible] wd
end Go.Proofs.YtigmdlchbjanoaaGreatDoor
