/- Put together: Cl1, Cl2, Cl3, Cl4, Cl5. -/
import Derived.Test.YtigmdlchbjanoaaGreatDoorPTgA
import Derived.Laws.BitsAllLaws
import Derived.Laws.Shifts
import Derived.Laws.Bits128
import Derived.RegionTactic
import Derived.ChangeAlike
import Derived.BigQuiet
import Derived.BigRegion
import Derived.Deep.QuietTactic
namespace Go.Proofs.YtigmdlchbjanoaaGreatDoor
open Go Go.RowKit
def cnt (f:Nat→Bool):Nat→Nat
 | 0=>0
 | n+1=>cnt f n+(if f n then 1 else 0)
def b1 (y:Nat):Nat:=(y / 2 &&& 85)+(y &&& 85)
def b2 (y:Nat):Nat:=(y / 4 &&& 51)+(y &&& 51)
def b3 (y:Nat):Nat:=y / 16+y % 16
def mk (m:Nat):Nat→Nat
 | 0=>0
 | k+1=>m+256*mk m k
def pb (x:Nat):Nat:=cnt (fun j=>(x % 256).testBit j) 8
theorem md (m r q x:Nat) (h:r<m) (e:x=r+m*q):x % m=r:=by
 subst e
 rw [Nat.add_mul_mod_self_left,Nat.mod_eq_of_lt h]
end Go.Proofs.YtigmdlchbjanoaaGreatDoor
namespace Go.Proofs.YtigmdlchbjanoaaGreatDoor
open Go Go.RowKit
def bnum:(Nat→Bool)→Nat→Nat
 | _,0=>0
 | p,n+1=>(p 0).toNat+2*bnum (fun j=>p (j+1)) n
theorem bnum_bit:∀ (n:Nat) (p:Nat→Bool) (j:Nat),(bnum p n).testBit j=(decide (j<n) && p j):=by
 intro n
 induction n with
 | zero=>intro p j;simp [bnum]
 | succ n ih =>
  intro p j
  cases j with
  | zero =>
   rw [bnum,Nat.testBit_zero]
   cases h:p 0 <;> simp <;> omega
  | succ j =>
   have e:((p 0).toNat+2*bnum (fun j=>p (j+1)) n) / 2=bnum (fun j=>p (j+1)) n:=by
    cases p 0 <;> simp <;> omega
   rw [bnum,Nat.testBit_succ,e,ih]
   simp
theorem bnum_lt:∀ (n:Nat) (p:Nat→Bool),bnum p n<2 ^ n:=by
 intro n
 induction n with
 | zero=>intro p;simp [bnum]
 | succ n ih =>
  intro p
  have:=ih (fun j=>p (j+1))
  rw [bnum,Nat.pow_succ]
  cases p 0 <;> simp <;> omega
theorem bnum_eq {p:Nat→Bool} {n x:Nat} (h:∀ j,x.testBit j=(decide (j<n) && p j)):x=bnum p n:=
 Nat.eq_of_testBit_eq fun j=>by rw [h,bnum_bit]
theorem bnum_congr {p q:Nat→Bool} {n:Nat} (h:∀ j,j<n→p j=q j):bnum p n=bnum q n:=
 bnum_eq fun j=>by
  rw [bnum_bit]
  by_cases hj:j<n
  ·rw [h j hj]
  ·simp [hj]
theorem wrap_id64 (z:Nat) (h:z<18446744073709551616):IntKind.u64.wrap (z:Int)=(z:Int):=by rw [IntKind.wrap_u64];omega
end Go.Proofs.YtigmdlchbjanoaaGreatDoor
namespace Go.Proofs.YtigmdlchbjanoaaGreatDoor
open Go Go.RowKit
def wd (p:Nat→Bool) (k:Nat):Nat:=bnum (fun j=>p (64*k+j)) 64
theorem wd_lt (p:Nat→Bool) (k:Nat):wd p k<18446744073709551616:=bnum_lt 64 _
theorem wd_bit (p:Nat→Bool) (k j:Nat):(wd p k).testBit j=(decide (j<64) && p (64*k+j)):=bnum_bit 64 _ j
theorem wd_congr {p q:Nat→Bool} {k:Nat} (h:∀ j,j<64→p (64*k+j)=q (64*k+j)):wd p k=wd q k:=bnum_congr h
def sp (p:Nat→Bool):Value:=.agg #[.int .u64 (wd p 0:Nat),.int .u64 (wd p 1:Nat),.int .u64 (wd p 2:Nat),.int .u64 (wd p 3:Nat)]
theorem results_cell1 {fn:Func} {p:Tmp} {ty:TypeId} (h:fn.results=#[.cell p ty]) (tmps:Array Value) (P:Program) (w:World) :
  (results fn tmps).run P w=((asAddr (tmps.getD p undef)).run P w).andThen fun a w₁=>(loadVar ty a).run P w₁:=by
 simp only [results,h]
 simp [Sem.run_bind,Result.andThen]
theorem wd_or (p q:Nat→Bool) (k:Nat):wd p k ||| wd q k=wd (fun j=>p j || q j) k:=by
 refine bnum_eq fun j=>?_
 rw [Nat.testBit_or,wd_bit,wd_bit]
 cases decide (j<64) <;> simp
theorem or_wd (p q:Nat→Bool) (k:Nat):bits BinOp.or IntKind.u64 (wd p k:Nat) (wd q k:Nat)=(wd (fun j=>p j || q j) k:Nat):=
 (u64_or_nat _ _ (wd_lt _ _) (wd_lt _ _)).trans (by rw [wd_or])
theorem Blk.newA {w:World} {g:Nat} (h:w.heap.size=g) (e:TypeId) (cs:List Value):Blk (w.alloc (.cells cs.toArray e)) g e cs:=by subst h;exact Blk.newL w e cs
def mix (X Y:Nat→Nat):Nat→List Value
 | 0=>[.int .u64 (X 0),.int .u64 (X 1),.int .u64 (X 2),.int .u64 (X 3)]
 | 1=>[.int .u64 (Y 0),.int .u64 (X 1),.int .u64 (X 2),.int .u64 (X 3)]
 | 2=>[.int .u64 (Y 0),.int .u64 (Y 1),.int .u64 (X 2),.int .u64 (X 3)]
 | 3=>[.int .u64 (Y 0),.int .u64 (Y 1),.int .u64 (Y 2),.int .u64 (X 3)]
 | _=>[.int .u64 (Y 0),.int .u64 (Y 1),.int .u64 (Y 2),.int .u64 (Y 3)]
set_option maxHeartbeats 1000000 in
set_option maxRecDepth 20000 in
theorem setOr (p q:Nat→Bool) (w:World) :
  Calls Tryz.prog 65 #[sp p,sp q] w fun e w'=>e=.returned (sp fun j=>p j || q j)∧Ext w w':=by
 have r0:=or_wd p q 0
 have r1:=or_wd p q 1
 have r2:=or_wd p q 2
 have r3:=or_wd p q 3
 unfold sp
 go_enter Tryz.func65,Tryz.ntmps65
 go_wp2
 go_loopw [6] (fun iv wr=>∃ i:Nat,i≤4∧iv=.int .i64 i∧Blk wr w.heap.size 25 (mix (wd p) (wd fun j=>p j || q j) i)∧Blk wr (w.heap.size+1) 25 (mix (wd q) (wd q) 0)∧Blk wr (w.heap.size+2) 25 (mix (fun _=>0) (fun _=>0) 0)∧Ext w wr) (fun iv _=>4-(intOf iv).toNat)
 case atStart=>exact ⟨0,by omega,rfl,((Blk.newA rfl _ _).alloc _).alloc _,(Blk.newA (by simp) _ _).alloc _,Blk.newA (by simp) _ _,by (first | exact Ext.refl _ | (unfold Ext;repeat (first | exact Below.refl _ _ | assumption | refine BeA ?_ | refine BeC ?_ | refine Below.drew ?_)))⟩
 case round =>
  obtain ⟨i,hi,rfl,hB,hC,hD,hx⟩:=hrel
  have hi4:i=0∨i=1∨i=2∨i=3∨i=4:=by omega
  rcases hi4 with rfl | rfl | rfl | rfl | rfl
  focus
   have b0:=hB.cell 0
   have c0:=hC.cell 0
   have f0:=hB.frozen 0
   simp only [mix,List.getElem?_cons_zero] at b0 c0
   have HB:=Lib.hid hB
   have HC:=Lib.hid hC
   have HD:=Lib.hid hD
   clear hB hC hD
   go_wp2
   go_region
   all_goals go_wp2
   all_goals go_roundw
   case rel=>exact ⟨1,by omega,by go_num,HB.out.set_ 0 _,HC.out.far (by simp) _,HD.out.far (by simp) _,by (first | exact Ext.refl _ | (unfold Ext;repeat (first | exact Below.refl _ _ | assumption | refine BeA ?_ | refine BeC ?_ | refine Below.drew ?_)))⟩
   case measure=>simp [intOf]
  focus
   have b0:=hB.cell 1
   have c0:=hC.cell 1
   have f0:=hB.frozen 1
   simp only [mix,List.getElem?_cons_zero,List.getElem?_cons_succ] at b0 c0
   have HB:=Lib.hid hB
   have HC:=Lib.hid hC
   have HD:=Lib.hid hD
   clear hB hC hD
   go_wp2
   go_region
   all_goals go_wp2
   all_goals go_roundw
   case rel=>exact ⟨2,by omega,by go_num,HB.out.set_ 1 _,HC.out.far (by simp) _,HD.out.far (by simp) _,by (first | exact Ext.refl _ | (unfold Ext;repeat (first | exact Below.refl _ _ | assumption | refine BeA ?_ | refine BeC ?_ | refine Below.drew ?_)))⟩
   case measure=>simp [intOf]
  focus
   have b0:=hB.cell 2
   have c0:=hC.cell 2
   have f0:=hB.frozen 2
   simp only [mix,List.getElem?_cons_zero,List.getElem?_cons_succ] at b0 c0
   have HB:=Lib.hid hB
   have HC:=Lib.hid hC
   have HD:=Lib.hid hD
   clear hB hC hD
   go_wp2
   go_region
   all_goals go_wp2
   all_goals go_roundw
   case rel=>exact ⟨3,by omega,by go_num,HB.out.set_ 2 _,HC.out.far (by simp) _,HD.out.far (by simp) _,by (first | exact Ext.refl _ | (unfold Ext;repeat (first | exact Below.refl _ _ | assumption | refine BeA ?_ | refine BeC ?_ | refine Below.drew ?_)))⟩
   case measure=>simp [intOf]
  focus
   have b0:=hB.cell 3
   have c0:=hC.cell 3
   have f0:=hB.frozen 3
   simp only [mix,List.getElem?_cons_zero,List.getElem?_cons_succ] at b0 c0
   have HB:=Lib.hid hB
   have HC:=Lib.hid hC
   have HD:=Lib.hid hD
   clear hB hC hD
   go_wp2
   go_region
   all_goals go_wp2
   all_goals go_roundw
   case rel=>exact ⟨4,by omega,by go_num,HB.out.set_ 3 _,HC.out.far (by simp) _,HD.out.far (by simp) _,by (first | exact Ext.refl _ | (unfold Ext;repeat (first | exact Below.refl _ _ | assumption | refine BeA ?_ | refine BeC ?_ | refine Below.drew ?_)))⟩
   case measure=>simp [intOf]
  focus
   have b0:=hB.cell 0
   have b1:=hB.cell 1
   have b2:=hB.cell 2
   have b3:=hB.cell 3
   have d0:=hD.cell 0
   have d1:=hD.cell 1
   have d2:=hD.cell 2
   have d3:=hD.cell 3
   have f0:=hD.frozen 0
   have f1:=hD.frozen 1
   have f2:=hD.frozen 2
   have f3:=hD.frozen 3
   simp only [mix,List.getElem?_cons_zero,List.getElem?_cons_succ] at b0 b1 b2 b3 d0 d1 d2 d3
   have HB:=Lib.hid hB
   have HC:=Lib.hid hC
   have HD:=Lib.hid hD
   clear hB hC hD
   go_wp2
   refine bodyPost_ret (v:=sp fun j=>p j || q j) ?_ rfl ⟨rfl,?_⟩
   ·rw [results_cell1 rfl]
    unfold sp
    go_simp
    trace_state
   ·(first | exact Ext.refl _ | (unfold Ext;repeat (first | exact Below.refl _ _ | assumption | refine BeA ?_ | refine BeC ?_ | refine Below.drew ?_)))
end Go.Proofs.YtigmdlchbjanoaaGreatDoor
namespace Go.Proofs.YtigmdlchbjanoaaGreatDoor
open Go Go.RowKit
theorem ones_bit (j:Nat):Nat.testBit 18446744073709551615 j=decide (j<64):=Nat.testBit_two_pow_sub_one 64 j
theorem wd_not (p:Nat→Bool) (k:Nat):18446744073709551615 ^^^ wd p k=wd (fun j=>!p j) k:=by
 refine bnum_eq fun j=>?_
 rw [Nat.testBit_xor,wd_bit,ones_bit]
 cases decide (j<64) <;> simp
theorem not_wd (p:Nat→Bool) (k:Nat):bits BinOp.xor IntKind.u64 (if IntKind.u64.signed=true then -1 else IntKind.u64.max) (wd p k:Nat)=(wd (fun j=>!p j) k:Nat):=by
 have e:(if IntKind.u64.signed=true then -1 else IntKind.u64.max)=((18446744073709551615:Nat):Int):=rfl
 rw [e]
 exact (u64_xor_nat _ _ (by decide) (wd_lt _ _)).trans (by rw [wd_not])
theorem one_wd (c k j:Nat) (hck:c=64*k+j) (hj:j<64):2 ^ j=wd (fun i=>i == c) k:=by
 refine bnum_eq fun i=>?_
 rw [Nat.testBit_two_pow]
 by_cases h:j=i
 ·subst h;simp [hj,hck]
 ·simp [h,hck];omega
theorem one_wd' (c k j n:Nat) (hck:c=64*k+j) (hj:j<64) (hn:n ≠ k):wd (fun i=>i == c) n=0:=by
 refine Eq.symm (bnum_eq fun i=>?_)
 simp
 omega
set_option maxHeartbeats 1000000 in
set_option maxRecDepth 20000 in
theorem setNot (p:Nat→Bool) (w:World) :
  Calls Tryz.prog 59 #[sp p] w fun e w'=>e=.returned (sp fun j=>!p j)∧Ext w w':=by
 unfold sp
 go_enter Tryz.func59,Tryz.ntmps59
 go_wp2
 go_loopw [4] (fun iv wr=>∃ i:Nat,i≤4∧iv=.int .i64 i∧Blk wr w.heap.size 25 (mix (wd p) (wd fun j=>!p j) i)∧Blk wr (w.heap.size+1) 25 (mix (fun _=>0) (fun _=>0) 0)∧Ext w wr) (fun iv _=>4-(intOf iv).toNat)
 case atStart=>exact ⟨0,by omega,rfl,((Blk.newA rfl _ _).alloc _),Blk.newA (by simp) _ _,by (first | exact Ext.refl _ | (unfold Ext;repeat (first | exact Below.refl _ _ | assumption | refine BeA ?_ | refine BeC ?_ | refine Below.drew ?_)))⟩
 case round =>
  obtain ⟨i,hi,rfl,hB,hD,hx⟩:=hrel
  have hi4:i=0∨i=1∨i=2∨i=3∨i=4:=by omega
  rcases hi4 with rfl | rfl | rfl | rfl | rfl
  focus
   have b0:=hB.cell 0
   have f0:=hB.frozen 0
   have r0:=not_wd p 0
   simp only [mix,List.getElem?_cons_zero] at b0
   have HB:=Lib.hid hB
   have HD:=Lib.hid hD
   clear hB hD
   go_wp2
   go_roundw
   case rel=>exact ⟨1,by omega,by go_num,HB.out.set_ 0 _,HD.out.far (by simp) _,by (first | exact Ext.refl _ | (unfold Ext;repeat (first | exact Below.refl _ _ | assumption | refine BeA ?_ | refine BeC ?_ | refine Below.drew ?_)))⟩
   case measure=>simp [intOf]
  focus
   have b0:=hB.cell 1
   have f0:=hB.frozen 1
   have r0:=not_wd p 1
   simp only [mix,List.getElem?_cons_zero,List.getElem?_cons_succ] at b0
   have HB:=Lib.hid hB
   have HD:=Lib.hid hD
   clear hB hD
   go_wp2
   go_roundw
   case rel=>exact ⟨2,by omega,by go_num,HB.out.set_ 1 _,HD.out.far (by simp) _,by (first | exact Ext.refl _ | (unfold Ext;repeat (first | exact Below.refl _ _ | assumption | refine BeA ?_ | refine BeC ?_ | refine Below.drew ?_)))⟩
   case measure=>simp [intOf]
  focus
   have b0:=hB.cell 2
   have f0:=hB.frozen 2
   have r0:=not_wd p 2
   simp only [mix,List.getElem?_cons_zero,List.getElem?_cons_succ] at b0
   have HB:=Lib.hid hB
   have HD:=Lib.hid hD
   clear hB hD
   go_wp2
   go_roundw
   case rel=>exact ⟨3,by omega,by go_num,HB.out.set_ 2 _,HD.out.far (by simp) _,by (first | exact Ext.refl _ | (unfold Ext;repeat (first | exact Below.refl _ _ | assumption | refine BeA ?_ | refine BeC ?_ | refine Below.drew ?_)))⟩
   case measure=>simp [intOf]
  focus
   have b0:=hB.cell 3
   have f0:=hB.frozen 3
   have r0:=not_wd p 3
   simp only [mix,List.getElem?_cons_zero,List.getElem?_cons_succ] at b0
   have HB:=Lib.hid hB
   have HD:=Lib.hid hD
   clear hB hD
   go_wp2
   go_roundw
   case rel=>exact ⟨4,by omega,by go_num,HB.out.set_ 3 _,HD.out.far (by simp) _,by (first | exact Ext.refl _ | (unfold Ext;repeat (first | exact Below.refl _ _ | assumption | refine BeA ?_ | refine BeC ?_ | refine Below.drew ?_)))⟩
   case measure=>simp [intOf]
  focus
   have b0:=hB.cell 0
   have b1:=hB.cell 1
   have b2:=hB.cell 2
   have b3:=hB.cell 3
   have d0:=hD.cell 0
   have d1:=hD.cell 1
   have d2:=hD.cell 2
   have d3:=hD.cell 3
   have f0:=hD.frozen 0
   have f1:=hD.frozen 1
   have f2:=hD.frozen 2
   have f3:=hD.frozen 3
   simp only [mix,List.getElem?_cons_zero,List.getElem?_cons_succ] at b0 b1 b2 b3 d0 d1 d2 d3
   have HB:=Lib.hid hB
   have HD:=Lib.hid hD
   clear hB hD
   go_wp2
   refine bodyPost_ret (v:=sp fun j=>!p j) ?_ rfl ⟨rfl,?_⟩
   ·rw [results_cell1 rfl]
    unfold sp
    go_simp
   ·(first | exact Ext.refl _ | (unfold Ext;repeat (first | exact Below.refl _ _ | assumption | refine BeA ?_ | refine BeC ?_ | refine Below.drew ?_)))
set_option maxHeartbeats 1000000 in
set_option maxRecDepth 20000 in
theorem setOne (c:Nat) (hc:c<256) (w:World) :
  Calls Tryz.prog 20 #[.int .u8 (c:Nat)] w fun e w'=>e=.returned (sp fun j=>j == c)∧Ext w w':=by
 obtain ⟨k,hk⟩:∃ k,c / 64=k:=⟨_,rfl⟩
 obtain ⟨j,hj⟩:∃ j,c % 64=j:=⟨_,rfl⟩
 have hck:c=64*k+j:=by omega
 have hj6:j<64:=by omega
 have hk4:k=0∨k=1∨k=2∨k=3:=by omega
 have e1:(c:Int).tdiv 64=(k:Int):=by rw [← hk];rfl
 have e2:(c:Int).tmod 64=(j:Int):=by rw [← hj];rfl
 have e3:IntKind.u64.wrap (2 ^ j)=(wd (fun j=>j == c) k:Nat):=by
  rw [show ((2:Int) ^ j)=((2 ^ j:Nat):Int) by simp,wrap_id64 _ (Nat.pow_lt_pow_of_lt (a:=2) (m:=64) (by omega) hj6),one_wd c k j hck hj6]
 have e4:∀ n,n ≠ k→wd (fun j=>j == c) n=0:=fun n hnk=>one_wd' c k j n hck hj6 hnk
 unfold sp
 clear hk hj hck
 rcases hk4 with rfl | rfl | rfl | rfl
 all_goals
  go_enter Tryz.func20,Tryz.ntmps20
  go_wp2
  refine bodyPost_ret (v:=sp fun j=>j == c) ?_ rfl ⟨rfl,by (first | exact Ext.refl _ | (unfold Ext;repeat (first | exact Below.refl _ _ | assumption | refine BeA ?_ | refine BeC ?_ | refine Below.drew ?_)))⟩
  rw [results_cell1 rfl]
  unfold sp
  (try rw [e4 0 (by omega)])
  (try rw [e4 1 (by omega)])
  (try rw [e4 2 (by omega)])
  (try rw [e4 3 (by omega)])
  go_simp
end Go.Proofs.YtigmdlchbjanoaaGreatDoor
namespace Go.Proofs.YtigmdlchbjanoaaGreatDoor
open Go Go.RowKit
theorem run_index_arr {P:Program} (t e:TypeId) (n:Nat) (cs:Array Value) (i:Nat) (v:Value) (h:P.underlying t=some (.array n e)) (he:(P.info? e).map (·.size)=some 1) (ha:∀ w,(isAgg e).run P w=.ok false w) (hi:i<n) (hv:cs[i]?=some v) (w:World) :
  (Instr.index t (.agg cs) (.int .i64 (i:Nat))).run P w=.ok v w:=by
 cases hq:P.info? e with
 | none=>simp [hq] at he
 | some d =>
  simp [hq] at he
  simp [Instr.index,run_underlying h,asIntOf,go_sem,part,sizeOf,typeInfo,hq,he,ha,hv]
  omega
theorem sp_empty:sp (fun _=>false)=.agg #[.int .u64 0,.int .u64 0,.int .u64 0,.int .u64 0]:=by
 have e:∀ k,wd (fun _=>false) k=0:=fun k=>Eq.symm (bnum_eq fun i=>by simp)
 unfold sp
 rw [e,e,e,e]
 rfl
set_option maxHeartbeats 1000000 in
set_option maxRecDepth 20000 in
theorem setAll (w:World) :
  Calls Tryz.prog 41 #[] w fun e w'=>e=.returned (sp fun _=>true)∧Ext w w':=by
 go_enter Tryz.func41,Tryz.ntmps41
 go_wp2_with (go_at_call 59;have h:=setNot (fun _=>false) (w.alloc (.cells #[.int .u64 0,.int .u64 0,.int .u64 0,.int .u64 0] 25));rw [sp_empty] at h;refine h.mono ?_;rintro e w1 ⟨rfl,hx1⟩;simp only [Bool.not_false];unfold sp;have hD:=(Blk.newA (w:=w) rfl 25 (mix (fun _=>0) (fun _=>0) 0)).keep hx1;have d0:=hD.cell 0;have d1:=hD.cell 1;have d2:=hD.cell 2;have d3:=hD.cell 3;have f0:=hD.frozen 0;have f1:=hD.frozen 1;have f2:=hD.frozen 2;have f3:=hD.frozen 3;simp only [mix,List.getElem?_cons_zero,List.getElem?_cons_succ] at d0 d1 d2 d3;have hx:=(Ext.new1 _ _).trans hx1;have HD:=Lib.hid hD;have HX1:=Lib.hid hx1;clear hD hx1)
 all_goals
  refine bodyPost_ret (v:=sp fun _=>true) ?_ rfl ⟨rfl,by (first | exact Ext.refl _ | (unfold Ext;repeat (first | exact Below.refl _ _ | assumption | refine BeA ?_ | refine BeC ?_ | refine Below.drew ?_)))⟩
  rw [results_cell1 rfl]
  unfold sp
  go_simp
end Go.Proofs.YtigmdlchbjanoaaGreatDoor
