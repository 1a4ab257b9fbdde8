/- Put together: Cl6, Cl7, Cl8. -/
import Derived.Test.YtigmdlchbjanoaaGreatDoorPTgB
import Derived.Deep.WholeRow
import Derived.Test.YtigmdlchbjanoaaGreatDoorPTgA
import Derived.Laws.StructEq
import Derived.Laws.Small
namespace Go.Proofs.YtigmdlchbjanoaaGreatDoor
open Go Go.RowKit
def bcs (p:Nat→Bool):Array Value:=Array.ofFn (n:=256) fun i=>.bool (p i)
theorem bcs_size (p:Nat→Bool):(bcs p).size=256:=by simp [bcs]
theorem bcs_get (p:Nat→Bool) {j:Nat} (h:j<256):(bcs p)[j]?=some (.bool (p j)):=by simp [bcs,h]
theorem bcs_out (p:Nat→Bool) {j:Nat} (h:¬ j<256):(bcs p)[j]?=none:=by simp [bcs];omega
theorem bcs_set (p:Nat→Bool) (i:Nat) (b:Bool):(bcs p).setIfInBounds i (.bool b)=bcs (fun j=>if j=i then b else p j):=by
 apply Array.ext_getElem?
 intro j
 rw [Array.getElem?_setIfInBounds]
 by_cases hj:j<256
 ·rw [bcs_get _ hj,bcs_get _ hj,bcs_size]
  by_cases h:i=j
  ·subst h
   simp [hj]
  ·have h':¬ j=i:=fun e=>h e.symm
   simp [h,h']
 ·rw [bcs_out _ hj,bcs_out _ hj,bcs_size]
  by_cases h:i=j
  ·subst h
   simp [hj]
  ·simp [h]
theorem bcs_congr {p q:Nat→Bool} (h:∀ c,c<256→p c=q c):bcs p=bcs q:=by
 unfold bcs
 congr 1
 funext i
 rw [h i.1 i.2]
theorem bcs_one (p:Nat→Bool):(bcs p).all (·.oneCell')=true:=by
 rw [Array.all_eq_true]
 intro i hi
 simp [bcs,Value.oneCell']
attribute [irreducible] bcs
def bp (p:Nat→Bool):Value:=.agg (bcs p)
theorem zero28:Tryz.zeroCells35=bcs (fun _=>false):=by unfold bcs;kernel_rfl
theorem set_size:(Tryz.prog.info? 35).map (·.size)=some 256:=by kernel_rfl
def BB (w:World) (g:Nat) (p:Nat→Bool):Prop:=w.heap[g]?=some (.cells (bcs p) 35 (0,0))
theorem BB.blk {w:World} {g:Nat} {p:Nat→Bool} (h:BB w g p):Blk w g 35 (bcs p).toList:=h
theorem BB.of {w:World} {g:Nat} {p:Nat→Bool} (h:Blk w g 35 (bcs p).toList):BB w g p:=h
theorem BB.cell {w:World} {g:Nat} {p:Nat→Bool} (h:BB w g p) {j:Nat} (hj:j<256):w.cell? ⟨g,j,none⟩=some (.bool (p j)):=by
 rw [h.blk.cell,Array.getElem?_toList,bcs_get p hj]
theorem BB.frozen {w:World} {g:Nat} {p:Nat→Bool} (h:BB w g p) (j:Nat):w.frozen? ⟨g,j,none⟩=false:=h.blk.frozen j
theorem BB.lt {w:World} {g:Nat} {p:Nat→Bool} (h:BB w g p):g<w.heap.size:=h.blk.lt
theorem BB.keep {w w':World} {g:Nat} {p:Nat→Bool} (h:BB w g p) (hx:Ext w w'):BB w' g p:=h.blk.keep hx
theorem BB.alloc {w:World} {g:Nat} {p:Nat→Bool} (h:BB w g p) (o:Obj):BB (w.alloc o) g p:=h.blk.alloc o
theorem BB.far {w:World} {g:Nat} {p:Nat→Bool} (h:BB w g p) {a:Addr} (ha:g ≠ a.block) (u:Value):BB (w.setCell a u) g p:=h.blk.far ha u
theorem BB.set_ {w:World} {g:Nat} {p:Nat→Bool} (h:BB w g p) (i:Nat) (b:Bool):BB (w.setCell ⟨g,i,none⟩ (.bool b)) g (fun j=>if j=i then b else p j):=by
 have:=h.blk.set_ i (.bool b)
 unfold Blk at this
 unfold BB
 rw [← bcs_set,this,← Array.toList_setIfInBounds,Array.toArray_toList]
theorem BB.new {w:World} {g:Nat} (h:w.heap.size=g) (p:Nat→Bool):BB (w.alloc (.cells (bcs p) 35)) g p:=by
 subst h
 exact heap_alloc_new w _
theorem BB.zero {w:World} {g:Nat} (h:w.heap.size=g):BB (w.alloc (.cells Tryz.zeroCells35 35)) g (fun _=>false):=by
 rw [zero28]
 exact BB.new h _
theorem BB.congr {w:World} {g:Nat} {p q:Nat→Bool} (h:BB w g p) (e:∀ c,c<256→p c=q c):BB w g q:=by
 unfold BB at *
 rw [h,bcs_congr e]
theorem BB.row {w:World} {g:Nat} {p:Nat→Bool} (h:BB w g p) (q:Nat→Bool):BB (w.setRow g (bcs q)) g q:=setRow_heap w g _ _ _ _ h
theorem BB.rowFar {w:World} {g k:Nat} {p:Nat→Bool} (h:BB w k p) (q:Nat→Bool) (hk:k ≠ g):BB (w.setRow g (bcs q)) k p:=(setRow_other w g k _ hk).trans h
theorem Ext.row {w w':World} (h:Ext w w') (g:Nat) (cs:Array Value) (hg:w.heap.size≤g):Ext w (w'.setRow g cs):=
 ⟨h.os,h.tape,h.output,by rw [setRow_size];exact h.size,fun k hk=>(setRow_other w' g k cs (by omega)).trans (h.block k hk)⟩
theorem load_set {w:World} {ops:Array Oper} {rest:List Oper} {o:Oper} {a:Act} {Q:Exit→Act→World→Prop} (hgd:o.guard=none) (x:Operand) (ho:o.op=.load 35 x)
  {g:Nat} {p:Nat→Bool} (hx:a.eval x=.pointer (some ⟨g,0,none⟩)) (hg:BB w g p) (h:wpList Tryz.prog ops Q rest (a.put o.dst (.agg (bcs p))) w):wpList Tryz.prog ops Q (o :: rest) a w:=
 wpList_load_row hgd _ x ho g hx _ (bcs p) _ _ hg Tryz.underlying35 rfl (by rw [bcs_size];exact set_size) h
theorem store_set {w:World} {ops:Array Oper} {rest:List Oper} {o:Oper} {a:Act} {Q:Exit→Act→World→Prop} (hgd:o.guard=none) (x y:Operand) (ho:o.op=.store 35 x y)
  {g:Nat} {p q:Nat→Bool} (hx:a.eval x=.pointer (some ⟨g,0,none⟩)) (hy:a.eval y=.agg (bcs q)) (hg:BB w g p) (h:wpList Tryz.prog ops Q rest (a.put o.dst undef) (w.setRow g (bcs q))):wpList Tryz.prog ops Q (o :: rest) a w:=
 wpList_store_row hgd _ x y ho g (bcs q) hx hy _ (bcs p) hg (by rw [bcs_size];exact set_size) (by rw [bcs_size,bcs_size]) (bcs_one q) h
theorem results_set {fn:Func} {p:Tmp} (h:fn.results=#[.cell p 35]) (tmps:Array Value) (w:World) (g:Nat) (q:Nat→Bool)
  (hp:tmps.getD p undef=.pointer (some ⟨g,0,none⟩)) (hg:BB w g q):(results fn tmps).run Tryz.prog w=.ok (bp q) w:=
 results_cell_row h tmps w g _ (bcs q) _ _ hp hg Tryz.underlying35 rfl (by rw [bcs_size];exact set_size)
set_option maxHeartbeats 1000000 in
set_option maxRecDepth 20000 in
theorem refNot (p:Nat→Bool) (w:World) :
  Calls Tryz.prog 48 #[bp p] w fun e w'=>e=.returned (bp fun j=>!p j)∧Ext w w':=by
 unfold bp
 go_enter Tryz.func48,Tryz.ntmps48
 go_wp2
 go_loopw [4] (fun iv wr=>∃ i:Nat,i≤256∧iv=.int .i64 i∧BB wr w.heap.size (fun j=>if j<i then !p j else p j)∧BB wr (w.heap.size+1) (fun _=>false)∧Ext w wr) (fun iv _=>256-(intOf iv).toNat)
 case atStart=>exact ⟨0,by omega,rfl,((BB.new rfl p).alloc _).congr (fun c hc=>by simp),BB.zero (by simp),by (first | exact Ext.refl _ | (unfold Ext;repeat (first | exact Below.refl _ _ | assumption | refine BeA ?_ | refine BeC ?_ | refine Below.drew ?_)))⟩
 case round =>
  obtain ⟨i,hi,rfl,hB,hD,hx⟩:=hrel
  by_cases hlt:i<256
  ·have b0:=hB.cell hlt
   have f0:=hB.frozen i
   have hlt':(i:Int)<256:=by omega
   simp only [Nat.lt_irrefl,if_false] at b0
   have HB:=Lib.hid hB
   have HD:=Lib.hid hD
   clear hB hD
   go_wp2
   go_roundw
   case rel=>exact ⟨i+1,by omega,by go_num,(HB.out.set_ i (!p i)).congr (fun c hc=>by by_cases h:c=i <;> by_cases h2:c<i <;> simp [h,h2] <;> omega),HD.out.far (by simp) _,by (first | exact Ext.refl _ | (unfold Ext;repeat (first | exact Below.refl _ _ | assumption | refine BeA ?_ | refine BeC ?_ | refine Below.drew ?_)))⟩
   case measure=>simp [intOf];omega
  ·obtain rfl:i=256:=by omega
   have HB:=hB.congr (q:=fun j=>!p j) (fun c hc=>by simp [hc])
   clear hB
   go_wp2_with (first | (refine load_set rfl (.tmp 1) rfl (g:=w.heap.size) rfl HB ?_) | (refine store_set rfl (.tmp 2) (.tmp 14) rfl (g:=w.heap.size+1) rfl rfl hD ?_))
   exact bodyPost_ret (v:=bp fun j=>!p j) (results_set rfl _ _ (w.heap.size+1) _ (by simp [Act.put]) (hD.row _)) rfl ⟨rfl,hx.row _ _ (by omega)⟩
end Go.Proofs.YtigmdlchbjanoaaGreatDoor
namespace Go.Proofs.YtigmdlchbjanoaaGreatDoor
open Go Go.RowKit
set_option maxHeartbeats 1000000 in
set_option maxRecDepth 20000 in
theorem refOr (p q:Nat→Bool) (w:World) :
  Calls Tryz.prog 51 #[bp p,bp q] w fun e w'=>e=.returned (bp fun j=>p j || q j)∧Ext w w':=by
 unfold bp
 go_enter Tryz.func51,Tryz.ntmps51
 go_wp2
 go_loopw [6] (fun iv wr=>∃ i:Nat,i≤256∧iv=.int .i64 i∧BB wr w.heap.size (fun j=>if j<i then p j || q j else p j)∧BB wr (w.heap.size+1) q∧BB wr (w.heap.size+2) (fun _=>false)∧Ext w wr) (fun iv _=>256-(intOf iv).toNat)
 case atStart=>exact ⟨0,by omega,rfl,(((BB.new rfl p).alloc _).alloc _).congr (fun c hc=>by simp),(BB.new (by simp) q).alloc _,BB.zero (by simp),by (first | exact Ext.refl _ | (unfold Ext;repeat (first | exact Below.refl _ _ | assumption | refine BeA ?_ | refine BeC ?_ | refine Below.drew ?_)))⟩
 case round =>
  obtain ⟨i,hi,rfl,hB,hC,hD,hx⟩:=hrel
  by_cases hlt:i<256
  ·have b0:=hB.cell hlt
   have c0:=hC.cell hlt
   have f0:=hB.frozen i
   have hlt':(i:Int)<256:=by omega
   simp only [Nat.lt_irrefl,if_false] at b0
   have HB:=Lib.hid hB
   have HC:=Lib.hid hC
   have HD:=Lib.hid hD
   clear hB hC hD
   obtain ⟨x,hx1⟩:∃ x,p i=x:=⟨_,rfl⟩
   obtain ⟨y,hy1⟩:∃ y,q i=y:=⟨_,rfl⟩
   rw [hx1] at b0
   rw [hy1] at c0
   have HX:=Lib.hid hx1
   have HY:=Lib.hid hy1
   clear hx1 hy1
   cases x
   ·go_wp2
    go_roundw
    case rel=>exact ⟨i+1,by omega,by go_num,(HB.out.set_ i y).congr (fun c hc=>by by_cases h:c=i;(subst h;simp [HX.out,HY.out]);(by_cases h2:c<i <;> simp [h,h2] <;> omega)),HC.out.far (by simp) _,HD.out.far (by simp) _,by (first | exact Ext.refl _ | (unfold Ext;repeat (first | exact Below.refl _ _ | assumption | refine BeA ?_ | refine BeC ?_ | refine Below.drew ?_)))⟩
    case measure=>simp [intOf];omega
   ·go_wp2
    go_roundw
    case rel=>exact ⟨i+1,by omega,by go_num,(HB.out.set_ i true).congr (fun c hc=>by by_cases h:c=i;(subst h;simp [HX.out,HY.out]);(by_cases h2:c<i <;> simp [h,h2] <;> omega)),HC.out.far (by simp) _,HD.out.far (by simp) _,by (first | exact Ext.refl _ | (unfold Ext;repeat (first | exact Below.refl _ _ | assumption | refine BeA ?_ | refine BeC ?_ | refine Below.drew ?_)))⟩
    case measure=>simp [intOf];omega
  ·obtain rfl:i=256:=by omega
   have HB:=hB.congr (q:=fun j=>p j || q j) (fun c hc=>by simp [hc])
   clear hB
   go_wp2_with (first | (refine load_set rfl (.tmp 2) rfl (g:=w.heap.size) rfl HB ?_) | (refine store_set rfl (.tmp 4) (.tmp 20) rfl (g:=w.heap.size+2) rfl rfl hD ?_))
   exact bodyPost_ret (v:=bp fun j=>p j || q j) (results_set rfl _ _ (w.heap.size+2) _ (by simp [Act.put]) (hD.row _)) rfl ⟨rfl,hx.row _ _ (by omega)⟩
set_option maxHeartbeats 1000000 in
set_option maxRecDepth 20000 in
theorem refFrom (a b:Nat) (ha:a<256) (hb:b<256) (w:World) :
  Calls Tryz.prog 27 #[.int .i64 (a:Nat),.int .i64 (b:Nat)] w fun e w'=>e=.returned (bp fun j=>decide (a≤j) && decide (j≤b))∧Ext w w':=by
 go_enter Tryz.func27,Tryz.ntmps27
 go_wp2_with (refine store_set rfl (.tmp 5) (.tmp 7) rfl (g:=w.heap.size+1) (q:=fun _=>false) rfl (by rw [← zero28];rfl) (BB.zero (by simp)) ?_)
 go_loopw [6] (fun iv wr=>∃ i:Nat,i≤256∧a≤i∧(i=a∨i≤b+1)∧iv=.int .i64 i∧BB wr (w.heap.size+1) (fun j=>decide (a≤j) && decide (j<i))∧BB wr w.heap.size (fun _=>false)∧Ext w wr) (fun iv _=>256-(intOf iv).toNat)
 case atStart=>exact ⟨a,by omega,Nat.le_refl _,.inl rfl,rfl,((BB.zero (w:=w.alloc (.cells Tryz.zeroCells35 35)) (g:=w.heap.size+1) (by simp)).row _).congr (fun c hc=>by first | (simp;done) | (simp;omega)),((BB.zero rfl).alloc _).rowFar _ (by omega),Ext.row (by (first | exact Ext.refl _ | (unfold Ext;repeat (first | exact Below.refl _ _ | assumption | refine BeA ?_ | refine BeC ?_ | refine Below.drew ?_)))) _ _ (by omega)⟩
 case round =>
  obtain ⟨i,hi,hai,hib,rfl,hB,hD,hx⟩:=hrel
  by_cases hlt:i≤b
  ·have b0:=hB.cell (j:=i) (by omega)
   have f0:=hB.frozen i
   have hlt':(i:Int)<256:=by omega
   have hle':(i:Int)≤(b:Int):=by omega
   have HB:=Lib.hid hB
   have HD:=Lib.hid hD
   clear hB hD
   go_wp2
   go_roundw
   case rel=>exact ⟨i+1,by omega,by omega,.inr (by omega),by go_num,(HB.out.set_ i true).congr (fun c hc=>by by_cases h:c=i;(subst h;simp;omega);(by_cases h2:c<i <;> simp [h,h2] <;> omega)),HD.out.far (by simp) _,by (first | exact Ext.refl _ | (unfold Ext;repeat (first | exact Below.refl _ _ | assumption | refine BeA ?_ | refine BeC ?_ | refine Below.drew ?_)))⟩
   case measure=>simp [intOf];omega
  ·have HB:=hB.congr (q:=fun j=>decide (a≤j) && decide (j≤b)) (fun c hc=>by rw [Bool.eq_iff_iff];simp only [Bool.and_eq_true,decide_eq_true_eq];omega)
   have hle':¬ (i:Int)≤(b:Int):=by omega
   clear hB
   go_wp2_with (first | (refine load_set rfl (.tmp 5) rfl (g:=w.heap.size+1) rfl HB ?_) | (refine store_set rfl (.tmp 4) (.tmp 16) rfl (g:=w.heap.size) rfl rfl hD ?_))
   exact bodyPost_ret (v:=bp fun j=>decide (a≤j) && decide (j≤b)) (results_set rfl _ _ w.heap.size _ (by simp) (hD.row _)) rfl ⟨rfl,hx.row _ _ (by omega)⟩
set_option maxHeartbeats 1000000 in
set_option maxRecDepth 20000 in
theorem refIn (l:List UInt8) (hl:l.length≤1000000) (w:World) :
  Calls Tryz.prog 25 #[.string ⟨l.toArray⟩] w fun e w'=>e=.returned (bp fun j=>l.any fun c=>c.toNat == j)∧Ext w w':=by
 go_enter Tryz.func25,Tryz.ntmps25
 go_wp2_with (refine store_set rfl (.tmp 3) (.tmp 5) rfl (g:=w.heap.size+1) (q:=fun _=>false) rfl (by rw [← zero28];rfl) (BB.zero (by simp)) ?_)
 go_loopw [4] (fun iv wr=>∃ i:Nat,i≤l.length∧iv=.int .i64 i∧BB wr (w.heap.size+1) (fun j=>(l.take i).any fun c=>c.toNat == j)∧BB wr w.heap.size (fun _=>false)∧Ext w wr) (fun iv _=>l.length-(intOf iv).toNat)
 case atStart=>exact ⟨0,by omega,rfl,((BB.zero (w:=w.alloc (.cells Tryz.zeroCells35 35)) (g:=w.heap.size+1) (by simp)).row _).congr (fun c hc=>by simp),((BB.zero rfl).alloc _).rowFar _ (by omega),Ext.row (by (first | exact Ext.refl _ | (unfold Ext;repeat (first | exact Below.refl _ _ | assumption | refine BeA ?_ | refine BeC ?_ | refine Below.drew ?_)))) _ _ (by omega)⟩
 case round =>
  obtain ⟨i,hi,rfl,hB,hD,hx⟩:=hrel
  by_cases hlt:i<l.length
  ·obtain ⟨c,hc⟩:∃ c,l[i]'hlt=c:=⟨_,rfl⟩
   have hc6:(c.toNat:Int)<256:=by have:=UInt8.toNat_lt c;omega
   have b0:=hB.cell (j:=c.toNat) (by omega)
   have f0:=hB.frozen c.toNat
   have hlt':(i:Int)<(l.length:Int):=by omega
   have HB:=Lib.hid hB
   have HD:=Lib.hid hD
   have ht:l.take (i+1)=l.take i ++ [c]:=by rw [List.take_succ_eq_append_getElem hlt,hc]
   have HT:=Lib.hid ht
   clear hB hD ht
   go_wp2
   go_roundw
   case rel=>exact ⟨i+1,by omega,by go_num,(HB.out.set_ c.toNat true).congr (fun d hd=>by rw [HT.out,List.any_append];by_cases h:d=c.toNat;(subst h;simp);(have h':¬ c.toNat=d:=fun e=>h e.symm);simp [h,h']),HD.out.far (by simp) _,by (first | exact Ext.refl _ | (unfold Ext;repeat (first | exact Below.refl _ _ | assumption | refine BeA ?_ | refine BeC ?_ | refine Below.drew ?_)))⟩
   case measure=>simp [intOf];omega
  ·obtain rfl:i=l.length:=by omega
   rw [List.take_length] at hB
   go_wp2_with (first | (refine load_set rfl (.tmp 3) rfl (g:=w.heap.size+1) rfl hB ?_) | (refine store_set rfl (.tmp 2) (.tmp 16) rfl (g:=w.heap.size) rfl rfl hD ?_))
   exact bodyPost_ret (v:=bp fun j=>l.any fun c=>c.toNat == j) (results_set rfl _ _ w.heap.size _ (by simp [Act.put]) (hD.row _)) rfl ⟨rfl,hx.row _ _ (by omega)⟩
theorem ix_set (p:Nat→Bool) (i:Nat) (hi:i<256) (w:World):(Instr.index 35 (.agg (bcs p)) (.int .i64 (i:Nat))).run Tryz.prog w=.ok (.bool (p i)) w:=
 run_index_arr _ _ 256 _ i _ Tryz.underlying35 (by kernel_rfl) (fun w=>by kernel_rfl) hi (bcs_get p hi) w
set_option maxHeartbeats 1000000 in
set_option maxRecDepth 20000 in
theorem refLeast (p:Nat→Bool) (m:Nat) (hm:m<256) (hp:p m=true) (hl:∀ j,j<m→p j=false) (w:World) :
  Calls Tryz.prog 50 #[bp p] w fun e w'=>e=.returned (.int .i64 (m:Nat))∧Ext w w':=by
 unfold bp
 have HL:=Lib.hid hl
 have HP:=Lib.hid hp
 clear hl hp
 go_enter Tryz.func50,Tryz.ntmps50
 go_wp2_with (refine load_set rfl (.tmp 1) rfl (g:=w.heap.size) rfl (BB.new rfl p) ?_)
 go_loopw [6] (fun iv wr=>∃ i:Nat,i≤m∧iv=.int .i64 i∧Ext w wr) (fun iv _=>256-(intOf iv).toNat)
 case atStart=>exact ⟨0,by omega,rfl,by (first | exact Ext.refl _ | (unfold Ext;repeat (first | exact Below.refl _ _ | assumption | refine BeA ?_ | refine BeC ?_ | refine Below.drew ?_)))⟩
 case round =>
  obtain ⟨i,hi,rfl,hx⟩:=hrel
  have hlt':(i:Int)<256:=by omega
  by_cases hlt:i<m
  ·have i0:∀ w,(Instr.index 35 (.agg (bcs p)) (.int .i64 (i:Nat))).run Tryz.prog w=.ok (.bool false) w:=fun w=>by rw [ix_set p i (by omega) w,HL.out i hlt]
   go_wp2
   go_roundw
   case rel=>exact ⟨i+1,by omega,by go_num,hx⟩
   case measure=>simp [intOf];omega
  ·obtain rfl:i=m:=by omega
   have i0:∀ w,(Instr.index 35 (.agg (bcs p)) (.int .i64 (i:Nat))).run Tryz.prog w=.ok (.bool true) w:=fun w=>by rw [ix_set p i (by omega) w,HP.out]
   go_wp2
   go_ret
   exact ⟨by simp,hx⟩
end Go.Proofs.YtigmdlchbjanoaaGreatDoor
namespace Go.Proofs.YtigmdlchbjanoaaGreatDoor
open Go Go.RowKit
attribute [local irreducible] wd
theorem wd_cell (p:Nat→Bool) (k:Nat) (hk:k<4):(mix (wd p) (wd p) 0)[k]?=some (.int .u64 (wd p k:Nat)):=by
 have h4:k=0∨k=1∨k=2∨k=3:=by omega
 rcases h4 with rfl | rfl | rfl | rfl <;> rfl
theorem half (p:Nat→Bool) (c k r X:Nat) (hc:c=64*k+r) (hr:r<64) (hX:wd p k / 2 ^ r=X):(((X:Nat):Int).tmod 2 == 1)=p c:=by
 have h1:(wd p k).testBit r=p c:=by rw [wd_bit,hc];simp [hr]
 rw [Nat.testBit_eq_decide_div_mod_eq,hX] at h1
 rw [← h1,show ((X:Nat):Int).tmod 2=((X % 2:Nat):Int) from rfl]
 by_cases h:X % 2=1
 ·simp [h]
 ·have h0:X % 2=0:=by omega
  simp [h0]
theorem Blk.rowFar {w:World} {g k:Nat} {e:TypeId} {cs:List Value} (h:Blk w k e cs) (c:Array Value) (hk:k ≠ g):Blk (w.setRow g c) k e cs:=(setRow_other w g k _ hk).trans h
set_option maxHeartbeats 1000000 in
set_option maxRecDepth 20000 in
theorem refOf (p:Nat→Bool) (w:World) :
  Calls Tryz.prog 34 #[sp p] w fun e w'=>e=.returned (bp p)∧Ext w w':=by
 unfold sp
 go_enter Tryz.func34,Tryz.ntmps34
 go_wp2_with (refine store_set rfl (.tmp 3) (.tmp 7) rfl (g:=w.heap.size+2) (q:=fun _=>false) rfl (by rw [← zero28];rfl) (BB.zero (by simp)) ?_)
 go_loopw [4] (fun iv wr=>∃ i:Nat,i≤256∧iv=.int .i64 i∧Blk wr w.heap.size 24 (mix (wd p) (wd p) 0)∧BB wr (w.heap.size+2) (fun j=>decide (j<i) && p j)∧BB wr (w.heap.size+1) (fun _=>false)∧Ext w wr) (fun iv _=>256-(intOf iv).toNat)
 case atStart=>exact ⟨0,by omega,rfl,(((Blk.newA rfl _ (mix (wd p) (wd p) 0)).alloc _).alloc _).rowFar _ (by omega),((BB.zero (w:=(w.alloc (.cells (mix (wd p) (wd p) 0).toArray 24)).alloc (.cells Tryz.zeroCells35 35)) (g:=w.heap.size+2) (by simp)).row _).congr (fun c hc=>by simp),((BB.zero (by simp)).alloc _).rowFar _ (by omega),Ext.row (by (first | exact Ext.refl _ | (unfold Ext;repeat (first | exact Below.refl _ _ | assumption | refine BeA ?_ | refine BeC ?_ | refine Below.drew ?_)))) _ _ (by omega)⟩
 case round =>
  obtain ⟨i,hi,rfl,hB,hC,hD,hx⟩:=hrel
  by_cases hlt:i<256
  ·obtain ⟨k,hk⟩:∃ k,i / 64=k:=⟨_,rfl⟩
   obtain ⟨r,hr⟩:∃ r,i % 64=r:=⟨_,rfl⟩
   have hck:i=64*k+r:=by omega
   have hr6:r<64:=by omega
   have hk4:(k:Int)<4:=by omega
   have e1:(i:Int).tdiv 64=(k:Int):=by rw [← hk];rfl
   have e2:(i:Int).tmod 64=(r:Int):=by rw [← hr];rfl
   have b0:=hB.cell k
   rw [wd_cell p k (by omega)] at b0
   have c0:=hC.cell hlt
   have f0:=hC.frozen i
   have hlt':(i:Int)<256:=by omega
   have HB:=Lib.hid hB
   have HC:=Lib.hid hC
   have HD:=Lib.hid hD
   have HK:=Lib.hid hck
   clear hB hC hD hck hk hr
   go_wp2
   go_loopw [5,6] (fun x jv wr'=>∃ j:Nat,j≤r∧jv=.int .i64 j∧x=.int .u64 (wd p k / 2 ^ j:Nat)∧wr'=wr) (fun _ jv _=>64-(intOf jv).toNat)
   case atStart=>exact ⟨0,by omega,rfl,by simp,by trivial⟩
   case round =>
    obtain ⟨j,hj,rfl,rfl,rfl⟩:=hrel
    obtain ⟨X,hX⟩:∃ X,wd p k / 2 ^ j=X:=⟨_,rfl⟩
    rw [hX]
    have e3:(X:Int).tdiv 2=((X / 2:Nat):Int):=rfl
    have e4:wd p k / 2 ^ (j+1)=X / 2:=by rw [Nat.pow_succ,← Nat.div_div_eq_div_mul,hX]
    have hX6:X<18446744073709551616:=by rw [← hX];exact Nat.lt_of_le_of_lt (Nat.div_le_self _ _) (wd_lt p k)
    have HX:=Lib.hid hX
    have H4:=Lib.hid e4
    clear hX e4
    by_cases hjr:j<r
    ·have hjr':(j:Int)<(r:Int):=by omega
     go_wp2
     go_roundw
     case rel=>exact ⟨j+1,by omega,by go_num,by rw [H4.out];exact congrArg (Value.int .u64) e3,by trivial⟩
     case measure=>simp [intOf];omega
    ·obtain rfl:j=r:=by omega
     have e5:=half p i k j X HK.out hr6 HX.out
     replace e5:((X:Int) % 2 == 1)=p i:=by rw [← e5];rfl
     go_wp2
     go_roundw
     case rel=>exact ⟨i+1,by omega,by go_num,HB.out.far (by simp;omega) _,(HC.out.set_ i _).congr (fun c hc=>by by_cases h:c=i;(subst h;simp);(by_cases h2:c<i <;> simp [h,h2] <;> omega)),HD.out.far (by simp) _,by (first | exact Ext.refl _ | (unfold Ext;repeat (first | exact Below.refl _ _ | assumption | refine BeA ?_ | refine BeC ?_ | refine Below.drew ?_)))⟩
     case measure=>simp [intOf];omega
  ·obtain rfl:i=256:=by omega
   have HC:=hC.congr (q:=p) (fun c hc=>by simp [hc])
   clear hC
   go_wp2_with (first | (refine load_set rfl (.tmp 3) rfl (g:=w.heap.size+2) rfl HC ?_) | (refine store_set rfl (.tmp 2) (.tmp 29) rfl (g:=w.heap.size+1) rfl rfl hD ?_))
   exact bodyPost_ret (v:=bp p) (results_set rfl _ _ (w.heap.size+1) _ (by simp [Act.put]) (hD.row _)) rfl ⟨rfl,hx.row _ _ (by omega)⟩
section
variable {P:Program}
theorem part_at (e:TypeId) (cs:Array Value) (i:Nat) (v:Value) (ha:∀ w,(isAgg e).run P w=.ok false w) (hv:cs[i]?=some v) (w:World) :
  (part e cs i).run P w=.ok v w:=by
 simp [part,ha,hv]
theorem run_equalIn_arr (d:Nat) (t e:TypeId) (n:Nat) (xs ys:Array Value) (u v:Nat→Value) (b:Nat→Bool) (ht:P.underlying t=some (.array n e)) (he:(P.info? e).map (·.size)=some 1) (ha:∀ w,(isAgg e).run P w=.ok false w)
  (hx:∀ i,i<n→xs[i]?=some (u i)) (hy:∀ i,i<n→ys[i]?=some (v i)) (hb:∀ i,i<n→∀ w,(Op.equalIn d e (u i) (v i)).run P w=.ok (b i) w) (w:World) :
  (Op.equalIn (d+1) t (.agg xs) (.agg ys)).run P w=.ok ((List.range' 0 n).all b) w:=by
 have hz:(sizeOf e).run P w=.ok 1 w:=by
  cases hq:P.info? e with
  | none=>simp [hq] at he
  | some i =>
   simp [hq] at he
   simp [sizeOf,typeInfo,hq,he]
 simp only [Op.equalIn,Sem.run_bind,run_underlying ht,Result.andThen_ok,hz]
 rw [Std.Legacy.Range.forIn_eq_forIn_range']
 have hs:([:n]:Std.Legacy.Range).size=n:=by simp [Std.Legacy.Range.size]
 simp only [hs]
 have key:∀ (m k:Nat),k+m≤n→((do
   let r ← forIn (List.range' k m) ((none,()):Option Bool × Unit) fun i _=>do
    let a ← part e xs (i*1)
    let c ← part e ys (i*1)
    let r ← Op.equalIn d e a c
    if (!r)=true then pure (ForInStep.done (some false,())) else pure (ForInStep.yield (none,()))
   match r.fst with
   | some a=>pure a
   | none=>pure true):Sem Bool).run P w=.ok ((List.range' k m).all b) w:=by
  intro m
  induction m with
  | zero=>intro k _;simp
  | succ m ih =>
   intro k hk
   have h1:=part_at (P:=P) e xs k _ ha (hx k (by omega)) w
   have h2:=part_at (P:=P) e ys k _ ha (hy k (by omega)) w
   have h3:=hb k (by omega) w
   have h4:=ih (k+1) (by omega)
   simp only [List.range'_succ,List.forIn_cons,Sem.run_bind,Nat.mul_one,h1,h2,h3,Result.andThen_ok,List.all_cons] at h4 ⊢
   cases hbk:b k
   ·simp
   ·simp only [Bool.not_true,Bool.false_eq_true,if_false,Sem.run_pure,Result.andThen_ok,Bool.true_and]
    exact h4
 have:=key n 0 (by omega)
 simp only [Sem.run_bind] at this
 refine Eq.trans ?_ this
 congr 1
 funext a w'
 obtain ⟨x,y⟩:=a
 cases x <;> rfl
end
def sameP (p q:Nat→Bool):Bool:=(List.range' 0 256).all fun i=>p i == q i
theorem sameP_iff (p q:Nat→Bool):sameP p q=true↔∀ c,c<256→p c=q c:=by
 unfold sameP
 rw [List.all_eq_true]
 constructor
 ·intro h c hc
  simpa using h c (by simp;omega)
 ·intro h c hc
  simp at hc
  simpa using h c (by omega)
theorem eq_set (p q:Nat→Bool) (w:World):(Op.equalIn 10000 35 (.agg (bcs p)) (.agg (bcs q))).run Tryz.prog w=.ok (sameP p q) w:=
 run_equalIn_arr 9999 _ _ 256 _ _ (fun i=>.bool (p i)) (fun i=>.bool (q i)) (fun i=>p i == q i) Tryz.underlying35 (by kernel_rfl) (fun w=>by kernel_rfl) (fun i hi=>bcs_get p hi) (fun i hi=>bcs_get q hi)
  (fun i _ w=>run_equalIn_bool w 9998 _ _ _ Tryz.underlying4) w
end Go.Proofs.YtigmdlchbjanoaaGreatDoor
