/- Put together: Cl9, Cl10, Cl11, Cl12. -/
import Derived.Test.YtigmdlchbjanoaaGreatDoorPTgC
import Derived.Test.YtigmdlchbjanoaaGreatDoorPTgA
import Derived.Shelf.Spec.TrailingZeros
namespace Go.Proofs.YtigmdlchbjanoaaGreatDoor
open Go Go.RowKit
attribute [local irreducible] wd
def SB (w:World) (g:Nat) (p:Nat→Bool):Prop:=Blk w g 25 (mix (wd p) (wd p) 0)
theorem SB.cells {w:World} {g:Nat} {p:Nat→Bool} (h:SB w g p):w.cell? ⟨g,0,none⟩=some (.int .u64 (wd p 0:Nat))∧w.cell? ⟨g,1,none⟩=some (.int .u64 (wd p 1:Nat))∧w.cell? ⟨g,2,none⟩=some (.int .u64 (wd p 2:Nat))∧w.cell? ⟨g,3,none⟩=some (.int .u64 (wd p 3:Nat)):=
 ⟨Blk.cell h 0,Blk.cell h 1,Blk.cell h 2,Blk.cell h 3⟩
theorem SB.frozen {w:World} {g:Nat} {p:Nat→Bool} (h:SB w g p) (j:Nat):w.frozen? ⟨g,j,none⟩=false:=Blk.frozen h j
theorem SB.lt {w:World} {g:Nat} {p:Nat→Bool} (h:SB w g p):g<w.heap.size:=Blk.lt h
theorem SB.keep {w w':World} {g:Nat} {p:Nat→Bool} (h:SB w g p) (hx:Ext w w'):SB w' g p:=Blk.keep h hx
theorem SB.chg {w w':World} {g:Nat} {p:Nat→Bool} {X:List Nat} (h:SB w g p) (hx:Chg X w w') (hg:g ∉ X):SB w' g p:=Blk.chg h hx hg
theorem SB.alloc {w:World} {g:Nat} {p:Nat→Bool} (h:SB w g p) (o:Obj):SB (w.alloc o) g p:=Blk.alloc h o
theorem SB.far {w:World} {g:Nat} {p:Nat→Bool} (h:SB w g p) {a:Addr} (ha:g ≠ a.block) (u:Value):SB (w.setCell a u) g p:=Blk.far h ha u
theorem SB.new {w:World} {g:Nat} (h:w.heap.size=g) (p:Nat→Bool):SB (w.alloc (.cells #[.int .u64 (wd p 0:Nat),.int .u64 (wd p 1:Nat),.int .u64 (wd p 2:Nat),.int .u64 (wd p 3:Nat)] 25)) g p:=Blk.newA h _ (mix (wd p) (wd p) 0)
theorem wd_none (k:Nat):wd (fun _=>false) k=0:=by unfold wd;exact Eq.symm (bnum_eq fun i=>by simp)
theorem SB.zero {w:World} {g:Nat} (h:w.heap.size=g):SB (w.alloc (.cells #[.int .u64 0,.int .u64 0,.int .u64 0,.int .u64 0] 25)) g (fun _=>false):=by
 have:=SB.new h (fun _=>false)
 rw [wd_none,wd_none,wd_none,wd_none] at this
 exact this
theorem SB.congr {w:World} {g:Nat} {p q:Nat→Bool} (h:SB w g p) (e:∀ c,c<256→p c=q c):SB w g q:=by
 have e1:∀ k,k<4→wd p k=wd q k:=fun k hk=>wd_congr fun j hj=>e _ (by omega)
 unfold SB at *
 unfold mix at *
 rw [e1 0 (by omega),e1 1 (by omega),e1 2 (by omega),e1 3 (by omega)] at h
 exact h
theorem SB.set4 {w:World} {g:Nat} {p:Nat→Bool} (h:SB w g p) (q:Nat→Bool):SB ((((w.setCell ⟨g,0,none⟩ (.int .u64 (wd q 0:Nat))).setCell ⟨g,1,none⟩ (.int .u64 (wd q 1:Nat))).setCell ⟨g,2,none⟩ (.int .u64 (wd q 2:Nat))).setCell ⟨g,3,none⟩ (.int .u64 (wd q 3:Nat))) g q:=
 (((Blk.set_ h 0 _).set_ 1 _).set_ 2 _).set_ 3 _
theorem SB.zset {w:World} {g:Nat} {p:Nat→Bool} (h:SB w g p):SB ((((w.setCell ⟨g,0,none⟩ (.int .u64 0)).setCell ⟨g,1,none⟩ (.int .u64 0)).setCell ⟨g,2,none⟩ (.int .u64 0)).setCell ⟨g,3,none⟩ (.int .u64 0)) g (fun _=>false):=by
 have:=SB.set4 h (fun _=>false)
 rw [wd_none,wd_none,wd_none,wd_none] at this
 exact this
theorem SB.drew {w:World} {g:Nat} {p:Nat→Bool} (h:SB w g p):SB w.drew g p:=h
set_option maxHeartbeats 2000000 in
set_option maxRecDepth 20000 in
theorem setRange (a b:Nat) (ha:a<256) (hb:b<256) (w:World) :
  Calls Tryz.prog 66 #[.int .u8 (a:Nat),.int .u8 (b:Nat)] w fun e w'=>e=.returned (sp fun j=>decide (a≤j) && decide (j≤b))∧Ext w w':=by
 go_enter Tryz.func66,Tryz.ntmps66
 go_wp2
 generalize hgz:w.heap.size=gz
 go_loopw [6] (fun iv wr=>∃ i:Nat,i≤256∧a≤i∧(i=a∨i≤b+1)∧iv=.int .i64 i∧SB wr (gz+1) (fun j=>decide (a≤j) && decide (j<i))∧SB wr gz (fun _=>false)∧Ext w wr) (fun iv _=>256-(intOf iv).toNat)
 case atStart=>exact ⟨a,by omega,Nat.le_refl _,.inl rfl,by go_num,(SB.zero (by simp [hgz])).congr (fun c hc=>by first | (simp;done) | (simp;omega)),(SB.zero hgz).alloc _,by (first | exact Ext.refl _ | (unfold Ext;repeat (first | exact Below.refl _ _ | assumption | refine BeA ?_ | refine BeC ?_ | refine Below.drew ?_)))⟩
 case round =>
  obtain ⟨ci,hi,hai,hib,rfl,hB,hD,hx⟩:=hrel
  by_cases hlt:ci≤b
  ·have hle':(ci:Int)≤(b:Int):=by omega
   have hu8:IntKind.u8.wrap (ci:Int)=(ci:Int):=by rw [IntKind.wrap_u8];omega
   go_wp2_with fail
   have hgl:=hB.lt
   refine wp_region_dagS (E:=Chg [gz+1]) (F:=Ext) (z:=5) (late:=[]) (w0:=wr) (Φ:=fun i v w=>match i with | 0=>(v=sp (fun j=>decide (a≤j) && decide (j<ci))) | 1=>(v=.int .i64 ci) | 2=>(v=.int .u8 ci) | 3=>(v=sp (fun j=>j == ci)) | 4=>(v=sp (fun j=>(decide (a≤j) && decide (j<ci)) || j == ci)) | 5=>(SB w (gz+1) (fun j=>(decide (a≤j) && decide (j<ci)) || j == ci)) | _=>True) (show Tryz.prog.follows .mixedOrders=true from Checked.mixed Tryz.checked) 21 rfl (by decide +kernel) (by decide +kernel) ?_ (by decide +kernel) ?_ ((Below.refl _ _).drew) ((Chg.refl _ _).drew) ?_ ?_ ?_ ⟨?_,?_,?_,?_,?_,?_,trivial⟩ ?_
   ·intro i v w w' h hE
    match i,h with
    | 0,h=>exact h
    | 1,h=>exact h
    | 2,h=>exact h
    | 3,h=>exact h
    | 4,h=>exact h
    | 5,h=>exact SB.keep h hE
    | _+6,_=>trivial
   ·intro i v w w' hiz hla h hE
    match i,hiz,hla,h with
    | 0,_,_,h=>exact h
    | 1,_,_,h=>exact h
    | 2,_,_,h=>exact h
    | 3,_,_,h=>exact h
    | 4,_,_,h=>exact h
    | 5,hiz,_,_=>exact absurd rfl hiz
    | _+6,_,_,_=>trivial
   ·exact fun w w' h h'=>h.trans (.of_ext h')
   ·exact fun w w' h h'=>h.trans h'
   ·exact fun w w' h h'=>(Chg.of_ext h).trans h'
   ·
    intro ac wx hE hF hsz hdf h
    have e5:ac.tmps[5]?=some (.pointer (some ⟨gz+1,0,none⟩)):=by obtain ⟨v,h1,h2⟩:=h 5 (by decide +kernel);exact h1.trans (h2.symm.trans rfl)
    clear h hsz hdf
    obtain ⟨y0,y1,y2,y3⟩:=(hB.keep (hF (.inr (by decide +kernel)))).cells
    go_wp2
    exact ⟨_,rfl,rfl,Ext.refl _⟩
   ·
    intro ac wx hE hF hsz hdf h
    have e6:ac.tmps[6]?=some (.int .i64 ci):=by obtain ⟨v,h1,h2⟩:=h 6 (by decide +kernel);exact h1.trans (h2.symm.trans rfl)
    clear h hsz hdf
    go_wp2
    exact ⟨_,rfl,rfl,Ext.refl _⟩
   ·
    intro ac wx hE hF hsz hdf h
    have e16:ac.tmps[16]?=some (.int .i64 ci):=by obtain ⟨v,h1,h2⟩:=h 16 (by decide +kernel);rw [h1];exact congrArg some h2
    clear h hsz hdf
    go_wp2
    exact ⟨_,rfl,rfl,Ext.refl _⟩
   ·
    intro ac wx hE hF hsz hdf h
    have e17:ac.tmps[17]?=some (.int .u8 ci):=by obtain ⟨v,h1,h2⟩:=h 17 (by decide +kernel);rw [h1];exact congrArg some h2
    clear h hsz hdf
    go_wp2_with ((go_at_call 20;refine (setOne ci (by omega) _).mono ?_;rintro e w9 ⟨rfl,hb9⟩))
    exact ⟨_,rfl,rfl,hb9⟩
   ·
    intro ac wx hE hF hsz hdf h
    have e15:ac.tmps[15]?=some (sp (fun j=>decide (a≤j) && decide (j<ci))):=by obtain ⟨v,h1,h2⟩:=h 15 (by decide +kernel);rw [h1];exact congrArg some h2
    have e18:ac.tmps[18]?=some (sp (fun j=>j == ci)):=by obtain ⟨v,h1,h2⟩:=h 18 (by decide +kernel);rw [h1];exact congrArg some h2
    clear h hsz hdf
    skip
    go_wp2_with ((go_at_call 65;refine (setOr _ _ _).mono ?_;rintro e w9 ⟨rfl,hb9⟩))
    exact ⟨_,rfl,rfl,hb9⟩
   ·
    intro ac wx hE hF hsz hdf h
    have e5:ac.tmps[5]?=some (.pointer (some ⟨gz+1,0,none⟩)):=by obtain ⟨v,h1,h2⟩:=h 5 (by decide +kernel);exact h1.trans (h2.symm.trans rfl)
    have e19:ac.tmps[19]?=some (sp (fun j=>(decide (a≤j) && decide (j<ci)) || j == ci)):=by obtain ⟨v,h1,h2⟩:=h 19 (by decide +kernel);rw [h1];exact congrArg some h2
    clear h hsz hdf
    have hB9:=hB.keep (hF (.inl rfl));obtain ⟨y0,y1,y2,y3⟩:=hB9.cells;have f0:=hB9.frozen 0;have f1:=hB9.frozen 1;have f2:=hB9.frozen 2;have f3:=hB9.frozen 3;unfold sp at e19
    go_wp2
    exact ⟨hB9.set4 _,((((Chg.refl _ _).setCell (by first | exact .head _ | simp) _).setCell (by first | exact .head _ | simp) _).setCell (by first | exact .head _ | simp) _).setCell (by first | exact .head _ | simp) _⟩
   ·intro ac w9 hE hsz hdf h hrest
    obtain ⟨v0,s0,g0⟩:=h 0 _ rfl
    have e0:=g0 15 rfl
    obtain rfl:v0=sp (fun j=>decide (a≤j) && decide (j<ci)):=s0
    obtain ⟨v1,s1,g1⟩:=h 1 _ rfl
    have e1:=g1 16 rfl
    obtain rfl:v1=.int .i64 ci:=s1
    obtain ⟨v2,s2,g2⟩:=h 2 _ rfl
    have e2:=g2 17 rfl
    obtain rfl:v2=.int .u8 ci:=s2
    obtain ⟨v3,s3,g3⟩:=h 3 _ rfl
    have e3:=g3 18 rfl
    obtain rfl:v3=sp (fun j=>j == ci):=s3
    obtain ⟨v4,s4,g4⟩:=h 4 _ rfl
    have e4:=g4 19 rfl
    obtain rfl:v4=sp (fun j=>(decide (a≤j) && decide (j<ci)) || j == ci):=s4
    obtain ⟨v5,s5,-⟩:=h 5 _ rfl
    replace s5:SB w9 (gz+1) (fun j=>(decide (a≤j) && decide (j<ci)) || j == ci):=s5
    have ha:=act_of [(15,sp (fun j=>decide (a≤j) && decide (j<ci))),(16,.int .i64 ci),(17,.int .u8 ci),(18,sp (fun j=>j == ci)),(19,sp (fun j=>(decide (a≤j) && decide (j<ci)) || j == ci))] rfl hsz hdf (by intro p hp;simp only [List.mem_cons,List.not_mem_nil,or_false] at hp;rcases hp with rfl | rfl | rfl | rfl | rfl <;> first | exact e0 | exact e1 | exact e2 | exact e3 | exact e4) hrest
    clear h hrest hsz hdf e0 e1 e2 e3 e4 g0 g1 g2 g3 g4
    subst ha
    simp only [List.foldl_cons,List.foldl_nil,Act.put,List.setIfInBounds_toArray,List.set_cons_succ,List.set_cons_zero]
    have hD9:=hD.chg hE (by simp)
    have hx9:Ext w w9:=hE.below hx (by have:=hx.size;omega) (by simp;omega)
    have HB9:=Lib.hid s5
    have HD9:=Lib.hid hD9
    clear s5 hD9 hD hB
    go_wp2
    go_roundw
    case rel=>exact ⟨ci+1,by omega,by omega,.inr (by omega),by go_num,HB9.out.congr (fun c hc=>by rw [Bool.eq_iff_iff];simp only [Bool.or_eq_true,Bool.and_eq_true,decide_eq_true_eq,beq_iff_eq];omega),HD9.out,hx9⟩
    case measure=>simp [intOf];omega
  ·have HB:=hB.congr (q:=fun j=>decide (a≤j) && decide (j≤b)) (fun c hc=>by rw [Bool.eq_iff_iff];simp only [Bool.and_eq_true,decide_eq_true_eq];omega)
   have hle':¬ (ci:Int)≤(b:Int):=by omega
   obtain ⟨y0,y1,y2,y3⟩:=HB.cells
   obtain ⟨d0,d1,d2,d3⟩:=hD.cells
   have f0:=hD.frozen 0
   have f1:=hD.frozen 1
   have f2:=hD.frozen 2
   have f3:=hD.frozen 3
   clear hB HB hD
   go_wp2
   refine bodyPost_ret (v:=sp fun j=>decide (a≤j) && decide (j≤b)) ?_ rfl ⟨rfl,by (first | exact Ext.refl _ | (unfold Ext;repeat (first | exact Below.refl _ _ | assumption | refine BeA ?_ | refine BeC ?_ | refine Below.drew ?_)))⟩
   rw [results_cell1 rfl]
   unfold sp
   go_simp
end Go.Proofs.YtigmdlchbjanoaaGreatDoor
namespace Go.Proofs.YtigmdlchbjanoaaGreatDoor
open Go Go.RowKit
attribute [local irreducible] wd
def Tab (w:World):Prop:=TabAt 19 Lib.deBruijn64tab w
theorem Tab.keep {w w':World} (h:Tab w) (hx:Ext w w'):Tab w':=fun j hj=>by
 have h1:=h j hj
 exact (hx.cell (p:=⟨_,j,none⟩) (block_lt_of_cell h1)).trans h1
theorem tz_core (x k idx:Nat) (w:World) (hx0:((x:Int) == 0)=false)
  (key:IntKind.u64.wrap (bits BinOp.and IntKind.u64 (x:Int) (IntKind.u64.wrap (-(x:Int)))*285870213051353865) / 288230376151711744=(idx:Int))
  (hi:idx<64) (hk:k<64) (hcell:w.cell? ⟨19,idx,none⟩=some (.int .u8 k)) :
  Calls Tryz.prog 83 #[.int .u64 x] w fun e w'=>e=.returned (.int .i64 (k:Nat))∧w'=w:=by
 go_enter Tryz.func83,Tryz.ntmps83
 go_wp2_with (simp only [key])
 go_ret
 exact ⟨by simp,rfl⟩
theorem tz (x:Nat) (hx:x<18446744073709551616) (hx0:x ≠ 0) (w:World) (hT:Tab w) :
  Calls Tryz.prog 83 #[.int .u64 x] w fun e w'=>e=.returned (.int .i64 (Lib.ctz 64 x:Nat))∧w'=w:=by
 obtain ⟨hlow,hk⟩:=Lib.lowest_bit 64 x hx0 hx
 obtain ⟨hi,htab⟩:=Lib.deBruijn64_at _ hk
 have hcell:=hT _ hi
 rw [htab] at hcell
 exact tz_core x _ _ w (by simp;omega) (tz64_key x _ hx hx0 hlow) hi hk hcell
theorem ctz_pow (j:Nat) (hj:j<64):Lib.ctz 64 (2 ^ j)=j:=by
 have h:∀ j:Fin 64,Lib.ctz 64 (2 ^ j.1)=j.1:=by decide +kernel
 exact h ⟨j,hj⟩
def Sole (p:Nat→Bool) (m:Nat):Prop:=m<256∧∀ j,j<256→p j=(j == m)
theorem Sole.word {p:Nat→Bool} {m:Nat} (h:Sole p m) (k:Nat) (hk:k<4):wd p k=if k=m / 64 then 2 ^ (m % 64) else 0:=by
 have e:wd p k=wd (fun j=>j == m) k:=wd_congr fun j hj=>h.2 _ (by omega)
 rw [e]
 split
 ·rename_i h1
  exact (one_wd m k (m % 64) (by omega) (by omega)).symm
 ·rename_i h1
  exact one_wd' m (m / 64) (m % 64) k (by omega) (by omega) h1
theorem ne_zero64 (y:Nat) (h:0<y):((y:Int) != 0)=true:=by simp;omega
set_option maxHeartbeats 1000000 in
set_option maxRecDepth 20000 in
theorem setLeast (p:Nat→Bool) (m:Nat) (hm:Sole p m) (w:World) (hT:Tab w) :
  Calls Tryz.prog 78 #[sp p] w fun e w'=>e=.returned (.int .u8 (m:Nat))∧Ext w w':=by
 have ix:∀ (i:Nat) (w:World),i<4→(Instr.index 25 (sp p) (.int .i64 (i:Nat))).run Tryz.prog w=.ok (.int .u64 (wd p i:Nat)) w:=
  fun i w hi=>run_index_arr _ _ 4 _ i _ Tryz.underlying25 (by kernel_rfl) (fun w=>by kernel_rfl) hi (by
   have h4:i=0∨i=1∨i=2∨i=3:=by omega
   rcases h4 with rfl | rfl | rfl | rfl <;> rfl) w
 have IX:=Lib.hid ix
 have HT:=Lib.hid hT
 have HM:=Lib.hid hm
 have hm6:=hm.1
 clear ix hT hm
 unfold sp at IX ⊢
 go_enter Tryz.func78,Tryz.ntmps78
 go_wp2
 go_loopw [6] (fun i wr=>∃ (k:Nat),k≤m / 64∧i=.int .i64 k∧Ext w wr) (fun i _=>4-(intOf i).toNat)
 case atStart=>exact ⟨0,by omega,rfl,by (first | exact Ext.refl _ | (unfold Ext;repeat (first | exact Below.refl _ _ | assumption | refine BeA ?_ | refine BeC ?_ | refine Below.drew ?_)))⟩
 case round =>
  obtain ⟨k,hk,rfl,hx⟩:=hrel
  have hk4:(k:Int)<4:=by omega
  have i0:=fun w=>IX.out k w (by omega)
  have hw:=HM.out.word k (by omega)
  by_cases hlt:k=m / 64
  ·rw [if_pos hlt] at hw
   have hj:m % 64<64:=by omega
   have h2:2 ^ (m % 64)<18446744073709551616:=Nat.pow_lt_pow_of_lt (a:=2) (m:=64) (by omega) hj
   have h0:0<2 ^ (m % 64):=Nat.pow_pos (by omega)
   have hz:=tz (2 ^ (m % 64)) h2 (by omega) wr (HT.out.keep hx)
   rw [ctz_pow _ hj] at hz
   rw [hw] at i0
   have hne:=ne_zero64 _ h0
   have hmm:IntKind.u8.wrap ((k:Int)*64+((m % 64:Nat):Int))=(m:Int):=by
    have h3:((k:Int)*64+((m % 64:Nat):Int))=(m:Int):=by clear h0 h2 hne hz i0 hw;subst hlt;omega
    rw [h3,IntKind.wrap_u8]
    clear h0 h2 hne hz i0 hw
    omega
   generalize 2 ^ (m % 64)=y at *
   generalize m % 64=j at *
   have HZ:=Lib.hid hz
   clear hz hw hlt
   go_wp2_with (go_at_call 83;refine HZ.out.mono ?_;rintro e w1 ⟨rfl,rfl⟩)
   go_ret
   exact ⟨by simp,hx⟩
  ·rw [if_neg hlt] at hw
   rw [hw] at i0
   have i1:∀ w,(Instr.index 25 (.agg #[.int .u64 (wd p 0:Nat),.int .u64 (wd p 1:Nat),.int .u64 (wd p 2:Nat),.int .u64 (wd p 3:Nat)]) (.int .i64 (k:Nat))).run Tryz.prog w=.ok (.int .u64 0) w:=i0
   clear i0 hw
   go_wp2
   go_roundw
   case rel=>exact ⟨k+1,by omega,by go_num,hx⟩
   case measure=>simp [intOf];omega
end Go.Proofs.YtigmdlchbjanoaaGreatDoor
namespace Go.Proofs.YtigmdlchbjanoaaGreatDoor
open Go Go.RowKit
def isLet (c:Nat):Bool:=(decide (97≤c) && decide (c≤122)) || (decide (65≤c) && decide (c≤90))
def isFig (c:Nat):Bool:=decide (48≤c) && decide (c≤57)
def hexL:List UInt8:=[48,49,50,51,52,53,54,55,56,57,97,98,99,100,101,102]
def hexC (d:Nat):UInt8:=hexL.getD d 0
def signT (c:Nat):List UInt8:=if isLet c || isFig c then [UInt8.ofNat c] else [92,120,hexC (c / 16),hexC (c % 16)]
set_option linter.unusedSimpArgs false in
set_option maxRecDepth 20000 in
theorem clLetter (c:Nat) (hc:c<256) (w:World) :
  Calls Tryz.prog 68 #[.int .u8 (c:Nat)] w fun e w'=>e=.returned (.bool (isLet c))∧w'=w:=by
 by_cases h1:97≤c <;> by_cases h2:c≤122 <;> by_cases h3:65≤c <;> by_cases h4:c≤90
 all_goals try omega
 all_goals
  have e1:isLet c=((decide (97≤c) && decide (c≤122)) || (decide (65≤c) && decide (c≤90))):=rfl
  simp only [h1,h2,h3,h4,decide_true,decide_false,Bool.and_true,Bool.and_false,Bool.or_true,Bool.or_false,Bool.true_or,Bool.false_or] at e1
  rw [e1]
  clear e1
  (try have g1:(97:Int)≤(c:Int):=by omega)
  (try have g1:¬ (97:Int)≤(c:Int):=by omega)
  (try have g2:(c:Int)≤(122:Int):=by omega)
  (try have g2:¬ (c:Int)≤(122:Int):=by omega)
  (try have g3:(65:Int)≤(c:Int):=by omega)
  (try have g3:¬ (65:Int)≤(c:Int):=by omega)
  (try have g4:(c:Int)≤(90:Int):=by omega)
  (try have g4:¬ (c:Int)≤(90:Int):=by omega)
  clear h1 h2 h3 h4
  go_enter Tryz.func68,Tryz.ntmps68
  go_wp2
  go_ret
  exact ⟨by simp,rfl⟩
set_option maxRecDepth 20000 in
theorem clFigure (c:Nat) (hc:c<256) (w:World) :
  Calls Tryz.prog 69 #[.int .u8 (c:Nat)] w fun e w'=>e=.returned (.bool (isFig c))∧w'=w:=by
 by_cases h1:48≤c <;> by_cases h2:c≤57
 all_goals try omega
 all_goals
  have e1:isFig c=(decide (48≤c) && decide (c≤57)):=rfl
  simp only [h1,h2,decide_true,decide_false,Bool.and_true,Bool.and_false] at e1
  rw [e1]
  clear e1
  (try have g1:(48:Int)≤(c:Int):=by omega)
  (try have g1:¬ (48:Int)≤(c:Int):=by omega)
  (try have g2:(c:Int)≤(57:Int):=by omega)
  (try have g2:¬ (c:Int)≤(57:Int):=by omega)
  clear h1 h2
  go_enter Tryz.func69,Tryz.ntmps69
  go_wp2
  go_ret
  exact ⟨by simp,rfl⟩
theorem ix_str {P:Program} {t:TypeId} (ht:P.underlying t=some .string) (l:List UInt8) (k:IntKind) (i:Nat) (x:UInt8) (h:l[i]?=some x) (w:World) :
  (Instr.index t (.string ⟨l.toArray⟩) (.int k (i:Nat))).run P w=.ok (.int .u8 x.toNat) w:=by
 obtain ⟨hi,hx⟩:=List.getElem?_eq_some_iff.1 h
 rw [run_index_string w t _ k _ ht,dif_pos ⟨by omega,(by rw [bs_size];omega)⟩]
 congr 2
 simp only [Int.toNat_natCast]
 rw [bs_get,hx]
theorem hexL_at (d:Nat) (hd:d<16):hexL[d]?=some (hexC d):=by
 unfold hexC
 rw [List.getD_eq_getElem?_getD,List.getElem?_eq_getElem (by exact hd)]
 rfl
theorem ofNat_byte (c:Nat) (hc:c<256):(UInt8.ofNat c).toNat=c:=by simp;omega
end Go.Proofs.YtigmdlchbjanoaaGreatDoor
namespace Go.Proofs.YtigmdlchbjanoaaGreatDoor
open Go Go.RowKit
def digL:List UInt8:=[48,49,50,51,52,53,54,55,56,57,97,98,99,100,101,102,65,66,67,68,69,70]
theorem refDigits (w:World):Calls Tryz.prog 58 #[] w fun e w'=>e=.returned (.string ⟨digL.toArray⟩)∧w'=w:=by
 go_enter Tryz.func58,Tryz.ntmps58
 go_wp2
 go_ret
 exact ⟨by simp [digL],rfl⟩
theorem digL_at (d:Nat) (hd:d<16):digL[d]?=some (hexC d):=by
 have h:∀ d:Fin 16,digL[d.1]?=some (hexC d.1):=by decide
 exact h ⟨d,hd⟩
theorem Ext.alloc' {w w':World} (h:Ext w w') (o:Obj):Ext w (w'.alloc o):=h.trans (Ext.new1 _ o)
set_option maxHeartbeats 1000000 in
set_option maxRecDepth 20000 in
theorem refSign (c:Nat) (hc:c<256) (w:World) :
  Calls Tryz.prog 40 #[.int .i64 (c:Nat)] w fun e w'=>e=.returned (.string ⟨(signT c).toArray⟩)∧Ext w w':=by
 have hc6:(c:Int)<256:=by omega
 by_cases hs:(isLet c || isFig c)=true
 ·have hr:signT c=[UInt8.ofNat c]:=by unfold signT;rw [if_pos hs]
  have e1:U8 (UInt8.ofNat c)=.int .u8 (c:Nat):=by unfold U8;rw [ofNat_byte c hc]
  have hcv:=fun w'=>conv_str (P:=Tryz.prog) (c:=1) (l:=[UInt8.ofNat c]) Tryz.underlying52 Tryz.underlying5 Tryz.underlying9 (rd_one w' (U8 (UInt8.ofNat c)) 5)
  rw [e1] at hcv
  rw [hr]
  have hu8:IntKind.u8.wrap (c:Int)=(c:Int):=by rw [IntKind.wrap_u8];omega
  clear hr e1
  go_enter Tryz.func40,Tryz.ntmps40
  go_wp2_with (first
  | (refine store_set rfl (.tmp 3) (.tmp 8) rfl (g:=w5.heap.size) (q:=fun j=>isLet j || isFig j) rfl rfl (BB.zero rfl) ?_;have hc0:=((BB.zero (w:=w5) rfl).row (fun j=>isLet j || isFig j)).cell hc;have hxx:Ext w ((w5.alloc (.cells Tryz.zeroCells35 35)).setRow w5.heap.size (bcs fun j=>isLet j || isFig j)):=Ext.row (((((hx1.trans hx2).trans hx3).trans hx4).trans hx5).alloc' _) _ _ ((((hx1.trans hx2).trans hx3).trans hx4).trans hx5).size;simp only [hs] at hc0;generalize (w5.alloc (.cells Tryz.zeroCells35 35)).setRow w5.heap.size (bcs fun j=>isLet j || isFig j)=w6 at *)
  | (have:=hx4;go_at_call 51;refine (refOr _ _ _).mono ?_;rintro e w5 ⟨rfl,hx5⟩)
  | (have:=hx3;go_at_call 27;refine (refFrom 48 57 (by omega) (by omega) _).mono ?_;rintro e w4 ⟨rfl,hx4⟩)
  | (have:=hx2;go_at_call 51;refine (refOr _ _ _).mono ?_;rintro e w3 ⟨rfl,hx3⟩)
  | (have:=hx1;go_at_call 27;refine (refFrom 65 90 (by omega) (by omega) _).mono ?_;rintro e w2 ⟨rfl,hx2⟩)
  | (go_at_call 27;refine (refFrom 97 122 (by omega) (by omega) _).mono ?_;rintro e w1 ⟨rfl,hx1⟩))
  go_ret
  exact ⟨by simp,hxx.alloc' _⟩
 ·have hr:signT c=[92,120,hexC (c / 16),hexC (c % 16)]:=by unfold signT;rw [if_neg hs]
  have hs:(isLet c || isFig c)=false:=by simpa using hs
  have hx0:∀ w,(Instr.index 9 (.string ⟨digL.toArray⟩) (.int .i64 ((c / 16:Nat):Int))).run Tryz.prog w=.ok (.int .u8 (hexC (c / 16)).toNat) w:=fun w=>ix_str (t:=9) Tryz.underlying9 digL .i64 (c / 16) _ (digL_at _ (by omega)) w
  have hy0:∀ w,(Instr.index 9 (.string ⟨digL.toArray⟩) (.int .i64 ((c % 16:Nat):Int))).run Tryz.prog w=.ok (.int .u8 (hexC (c % 16)).toNat) w:=fun w=>ix_str (t:=9) Tryz.underlying9 digL .i64 (c % 16) _ (digL_at _ (by omega)) w
  have hw1:wrap64 ((c / 16:Nat):Int)=((c / 16:Nat):Int):=by unfold wrap64;omega
  have hd1:(c:Int).tdiv 16=((c / 16:Nat):Int):=rfl
  have hd2:(c:Int).tmod 16=((c % 16:Nat):Int):=rfl
  rw [hr]
  clear hr
  generalize hexC (c / 16)=x at *
  generalize hexC (c % 16)=y at *
  generalize c / 16=cq at *
  generalize c % 16=cr at *
  go_enter Tryz.func40,Tryz.ntmps40
  go_wp2_with (first
  | (refine store_set rfl (.tmp 3) (.tmp 8) rfl (g:=w5.heap.size) (q:=fun j=>isLet j || isFig j) rfl rfl (BB.zero rfl) ?_;have hc0:=((BB.zero (w:=w5) rfl).row (fun j=>isLet j || isFig j)).cell hc;have hxx:Ext w ((w5.alloc (.cells Tryz.zeroCells35 35)).setRow w5.heap.size (bcs fun j=>isLet j || isFig j)):=Ext.row (((((hx1.trans hx2).trans hx3).trans hx4).trans hx5).alloc' _) _ _ ((((hx1.trans hx2).trans hx3).trans hx4).trans hx5).size;simp only [hs] at hc0;generalize (w5.alloc (.cells Tryz.zeroCells35 35)).setRow w5.heap.size (bcs fun j=>isLet j || isFig j)=w6 at *)
  | (have:=hx4;go_at_call 51;refine (refOr _ _ _).mono ?_;rintro e w5 ⟨rfl,hx5⟩)
  | (have:=hx3;go_at_call 27;refine (refFrom 48 57 (by omega) (by omega) _).mono ?_;rintro e w4 ⟨rfl,hx4⟩)
  | (have:=hx2;go_at_call 51;refine (refOr _ _ _).mono ?_;rintro e w3 ⟨rfl,hx3⟩)
  | (have:=hx1;go_at_call 27;refine (refFrom 65 90 (by omega) (by omega) _).mono ?_;rintro e w2 ⟨rfl,hx2⟩)
  | (go_at_call 27;refine (refFrom 97 122 (by omega) (by omega) _).mono ?_;rintro e w1 ⟨rfl,hx1⟩))
  clear hc0 hx1 hx2 hx3 hx4 hx5
  generalize w5.heap.size=gz
  refine wp_region_dag (E:=Ext) (w0:=w6) (Φ:=fun i v w=>match i with | 0=>(v=.string ⟨digL.toArray⟩) | 1=>(v=.int .i64 c) | 2=>(v=.int .i64 cq) | 3=>(v=U8 x) | 4=>(v=.string ⟨digL.toArray⟩) | 5=>(v=.int .i64 c) | 6=>(v=.int .i64 cr) | 7=>(v=U8 y) | 8=>(∃ A,v=.slice A 4 4∧Rd w 1 A 4 (bytesV [92,120,x,y])) | 9=>(v=.string ⟨#[92,120,x,y]⟩) | 10=>(v=.string ⟨#[92,120,x,y]⟩) | _=>True) (show Tryz.prog.follows .mixedOrders=true from Checked.mixed Tryz.checked) 26 rfl (by decide +kernel) ?_ ((Below.refl _ _).drew) ?_ ⟨?_,?_,?_,?_,?_,?_,?_,?_,?_,?_,?_,trivial⟩ ?_
  ·intro i v w w' h hE
   match i,h with
   | 0,h=>exact h
   | 1,h=>exact h
   | 2,h=>exact h
   | 3,h=>exact h
   | 4,h=>exact h
   | 5,h=>exact h
   | 6,h=>exact h
   | 7,h=>exact h
   | 8,h=>exact (by obtain ⟨A,h1,h2⟩:=h;exact ⟨A,h1,h2.keep hE⟩)
   | 9,h=>exact h
   | 10,h=>exact h
   | _+11,_=>trivial
  ·exact fun w w' h h'=>h.trans h'
  ·
   intro ac wx hE hsz hdf h
   clear h hsz hdf
   go_wp2_with ((go_at_call 58;refine (refDigits _).mono ?_;rintro e w9 ⟨rfl,rfl⟩))
   exact ⟨_,rfl,rfl,Ext.refl _⟩
  ·
   intro ac wx hE hsz hdf h
   have e0:ac.tmps[0]?=some (.int .i64 c):=by obtain ⟨v,h1,h2⟩:=h 0 (by decide +kernel);exact h1.trans (h2.symm.trans rfl)
   clear h hsz hdf
   go_wp2
   exact ⟨_,rfl,rfl,Ext.refl _⟩
  ·
   intro ac wx hE hsz hdf h
   have e17:ac.tmps[17]?=some (.int .i64 c):=by obtain ⟨v,h1,h2⟩:=h 17 (by decide +kernel);rw [h1];exact congrArg some h2
   clear h hsz hdf
   go_wp2
   exact ⟨_,rfl,congrArg (Value.int .i64) hw1,Ext.refl _⟩
  ·
   intro ac wx hE hsz hdf h
   have e16:ac.tmps[16]?=some (.string ⟨digL.toArray⟩):=by obtain ⟨v,h1,h2⟩:=h 16 (by decide +kernel);rw [h1];exact congrArg some h2
   have e18:ac.tmps[18]?=some (.int .i64 cq):=by obtain ⟨v,h1,h2⟩:=h 18 (by decide +kernel);rw [h1];exact congrArg some h2
   clear h hsz hdf
   go_wp2
   exact ⟨_,rfl,rfl,Ext.refl _⟩
  ·
   intro ac wx hE hsz hdf h
   clear h hsz hdf
   go_wp2_with ((go_at_call 58;refine (refDigits _).mono ?_;rintro e w9 ⟨rfl,rfl⟩))
   exact ⟨_,rfl,rfl,Ext.refl _⟩
  ·
   intro ac wx hE hsz hdf h
   have e0:ac.tmps[0]?=some (.int .i64 c):=by obtain ⟨v,h1,h2⟩:=h 0 (by decide +kernel);exact h1.trans (h2.symm.trans rfl)
   clear h hsz hdf
   go_wp2
   exact ⟨_,rfl,rfl,Ext.refl _⟩
  ·
   intro ac wx hE hsz hdf h
   have e21:ac.tmps[21]?=some (.int .i64 c):=by obtain ⟨v,h1,h2⟩:=h 21 (by decide +kernel);rw [h1];exact congrArg some h2
   clear h hsz hdf
   go_wp2
   exact ⟨_,rfl,rfl,Ext.refl _⟩
  ·
   intro ac wx hE hsz hdf h
   have e20:ac.tmps[20]?=some (.string ⟨digL.toArray⟩):=by obtain ⟨v,h1,h2⟩:=h 20 (by decide +kernel);rw [h1];exact congrArg some h2
   have e22:ac.tmps[22]?=some (.int .i64 cr):=by obtain ⟨v,h1,h2⟩:=h 22 (by decide +kernel);rw [h1];exact congrArg some h2
   clear h hsz hdf
   go_wp2
   exact ⟨_,rfl,rfl,Ext.refl _⟩
  ·
   intro ac wx hE hsz hdf h
   have e19:ac.tmps[19]?=some (U8 x):=by obtain ⟨v,h1,h2⟩:=h 19 (by decide +kernel);rw [h1];exact congrArg some h2
   have e23:ac.tmps[23]?=some (U8 y):=by obtain ⟨v,h1,h2⟩:=h 23 (by decide +kernel);rw [h1];exact congrArg some h2
   clear h hsz hdf
   unfold U8 at e19 e23
   go_wp2
   exact ⟨_,rfl,⟨_,rfl,rd_newS _ 1 4 [U8 92,U8 120,U8 x,U8 y] 5 rfl⟩,Ext.new1 _ _⟩
  ·
   intro ac wx hE hsz hdf h
   obtain ⟨v24,e24,s24⟩:∃ v,ac.tmps[24]?=some v∧(∃ A,v=.slice A 4 4∧Rd wx 1 A 4 (bytesV [92,120,x,y])):=h 24 (by decide +kernel)
   clear h hsz hdf
   obtain ⟨A8,rfl,hrd8⟩:=s24;have hcv:=conv_str (P:=Tryz.prog) (c:=4) (l:=[92,120,x,y]) Tryz.underlying52 Tryz.underlying5 Tryz.underlying9 hrd8
   go_wp2
   exact ⟨_,rfl,rfl,Ext.refl _⟩
  ·
   intro ac wx hE hsz hdf h
   have e25:ac.tmps[25]?=some (.string ⟨#[92,120,x,y]⟩):=by obtain ⟨v,h1,h2⟩:=h 25 (by decide +kernel);rw [h1];exact congrArg some h2
   clear h hsz hdf
   go_wp2
   exact ⟨_,rfl,rfl,Ext.refl _⟩
  ·intro ac w9 hE hsz hdf h hrest
   obtain ⟨v0,s0,g0⟩:=h 0 _ rfl
   have e0:=g0 16 rfl
   obtain rfl:v0=.string ⟨digL.toArray⟩:=s0
   obtain ⟨v1,s1,g1⟩:=h 1 _ rfl
   have e1:=g1 17 rfl
   obtain rfl:v1=.int .i64 c:=s1
   obtain ⟨v2,s2,g2⟩:=h 2 _ rfl
   have e2:=g2 18 rfl
   obtain rfl:v2=.int .i64 cq:=s2
   obtain ⟨v3,s3,g3⟩:=h 3 _ rfl
   have e3:=g3 19 rfl
   obtain rfl:v3=U8 x:=s3
   obtain ⟨v4,s4,g4⟩:=h 4 _ rfl
   have e4:=g4 20 rfl
   obtain rfl:v4=.string ⟨digL.toArray⟩:=s4
   obtain ⟨v5,s5,g5⟩:=h 5 _ rfl
   have e5:=g5 21 rfl
   obtain rfl:v5=.int .i64 c:=s5
   obtain ⟨v6,s6,g6⟩:=h 6 _ rfl
   have e6:=g6 22 rfl
   obtain rfl:v6=.int .i64 cr:=s6
   obtain ⟨v7,s7,g7⟩:=h 7 _ rfl
   have e7:=g7 23 rfl
   obtain rfl:v7=U8 y:=s7
   obtain ⟨v8,s8,g8⟩:=h 8 _ rfl
   have e8:=g8 24 rfl
   replace s8:∃ A,v8=.slice A 4 4∧Rd w9 1 A 4 (bytesV [92,120,x,y]):=s8
   obtain ⟨v9,s9,g9⟩:=h 9 _ rfl
   have e9:=g9 25 rfl
   obtain rfl:v9=.string ⟨#[92,120,x,y]⟩:=s9
   obtain ⟨v10,s10,g10⟩:=h 10 _ rfl
   have e10:=g10 2 rfl
   obtain rfl:v10=.string ⟨#[92,120,x,y]⟩:=s10
   have ha:=act_of [(16,.string ⟨digL.toArray⟩),(17,.int .i64 c),(18,.int .i64 cq),(19,U8 x),(20,.string ⟨digL.toArray⟩),(21,.int .i64 c),(22,.int .i64 cr),(23,U8 y),(24,v8),(25,.string ⟨#[92,120,x,y]⟩),(2,.string ⟨#[92,120,x,y]⟩)] rfl hsz hdf (by intro p hp;simp only [List.mem_cons,List.not_mem_nil,or_false] at hp;rcases hp with rfl | rfl | rfl | rfl | rfl | rfl | rfl | rfl | rfl | rfl | rfl <;> first | exact e0 | exact e1 | exact e2 | exact e3 | exact e4 | exact e5 | exact e6 | exact e7 | exact e8 | exact e9 | exact e10) hrest
   clear h hrest hsz hdf e0 e1 e2 e3 e4 e5 e6 e7 e8 e9 e10 g0 g1 g2 g3 g4 g5 g6 g7 g8 g9 g10
   subst ha
   simp only [List.foldl_cons,List.foldl_nil,Act.put,List.setIfInBounds_toArray,List.set_cons_succ,List.set_cons_zero]
   go_wp2
   go_ret
   exact ⟨by simp,hxx.trans hE⟩
end Go.Proofs.YtigmdlchbjanoaaGreatDoor
