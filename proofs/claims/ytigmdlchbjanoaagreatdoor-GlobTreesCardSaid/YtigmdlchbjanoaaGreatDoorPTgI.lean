/- Put together: Cl22. -/
import Derived.Test.YtigmdlchbjanoaaGreatDoorPTgH
namespace Go.Proofs.YtigmdlchbjanoaaGreatDoor
open Go Go.RowKit
attribute [local irreducible] wd
theorem ErrC.chg {w w':World} {E:Nat→Addr} {r:Nat} (h:ErrC [2,4] w E) (hc:Chg [r] w w') (h0:r ≠ 7) (h1:r ≠ 4):ErrC [2,4] w' E:=
 ⟨fun {i g} hi hg=>by
  simp only [List.mem_cons,List.not_mem_nil,or_false] at hi
  rcases hi with rfl | rfl
  ·have hg':7=g:=by simpa [errGs] using hg
   subst hg'
   exact hc.cell (h.cell (by simp) hg) (by simp;omega)
  ·have hg':4=g:=by simpa [errGs] using hg
   subst hg'
   exact hc.cell (h.cell (by simp) hg) (by simp;omega)⟩
theorem Tab.chg {w w':World} {r:Nat} (h:Tab w) (hc:Chg [r] w w') (h0:r ≠ 19):Tab w':=fun j hj=>hc.cell (h j hj) (by simp;omega)
theorem sole_one {m:Nat} (hm:m<256):Sole (fun j=>j == m) m:=⟨hm,fun _ _=>rfl⟩
theorem item_rng {l:List UInt8} {k m n:Nat} (hsg:signS (l.drop k)=.byte m n) (h45:l[k+n]?=some 45) :
  (∀ e,signS (l.drop (k+n+1))=.bad e→itemS (l.drop k)=(fun _=>false,0,e)) ∧
  (∀ p j,signS (l.drop (k+n+1))=.cls p j→itemS (l.drop k)=(fun _=>false,0,5)) ∧
  (∀ m' j,signS (l.drop (k+n+1))=.byte m' j→itemS (l.drop k)=if m' < m then (fun _=>false,0,5) else (fun j=>decide (m≤j) && decide (j≤m'),n+1+j,0)):=by
 have key:∀ x,signS (l.drop (k+n+1))=x→itemS (l.drop k)=(match x with
   | .bad e=>(fun _=>false,0,e)
   | .cls _ _=>(fun _=>false,0,5)
   | .byte m' k'=>if m' < m then (fun _=>false,0,5) else (fun j=>decide (m≤j) && decide (j≤m'),n+1+k',0)):=by
  intro x hx
  unfold itemS
  rw [hsg]
  simp only [drop_get]
  rw [if_pos h45,List.drop_drop,show k+(n+1)=k+n+1 by omega,hx]
  cases x <;> rfl
 exact ⟨fun e h=>key _ h,fun p j h=>key _ h,fun m' j h=>key _ h⟩
set_option maxHeartbeats 8000000 in
set_option maxRecDepth 20000 in
theorem clItemB (E:Nat→Addr) (l:List UInt8) (k r m n:Nat) (hlen:l.length≤10000) (hk:k≤l.length) (w:World) (hE:ErrC [2,4] w E) (hT:Tab w) (hR:RdAt w r l k) (h0:r ≠ 7) (h1:r ≠ 4) (ht:r ≠ 19)
  (hsg:signS (l.drop k)=.byte m n) (h45:l[k+n]?=some 45) :
  Calls Tryz.prog 64 #[.pointer (some ⟨r,0,none⟩)] w fun e w' =>
   e=.returned (.tuple #[sp (itemS (l.drop k)).1,ev E (itemS (l.drop k)).2.2])∧((itemS (l.drop k)).2.2=0→RdAt w' r l (k+(itemS (l.drop k)).2.1))∧Chg [r] w w':=by
 have hx0:=Ext.new1 w (.cells #[.int .u64 0,.int .u64 0,.int .u64 0,.int .u64 0] 25)
 have hS:=SB.zero (w:=w) rfl
 have hrl:=hR.lt
 have hz1:4<w.heap.size:=block_lt_of_cell (hE.cell (i:=4) (by simp) rfl)
 have n1:¬ 4=w.heap.size:=by omega
 have n3:¬ w.heap.size=4:=by omega
 have n4:¬ w.heap.size=r:=by omega
 have n5:¬ r=w.heap.size:=by omega
 have HE:=Lib.hid (hE.keep hx0)
 have HT:=Lib.hid (hT.keep hx0)
 have HS:=Lib.hid hS
 have HR:=Lib.hid (hR.keep hx0)
 have hfit:=sign_fits (l.drop k)
 rw [hsg] at hfit
 have hm6:m<256:=hfit.1
 have HSG:=Lib.hid hsg
 have hkl:=(List.getElem?_eq_some_iff.1 h45).1
 have hc45:l[k+n]'hkl=45:=(List.getElem?_eq_some_iff.1 h45).2
 obtain ⟨kn,hkn⟩:∃ kn,k+n=kn:=⟨_,rfl⟩
 have hit:=item_rng hsg h45
 rw [hkn] at hit
 have HIT:=Lib.hid hit
 have HKN:=Lib.hid hkn
 clear hE hT hS hR hfit h45 hit
 go_enter Tryz.func64,Tryz.ntmps64
 go_wp2_with (go_at_call 77;refine (clRSign E l k r hlen hk _ HE.out HR.out).mono ?_;rintro e w1 ⟨rfl,hR1,hc1⟩;rw [HSG.out];rw [HSG.out] at hR1;simp only [Sg.set,Sg.one,Sg.size,Sg.err,ev] at hR1 ⊢;unfold sp)
 clear hsg
 generalize hgz:w.heap.size=gz at *
 have hw1:gz<w1.heap.size:=Nat.lt_of_lt_of_le (by simp [hgz]) hc1.size
 have hR2:=Blk.alloc hR1 (.cells #[.int .u64 (wd (fun j=>j == m) 0:Nat),.int .u64 (wd (fun j=>j == m) 1:Nat),.int .u64 (wd (fun j=>j == m) 2:Nat),.int .u64 (wd (fun j=>j == m) 3:Nat)] 25)
 have hX2:=SB.new (w:=w1) rfl (fun j=>j == m)
 have hS2:=(HS.out.chg hc1 (by simp;omega)).alloc (.cells #[.int .u64 (wd (fun j=>j == m) 0:Nat),.int .u64 (wd (fun j=>j == m) 1:Nat),.int .u64 (wd (fun j=>j == m) 2:Nat),.int .u64 (wd (fun j=>j == m) 3:Nat)] 25)
 have hc2:=((Chg.of_ext hx0).trans hc1).alloc (.cells #[.int .u64 (wd (fun j=>j == m) 0:Nat),.int .u64 (wd (fun j=>j == m) 1:Nat),.int .u64 (wd (fun j=>j == m) 2:Nat),.int .u64 (wd (fun j=>j == m) 3:Nat)] 25)
 have hE2:=(HE.out.chg hc1 h0 h1).keep (Ext.new1 w1 (.cells #[.int .u64 (wd (fun j=>j == m) 0:Nat),.int .u64 (wd (fun j=>j == m) 1:Nat),.int .u64 (wd (fun j=>j == m) 2:Nat),.int .u64 (wd (fun j=>j == m) 3:Nat)] 25))
 have hT2:=(HT.out.chg hc1 ht).keep (Ext.new1 w1 (.cells #[.int .u64 (wd (fun j=>j == m) 0:Nat),.int .u64 (wd (fun j=>j == m) 1:Nat),.int .u64 (wd (fun j=>j == m) 2:Nat),.int .u64 (wd (fun j=>j == m) 3:Nat)] 25))
 have hgx:gz<w1.heap.size∧r<w1.heap.size:=⟨hw1,by have:=hc1.size;simp at this;omega⟩
 have hgx2:w1.heap.size<(w1.alloc (.cells #[.int .u64 (wd (fun j=>j == m) 0:Nat),.int .u64 (wd (fun j=>j == m) 1:Nat),.int .u64 (wd (fun j=>j == m) 2:Nat),.int .u64 (wd (fun j=>j == m) 3:Nat)] 25)).heap.size:=by simp
 clear hR1 hc1
 generalize w1.heap.size=gx at *
 generalize w1.alloc (.cells #[.int .u64 (wd (fun j=>j == m) 0:Nat),.int .u64 (wd (fun j=>j == m) 1:Nat),.int .u64 (wd (fun j=>j == m) 2:Nat),.int .u64 (wd (fun j=>j == m) 3:Nat)] 25)=w2 at *
 clear hx0
 have c0:w2.cell? ⟨r,0,none⟩=some (.string ⟨l.toArray⟩):=Blk.cell hR2 0
 have c1:w2.cell? ⟨r,1,none⟩=some (.int .i64 (kn:Nat)):=by rw [← HKN.out];exact Blk.cell hR2 1
 have fr:w2.frozen? ⟨r,1,none⟩=false:=Blk.frozen hR2 1
 have hge':¬ (l.length:Int)≤(kn:Int):=by omega
 have hki:(kn:Int)<(l.length:Int):=by omega
 have hgb:decide ((l.length:Int)≤(kn:Int))=false:=decide_eq_false hge'
 have hkl':kn<l.length:=by omega
 have hc45':l[kn]'hkl'=45:=by simp only [← HKN.out];exact hc45
 have HR2:=Lib.hid (show RdAt w2 r l kn by rw [← HKN.out];exact hR2)
 have HX2:=Lib.hid hX2
 have HS2:=Lib.hid hS2
 have HC2:=Lib.hid hc2
 have HE2:=Lib.hid hE2
 have HT2:=Lib.hid hT2
 clear hR2 hX2 hS2 hc2 hE2 hT2 hkn hc45 hkl
 go_quiet (fail)
 go_wp2_with fail
 have m1:¬ gx=r:=by omega
 have m2:¬ r=gx:=by omega
 have m3:¬ gx=gz:=by omega
 have m4:¬ gz=gx:=by omega
 have hR3:=(HR2.out.drewN' (n:=nq)).set (kn+1)
 have hX3:=SB.far (HX2.out.drewN' (n:=nq)) (a:=⟨r,1,none⟩) m1 (.int .i64 (kn+1:Nat))
 have hS3:=SB.far (HS2.out.drewN' (n:=nq)) (a:=⟨r,1,none⟩) n4 (.int .i64 (kn+1:Nat))
 have hc23:Chg [r] w2 ((w2.drewN nq).setCell ⟨r,1,none⟩ (.int .i64 (kn+1:Nat))):=((Chg.refl [r] w2).drewN' (n:=nq)).setCell (by exact .head _) _
 rw [show ((kn+1:Nat):Int)=(kn:Int)+1 from rfl] at hR3 hX3 hS3 hc23
 have hE3:=HE2.out.chg hc23 h0 h1
 have hT3:=HT2.out.chg hc23 ht
 have hc3:=HC2.out.trans hc23
 have hgx3:gx<((w2.drewN nq).setCell ⟨r,1,none⟩ (.int .i64 ((kn:Int)+1))).heap.size:=Nat.lt_of_lt_of_le hgx2 hc23.size
 clear hc23 HR2 HX2 HS2 HC2 HE2 HT2 c0 c1 fr hgx2
 generalize (w2.drewN nq).setCell ⟨r,1,none⟩ (.int .i64 ((kn:Int)+1))=w3 at *
 obtain ⟨t,htt⟩:∃ t,signS (l.drop (kn+1))=t:=⟨_,rfl⟩
 have hfit:=sign_fits (l.drop (kn+1))
 rw [htt] at hfit
 have hsz:=Sg.fits_size hfit
 rw [List.length_drop] at hsz
 have HTT:=Lib.hid htt
 have HF:=Lib.hid hfit
 have HX3:=Lib.hid hX3
 have HS3:=Lib.hid hS3
 have HC3:=Lib.hid hc3
 have HE3:=Lib.hid hE3
 have HT3:=Lib.hid hT3
 clear htt hfit hX3 hS3 hc3
 go_at_call 77
 refine (clRSign E l (kn+1) r hlen (by omega) _ hE3 hR3).mono ?_
 clear hE3 hR3 hT3
 rintro e w4 ⟨rfl,hR4,hc4⟩
 rw [HTT.out]
 rw [HTT.out] at hR4
 have hX4:=HX3.out.chg hc4 (by simp;omega)
 have hS4:=HS3.out.chg hc4 (by simp;omega)
 have hE4:=HE3.out.chg hc4 h0 h1
 have hT4:=HT3.out.chg hc4 ht
 have hcc4:=HC3.out.trans hc4
 have hgx4:gx<w4.heap.size:=Nat.lt_of_lt_of_le hgx3 hc4.size
 clear HX3 HS3 HC3 HE3 HT3 hc4 hgx3
 have hR9:=Blk.alloc hR4 (.cells #[.int .u64 (wd t.set 0:Nat),.int .u64 (wd t.set 1:Nat),.int .u64 (wd t.set 2:Nat),.int .u64 (wd t.set 3:Nat)] 25)
 have hY9:=SB.new (w:=w4) rfl t.set
 have hX9:=hX4.alloc (.cells #[.int .u64 (wd t.set 0:Nat),.int .u64 (wd t.set 1:Nat),.int .u64 (wd t.set 2:Nat),.int .u64 (wd t.set 3:Nat)] 25)
 have hS9:=hS4.alloc (.cells #[.int .u64 (wd t.set 0:Nat),.int .u64 (wd t.set 1:Nat),.int .u64 (wd t.set 2:Nat),.int .u64 (wd t.set 3:Nat)] 25)
 have hE9:=hE4.keep (Ext.new1 w4 (.cells #[.int .u64 (wd t.set 0:Nat),.int .u64 (wd t.set 1:Nat),.int .u64 (wd t.set 2:Nat),.int .u64 (wd t.set 3:Nat)] 25))
 have hT9:=hT4.keep (Ext.new1 w4 (.cells #[.int .u64 (wd t.set 0:Nat),.int .u64 (wd t.set 1:Nat),.int .u64 (wd t.set 2:Nat),.int .u64 (wd t.set 3:Nat)] 25))
 have hc9:=hcc4.alloc (.cells #[.int .u64 (wd t.set 0:Nat),.int .u64 (wd t.set 1:Nat),.int .u64 (wd t.set 2:Nat),.int .u64 (wd t.set 3:Nat)] 25)
 have p1:¬ w4.heap.size=gz:=by omega
 have p2:¬ gz=w4.heap.size:=by omega
 have p3:¬ w4.heap.size=gx:=by omega
 have p4:¬ gx=w4.heap.size:=by omega
 have HR9:=Lib.hid (show RdAt _ r l (kn+1+t.size) from hR9)
 have HX9:=Lib.hid hX9
 have HY9:=Lib.hid hY9
 have HS9:=Lib.hid hS9
 have HC9:=Lib.hid hc9
 have HE9:=Lib.hid hE9
 have HT9:=Lib.hid hT9
 clear hR4 hR9 hX4 hX9 hY9 hS4 hS9 hE4 hE9 hT4 hT9 hcc4 hc9
 unfold sp
 cases t with
 | bad e =>
  have hes:e=3∨e=5:=HF.out
  have HQ:=Lib.hid (HIT.out.1 e HTT.out)
  simp only [Sg.set,Sg.one,Sg.size,Sg.err] at *
  obtain ⟨z0,z1,z2,z3⟩:=HS9.out.cells
  have f0:=HS9.out.frozen 0
  have f1:=HS9.out.frozen 1
  have f2:=HS9.out.frozen 2
  have f3:=HS9.out.frozen 3
  rcases hes with rfl | rfl
  ·simp only [ev,errV]
   go_wp2
   exact bodyPost_ret (v:=.tuple #[sp (fun _=>false),errV E 2]) (results_sp2 rfl rfl HS9.out.zset rfl) rfl ⟨by rw [HQ.out];rfl,fun h=>(by rw [HQ.out] at h;exact absurd h (by decide)),(((HC9.out.setNew (by simp [hgz]) _).setNew (by simp [hgz]) _).setNew (by simp [hgz]) _).setNew (by simp [hgz]) _⟩
  ·simp only [ev,errV]
   go_wp2
   exact bodyPost_ret (v:=.tuple #[sp (fun _=>false),errV E 4]) (results_sp2 rfl rfl HS9.out.zset rfl) rfl ⟨by rw [HQ.out];rfl,fun h=>(by rw [HQ.out] at h;exact absurd h (by decide)),(((HC9.out.setNew (by simp [hgz]) _).setNew (by simp [hgz]) _).setNew (by simp [hgz]) _).setNew (by simp [hgz]) _⟩
 | cls p j =>
  have HQ:=Lib.hid (HIT.out.2.1 p j HTT.out)
  simp only [Sg.set,Sg.one,Sg.size,Sg.err,ev] at *
  obtain ⟨z0,z1,z2,z3⟩:=HS9.out.cells
  have f0:=HS9.out.frozen 0
  have f1:=HS9.out.frozen 1
  have f2:=HS9.out.frozen 2
  have f3:=HS9.out.frozen 3
  have e1:=HE9.out.cell (i:=4) (g:=4) (by simp) rfl
  go_wp2_with fail
  go_quiet (fail)
  go_wp2_with fail
  go_region
  all_goals go_wp2
  all_goals exact bodyPost_ret (v:=.tuple #[sp (fun _=>false),errV E 4]) (results_sp2 rfl rfl HS9.out.zset rfl) rfl ⟨by rw [HQ.out];rfl,fun h=>(by rw [HQ.out] at h;exact absurd h (by decide)),(((HC9.out.drewN'.setNew (by simp [hgz]) _).setNew (by simp [hgz]) _).setNew (by simp [hgz]) _).setNew (by simp [hgz]) _⟩
 | byte m' j =>
  have hm7:m' < 256:=HF.out.1
  have HQ:=Lib.hid (HIT.out.2.2 m' j HTT.out)
  simp only [Sg.set,Sg.one,Sg.size,Sg.err,ev] at *
  go_wp2_with fail
  generalize w4.heap.size=gy at *
  generalize w4.alloc (.cells #[.int .u64 (wd (fun j=>j == m') 0:Nat),.int .u64 (wd (fun j=>j == m') 1:Nat),.int .u64 (wd (fun j=>j == m') 2:Nat),.int .u64 (wd (fun j=>j == m') 3:Nat)] 25)=w9 at *
  have hx9z:=HX9.out.cells
  obtain ⟨x0,x1,x2,x3⟩:=hx9z
  obtain ⟨y0,y1,y2,y3⟩:=HY9.out.cells
  by_cases hmm:m' < m
  ·have hmm':(m':Int)<(m:Int):=by omega
   have HQ2:=Lib.hid (show itemS (l.drop k)=(fun _=>false,0,5) by rw [HQ.out,if_pos hmm])
   (go_region_with (first | (have:=hxa;go_at_call 78;refine (setLeast (fun j=>j == m) m (sole_one hm6) _ (HT9.out.keep (Ext.trans hxa' (by (first | exact Ext.refl _ | (unfold Ext;repeat (first | exact Below.refl _ _ | assumption | refine BeA ?_ | refine BeC ?_ | refine Below.drew ?_))))))).mono ?_;rintro e wb ⟨rfl,hxb⟩) | (go_at_call 78;refine (setLeast (fun j=>j == m') m' (sole_one hm7) _ (HT9.out.keep (by (first | exact Ext.refl _ | (unfold Ext;repeat (first | exact Below.refl _ _ | assumption | refine BeA ?_ | refine BeC ?_ | refine Below.drew ?_)))))).mono ?_;rintro e wa ⟨rfl,hxa⟩;have hxa':Ext w9 wa:=Ext.trans (show Ext w9 w9.drew from (Below.refl _ _).drew) hxa;obtain ⟨x0,x1,x2,x3⟩:=(HX9.out.keep hxa').cells)))
   all_goals
    have hxw:Ext w9 wb:=hxa'.trans hxb
    have HSb:=Lib.hid (HS9.out.keep hxw)
    have HXb:=Lib.hid (HX9.out.keep hxw)
    have HYb:=Lib.hid (HY9.out.keep hxw)
    have HTb:=Lib.hid (HT9.out.keep hxw)
    have HCb:=Lib.hid (HC9.out.trans (Chg.of_ext hxw))
    have HRb:=Lib.hid (RdAt.keep HR9.out hxw)
    have e1:=(HE9.out.keep hxw).cell (i:=4) (g:=4) (by simp) rfl
    clear x0 x1 x2 x3 y0 y1 y2 y3 hxa hxa' hxb hxw
    obtain ⟨z0,z1,z2,z3⟩:=HSb.out.cells
    have f0:=HSb.out.frozen 0
    have f1:=HSb.out.frozen 1
    have f2:=HSb.out.frozen 2
    have f3:=HSb.out.frozen 3
    go_wp2_with fail
    go_region
    all_goals go_wp2
    all_goals exact bodyPost_ret (v:=.tuple #[sp (fun _=>false),errV E 4]) (results_sp2 rfl rfl HSb.out.zset.drew rfl) rfl ⟨by rw [HQ2.out];rfl,fun h=>(by rw [HQ2.out] at h;exact absurd h (by decide)),(((HCb.out.drew.setNew (by simp [hgz]) _).setNew (by simp [hgz]) _).setNew (by simp [hgz]) _).setNew (by simp [hgz]) _⟩
  ·have hmm':¬ (m':Int)<(m:Int):=by omega
   have HQ2:=Lib.hid (show itemS (l.drop k)=(fun c=>decide (m≤c) && decide (c≤m'),n+1+j,0) by rw [HQ.out,if_neg hmm])
   (go_region_with (first | (have:=hxa;go_at_call 78;refine (setLeast (fun j=>j == m) m (sole_one hm6) _ (HT9.out.keep (Ext.trans hxa' (by (first | exact Ext.refl _ | (unfold Ext;repeat (first | exact Below.refl _ _ | assumption | refine BeA ?_ | refine BeC ?_ | refine Below.drew ?_))))))).mono ?_;rintro e wb ⟨rfl,hxb⟩) | (go_at_call 78;refine (setLeast (fun j=>j == m') m' (sole_one hm7) _ (HT9.out.keep (by (first | exact Ext.refl _ | (unfold Ext;repeat (first | exact Below.refl _ _ | assumption | refine BeA ?_ | refine BeC ?_ | refine Below.drew ?_)))))).mono ?_;rintro e wa ⟨rfl,hxa⟩;have hxa':Ext w9 wa:=Ext.trans (show Ext w9 w9.drew from (Below.refl _ _).drew) hxa;obtain ⟨x0,x1,x2,x3⟩:=(HX9.out.keep hxa').cells)))
   all_goals
    have hxw:Ext w9 wb:=hxa'.trans hxb
    have HSb:=Lib.hid (HS9.out.keep hxw)
    have HXb:=Lib.hid (HX9.out.keep hxw)
    have HYb:=Lib.hid (HY9.out.keep hxw)
    have HTb:=Lib.hid (HT9.out.keep hxw)
    have HCb:=Lib.hid (HC9.out.trans (Chg.of_ext hxw))
    have HRb:=Lib.hid (RdAt.keep HR9.out hxw)
    have e1:=(HE9.out.keep hxw).cell (i:=4) (g:=4) (by simp) rfl
    clear x0 x1 x2 x3 y0 y1 y2 y3 hxa hxa' hxb hxw
    obtain ⟨z0,z1,z2,z3⟩:=HSb.out.cells
    have f0:=HSb.out.frozen 0
    have f1:=HSb.out.frozen 1
    have f2:=HSb.out.frozen 2
    have f3:=HSb.out.frozen 3
    clear z0 z1 z2 z3 f0 f1 f2 f3
    obtain ⟨x0,x1,x2,x3⟩:=HXb.out.cells
    obtain ⟨y0,y1,y2,y3⟩:=HYb.out.cells
    go_wp2_with fail
    (go_region_with (first
     | (have:=hxv;go_at_call 66;refine (setRange m m' hm6 hm7 _).mono ?_;rintro e wz ⟨rfl,hxz⟩;have hxz':Ext wb wz:=(hxu'.trans hxv).trans hxz;have HSz:=Lib.hid (HSb.out.keep hxz');obtain ⟨z0,z1,z2,z3⟩:=HSz.out.cells;have f0:=HSz.out.frozen 0;have f1:=HSz.out.frozen 1;have f2:=HSz.out.frozen 2;have f3:=HSz.out.frozen 3;unfold sp)
     | (have:=hxu;go_at_call 78;refine (setLeast (fun j=>j == m') m' (sole_one hm7) _ (HTb.out.keep (Ext.trans hxu' (by (first | exact Ext.refl _ | (unfold Ext;repeat (first | exact Below.refl _ _ | assumption | refine BeA ?_ | refine BeC ?_ | refine Below.drew ?_))))))).mono ?_;rintro e wv ⟨rfl,hxv⟩)
     | (go_at_call 78;refine (setLeast (fun j=>j == m) m (sole_one hm6) _ (HTb.out.keep (by (first | exact Ext.refl _ | (unfold Ext;repeat (first | exact Below.refl _ _ | assumption | refine BeA ?_ | refine BeC ?_ | refine Below.drew ?_)))))).mono ?_;rintro e wu ⟨rfl,hxu⟩;have hxu':Ext wb wu:=Ext.trans (show Ext wb wb.drew from (Below.refl _ _).drew) hxu;obtain ⟨y0,y1,y2,y3⟩:=(HYb.out.keep hxu').cells)))
    all_goals go_wp2
    all_goals exact bodyPost_ret (v:=.tuple #[sp (fun c=>decide (m≤c) && decide (c≤m')),.nilIface]) (results_sp2 rfl (by simp [Act.put]) (HSz.out.set4 (fun c=>decide (m≤c) && decide (c≤m'))) (by simp [Act.put])) (by simp [Act.put]) ⟨by rw [HQ2.out];rfl,fun _=>(by rw [HQ2.out];rw [show k+(n+1+j)=kn+1+j by have:=HKN.out;omega];exact (RdAt.keep HRb.out hxz').far4 n5 _ _ _ _),((((HCb.out.trans (Chg.of_ext hxz')).setNew (by simp [hgz]) _).setNew (by simp [hgz]) _).setNew (by simp [hgz]) _).setNew (by simp [hgz]) _⟩
end Go.Proofs.YtigmdlchbjanoaaGreatDoor
