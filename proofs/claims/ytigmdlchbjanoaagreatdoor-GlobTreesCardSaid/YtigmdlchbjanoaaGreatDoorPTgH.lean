/- Put together: Cl21. -/
import Derived.Test.YtigmdlchbjanoaaGreatDoorPTgG
import Derived.BigQuiet
import Derived.Deep.QuietTactic
namespace Go.Proofs.YtigmdlchbjanoaaGreatDoor
open Go Go.RowKit
attribute [local irreducible] wd
theorem SB.drewN' {w:World} {g:Nat} {p:Nat→Bool} (h:SB w g p) {n:Nat}:SB (w.drewN n) g p:=h
theorem RdAt.drewN' {w:World} {r:Nat} {l:List UInt8} {k:Nat} (h:RdAt w r l k) {n:Nat}:RdAt (w.drewN n) r l k:=h
theorem Chg.drewN' {X:List Nat} {a w:World} (h:Chg X a w) {n:Nat}:Chg X a (w.drewN n):=⟨h.os,h.tape,h.output,h.size,h.block⟩
theorem drop_get {l:List UInt8} {k n:Nat}:(l.drop k)[n]?=l[k+n]?:=List.getElem?_drop
set_option maxHeartbeats 4000000 in
set_option maxRecDepth 20000 in
theorem clItemA (E:Nat→Addr) (l:List UInt8) (k r:Nat) (hlen:l.length≤10000) (hk:k≤l.length) (w:World) (hE:ErrC [2,4] w E) (hR:RdAt w r l k)
  (hno:∀ m n,signS (l.drop k)=.byte m n→l[k+n]? ≠ some 45) :
  Calls Tryz.prog 64 #[.pointer (some ⟨r,0,none⟩)] w fun e w' =>
   e=.returned (.tuple #[sp (itemS (l.drop k)).1,ev E (itemS (l.drop k)).2.2])∧((itemS (l.drop k)).2.2=0→RdAt w' r l (k+(itemS (l.drop k)).2.1))∧Chg [r] w w':=by
 have hx0:=Ext.new1 w (.cells #[.int .u64 0,.int .u64 0,.int .u64 0,.int .u64 0] 25)
 have hS:=SB.zero (w:=w) rfl
 have hrl:=hR.lt
 have n4:¬ w.heap.size=r:=by omega
 have n5:¬ r=w.heap.size:=by omega
 have HE:=Lib.hid (hE.keep hx0)
 have HS:=Lib.hid hS
 have HR:=Lib.hid (hR.keep hx0)
 have hfit:=sign_fits (l.drop k)
 have HNO:=Lib.hid hno
 clear hE hS hR hno
 obtain ⟨s,hs⟩:∃ s,signS (l.drop k)=s:=⟨_,rfl⟩
 have HSG:=Lib.hid hs
 rw [hs] at hfit
 have hsz:=Sg.fits_size hfit
 rw [List.length_drop] at hsz
 have hfits:=Lib.hid hfit
 clear hs hfit
 go_enter Tryz.func64,Tryz.ntmps64
 go_wp2_with (go_at_call 77;refine (clRSign E l k r hlen hk _ HE.out HR.out).mono ?_;rintro e w1 ⟨rfl,hR1,hc1⟩;rw [HSG.out];rw [HSG.out] at hR1;unfold sp)
 generalize hgz:w.heap.size=gz at *
 have hw1:gz<w1.heap.size:=Nat.lt_of_lt_of_le (by simp [hgz]) hc1.size
 have hR2:=Blk.alloc hR1 (.cells #[.int .u64 (wd s.set 0:Nat),.int .u64 (wd s.set 1:Nat),.int .u64 (wd s.set 2:Nat),.int .u64 (wd s.set 3:Nat)] 25)
 have hX2:=SB.new (w:=w1) rfl s.set
 have hS2:=(HS.out.chg hc1 (by simp;omega)).alloc (.cells #[.int .u64 (wd s.set 0:Nat),.int .u64 (wd s.set 1:Nat),.int .u64 (wd s.set 2:Nat),.int .u64 (wd s.set 3:Nat)] 25)
 have hc2:=((Chg.of_ext hx0).trans hc1).alloc (.cells #[.int .u64 (wd s.set 0:Nat),.int .u64 (wd s.set 1:Nat),.int .u64 (wd s.set 2:Nat),.int .u64 (wd s.set 3:Nat)] 25)
 have m1:¬ w1.heap.size=r:=by have:=hc1.size;simp at this;omega
 have m2:¬ r=w1.heap.size:=by have:=hc1.size;simp at this;omega
 have m3:¬ w1.heap.size=gz:=by omega
 have m4:¬ gz=w1.heap.size:=by omega
 clear hR1 hc1
 generalize w1.heap.size=gx at *
 generalize w1.alloc (.cells #[.int .u64 (wd s.set 0:Nat),.int .u64 (wd s.set 1:Nat),.int .u64 (wd s.set 2:Nat),.int .u64 (wd s.set 3:Nat)] 25)=w2 at *
 clear hx0
 have c0:w2.cell? ⟨r,0,none⟩=some (.string ⟨l.toArray⟩):=Blk.cell hR2 0
 have c1:w2.cell? ⟨r,1,none⟩=some (.int .i64 (k+s.size:Nat)):=Blk.cell hR2 1
 obtain ⟨y0,y1,y2,y3⟩:=hX2.cells
 obtain ⟨z0,z1,z2,z3⟩:=hS2.cells
 have f0:=hS2.frozen 0
 have f1:=hS2.frozen 1
 have f2:=hS2.frozen 2
 have f3:=hS2.frozen 3
 have HR2:=Lib.hid hR2
 have HX2:=Lib.hid hX2
 have HS2:=Lib.hid hS2
 have HC2:=Lib.hid hc2
 clear hR2 hX2 hS2 hc2
 cases s with
 | bad e =>
  have hes:e=3∨e=5:=hfits.out
  have HQ:=Lib.hid (show itemS (l.drop k)=(fun _=>false,0,e) by unfold itemS;rw [HSG.out])
  simp only [Sg.set,Sg.one,Sg.size,Sg.err] at *
  rcases hes with rfl | rfl
  ·simp only [ev,errV]
   go_quiet (fail)
   go_wp2
   exact bodyPost_ret (v:=.tuple #[sp (fun _=>false),errV E 2]) (results_sp2 rfl rfl (HS2.out.drewN'.set4 (fun _=>false)) rfl) rfl ⟨by rw [HQ.out];rfl,fun h=>(by rw [HQ.out] at h;exact absurd h (by decide)),(((HC2.out.drewN'.setNew (by simp [hgz]) _).setNew (by simp [hgz]) _).setNew (by simp [hgz]) _).setNew (by simp [hgz]) _⟩
  ·simp only [ev,errV]
   go_quiet (fail)
   go_wp2
   exact bodyPost_ret (v:=.tuple #[sp (fun _=>false),errV E 4]) (results_sp2 rfl rfl (HS2.out.drewN'.set4 (fun _=>false)) rfl) rfl ⟨by rw [HQ.out];rfl,fun h=>(by rw [HQ.out] at h;exact absurd h (by decide)),(((HC2.out.drewN'.setNew (by simp [hgz]) _).setNew (by simp [hgz]) _).setNew (by simp [hgz]) _).setNew (by simp [hgz]) _⟩
 | cls p n =>
  have HQ:=Lib.hid (show itemS (l.drop k)=(p,n,0) by unfold itemS;rw [HSG.out])
  simp only [Sg.set,Sg.one,Sg.size,Sg.err,ev] at *
  go_quiet (fail)
  go_wp2
  exact bodyPost_ret (v:=.tuple #[sp p,.nilIface]) (results_sp2 rfl rfl (HS2.out.drewN'.set4 p) rfl) rfl ⟨by rw [HQ.out];rfl,fun _=>(by rw [HQ.out];exact RdAt.far4 (RdAt.drewN' HR2.out) n5 _ _ _ _),(((HC2.out.drewN'.setNew (by simp [hgz]) _).setNew (by simp [hgz]) _).setNew (by simp [hgz]) _).setNew (by simp [hgz]) _⟩
 | byte m n =>
  have HQ:=Lib.hid (show itemS (l.drop k)=(fun j=>j == m,n,0) by unfold itemS;rw [HSG.out];simp only [drop_get];rw [if_neg (HNO.out m n HSG.out)])
  have hne:=HNO.out m n HSG.out
  simp only [Sg.set,Sg.one,Sg.size,Sg.err,ev] at *
  have HR3:=HR2
  clear HR2
  obtain ⟨kn,hkn⟩:∃ kn,k+n=kn:=⟨_,rfl⟩
  have HR2:Hid (RdAt w2 r l (k+n)):=HR3
  rw [hkn] at hne
  rw [show ((k+n:Nat):Int)=(kn:Int) by rw [hkn]] at c1
  clear hkn HR3
  by_cases hge:l.length≤kn
  ·have hge':(l.length:Int)≤(kn:Int):=by omega
   clear hne
   go_quiet (fail)
   go_wp2
   exact bodyPost_ret (v:=.tuple #[sp (fun j=>j == m),.nilIface]) (results_sp2 rfl rfl (HS2.out.drewN'.set4 (fun j=>j == m)) rfl) rfl ⟨by rw [HQ.out];rfl,fun _=>(by rw [HQ.out];exact RdAt.far4 (RdAt.drewN' HR2.out) n5 _ _ _ _),(((HC2.out.drewN'.setNew (by simp [hgz]) _).setNew (by simp [hgz]) _).setNew (by simp [hgz]) _).setNew (by simp [hgz]) _⟩
  ·have hge':¬ (l.length:Int)≤(kn:Int):=by omega
   have hki:(kn:Int)<(l.length:Int):=by omega
   have hkl:kn<l.length:=by omega
   obtain ⟨c,hc⟩:∃ c,l[kn]'hkl=c:=⟨_,rfl⟩
   have h45:((c.toNat:Int) != 45)=true:=by
    have:c ≠ 45:=fun e=>hne (by rw [List.getElem?_eq_getElem hkl,hc,e])
    have h2:c.toNat ≠ 45:=fun e=>this (UInt8.toNat_inj.1 e)
    simp;omega
   have hgb:decide ((l.length:Int)≤(kn:Int))=false:=decide_eq_false hge'
   clear hne
   go_quiet (fail)
   go_wp2
   exact bodyPost_ret (v:=.tuple #[sp (fun j=>j == m),.nilIface]) (results_sp2 rfl rfl (HS2.out.drewN'.set4 (fun j=>j == m)) rfl) rfl ⟨by rw [HQ.out];rfl,fun _=>(by rw [HQ.out];exact RdAt.far4 (RdAt.drewN' HR2.out) n5 _ _ _ _),(((HC2.out.drewN'.setNew (by simp [hgz]) _).setNew (by simp [hgz]) _).setNew (by simp [hgz]) _).setNew (by simp [hgz]) _⟩
end Go.Proofs.YtigmdlchbjanoaaGreatDoor
