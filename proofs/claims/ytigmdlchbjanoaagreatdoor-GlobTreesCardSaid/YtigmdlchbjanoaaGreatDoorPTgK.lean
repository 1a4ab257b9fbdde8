/- Put together: Cl23, Cl23a, Cl23b, Cl23c, Cl23z. -/
import Derived.Test.YtigmdlchbjanoaaGreatDoorPTgI
namespace Go.Proofs.YtigmdlchbjanoaaGreatDoor
open Go Go.RowKit
attribute [local irreducible] wd
theorem clItem (E:Nat→Addr) (l:List UInt8) (k r:Nat) (hlen:l.length≤10000) (hk:k≤l.length) (w:World) (hE:ErrC [2,4] w E) (hT:Tab w) (hR:RdAt w r l k) (h0:r ≠ 7) (h1:r ≠ 4) (ht:r ≠ 19) :
  Calls Tryz.prog 64 #[.pointer (some ⟨r,0,none⟩)] w fun e w' =>
   e=.returned (.tuple #[sp (itemS (l.drop k)).1,ev E (itemS (l.drop k)).2.2])∧((itemS (l.drop k)).2.2=0→RdAt w' r l (k+(itemS (l.drop k)).2.1))∧Chg [r] w w':=by
 by_cases h:∃ m n,signS (l.drop k)=.byte m n∧l[k+n]?=some 45
 ·obtain ⟨m,n,h2,h3⟩:=h
  exact clItemB E l k r m n hlen hk w hE hT hR h0 h1 ht h2 h3
 ·exact clItemA E l k r hlen hk w hE hR (fun m n h2 h3=>h ⟨m,n,h2,h3⟩)
theorem goS_at (l:List UInt8) (b f k:Nat) (x:Nat→Bool):goS l b (f+1) k x =
  if k ≠ b∧l[k]?=some 93 then (x,k+1,0)
  else if (itemS (l.drop k)).2.2 ≠ 0 then (fun _=>false,0,(itemS (l.drop k)).2.2)
  else goS l b f (k+(itemS (l.drop k)).2.1) (fun j=>x j || (itemS (l.drop k)).1 j):=rfl
theorem goS_ok (l:List UInt8) (b:Nat):∀ f k x,(goS l b f k x).2.2=0∨(goS l b f k x).2.2=3∨(goS l b f k x).2.2=5:=by
 intro f
 induction f with
 | zero=>intro k x;exact .inr (.inl rfl)
 | succ f ih =>
  intro k x
  rw [goS_at]
  split
  ·exact .inl rfl
  ·split
   ·exact .inr ((item_fits (l.drop k)).2.resolve_left (by assumption))
   ·exact ih _ _
def posOf (w:World) (r:Nat):Nat:=(intOf ((w.cell? ⟨r,1,none⟩).getD undef)).toNat
theorem RdAt.pos {w:World} {r:Nat} {l:List UInt8} {k:Nat} (h:RdAt w r l k):posOf w r=k:=by
 unfold posOf
 rw [h.c1]
 simp [intOf]
def parseV (E:Nat→Addr) (x:(Nat→Bool) × Nat × Nat):Value:=.tuple #[sp x.1,.int .i64 (x.2.1:Nat),ev E x.2.2]
theorem parse_some (t:List UInt8) (b:Bool) (hb:decide ((91 :: t:List UInt8)[1]?=some 94)=b) (r:(Nat→Bool) × Nat × Nat) (hr:goS (91 :: t) (if b then 2 else 1) ((91 :: t:List UInt8).length+1) (if b then 2 else 1) (fun _=>false)=r) :
  parseS (91 :: t)=if r.2.2=0 then (notP b r.1,r.2) else r:=by
 subst hb
 subst hr
 rfl
set_option maxHeartbeats 8000000 in
set_option maxRecDepth 20000 in
theorem clParse0 (E:Nat→Addr) (l:List UInt8) (hno:∀ t,l ≠ 91 :: t) (w:World) (hE:ErrC [2,4] w E) :
  Calls Tryz.prog 43 #[.string ⟨l.toArray⟩] w fun e w'=>e=.returned (parseV E (parseS l))∧Ext w w':=by
 have hz0:7<w.heap.size:=block_lt_of_cell (hE.cell (i:=2) (by simp) rfl)
 have hz1:4<w.heap.size:=block_lt_of_cell (hE.cell (i:=4) (by simp) rfl)
 have hS:=SB.zero (w:=w) rfl
 have hx0:=Ext.new1 w (.cells #[.int .u64 0,.int .u64 0,.int .u64 0,.int .u64 0] 25)
 have hE1:=hE.keep hx0
 have c0:(w.alloc (.cells #[.int .u64 0,.int .u64 0,.int .u64 0,.int .u64 0] 25)).cell? ⟨7,0,none⟩=some (errV E 2):=hE1.cell (i:=2) (by simp) rfl
 have c1:(w.alloc (.cells #[.int .u64 0,.int .u64 0,.int .u64 0,.int .u64 0] 25)).cell? ⟨4,0,none⟩=some (errV E 4):=hE1.cell (i:=4) (by simp) rfl
 have n0:¬ 7=w.heap.size:=by omega
 have n1:¬ 4=w.heap.size:=by omega
 have n2:¬ w.heap.size=7:=by omega
 have n3:¬ w.heap.size=4:=by omega
 have HS:=Lib.hid hS
 have HNO:=Lib.hid hno
 clear hE hE1 hS hz0 hz1 hno
 match l with
 | [] =>
  have HR:=Lib.hid (show parseS []=(fun _=>false,0,3) from rfl)
  go_enter Tryz.func43,Tryz.ntmps43
  go_wp2
  go_region
  all_goals go_wp2
  all_goals exact bodyPost_ret (v:=.tuple #[sp (fun _=>false),.int .i64 0,errV E 2]) (results_sp3 rfl rfl HS.out.drew rfl rfl) rfl ⟨by rw [HR.out];rfl,by (first | exact Ext.refl _ | (unfold Ext;repeat (first | exact Below.refl _ _ | assumption | refine BeA ?_ | refine BeC ?_ | refine Below.drew ?_)))⟩
 | a :: t =>
  have ha:a ≠ 91:=fun e=>HNO.out t (by rw [e])
  have ha1:a.toNat ≠ 91:=fun e=>ha (UInt8.toNat_inj.1 e)
  have HR:=Lib.hid (show parseS (a :: t)=(fun _=>false,0,5) by unfold parseS;simp [ha1])
  have ha3:((a.toNat:Int) != 91)=true:=by simp;omega
  clear ha ha1
  go_enter Tryz.func43,Tryz.ntmps43
  go_wp2
  go_region
  all_goals go_wp2
  all_goals exact bodyPost_ret (v:=.tuple #[sp (fun _=>false),.int .i64 0,errV E 4]) (results_sp3 rfl rfl HS.out.drew rfl rfl) rfl ⟨by rw [HR.out];rfl,by (first | exact Ext.refl _ | (unfold Ext;repeat (first | exact Below.refl _ _ | assumption | refine BeA ?_ | refine BeC ?_ | refine Below.drew ?_)))⟩
theorem parseV_not (E:Nat→Addr) (x:Nat→Bool) (k:Nat):parseV E (notP true x,k+1,0)=.tuple #[sp (fun j=>!x j),.int .i64 ((k:Int)+1),.nilIface]:=by
 have h:notP true x=fun j=>!x j:=rfl
 unfold parseV
 rw [h]
 rfl
theorem parseV_id (E:Nat→Addr) (x:Nat→Bool) (k:Nat):parseV E (notP false x,k+1,0)=.tuple #[sp x,.int .i64 ((k:Int)+1),.nilIface]:=by
 have h:notP false x=x:=rfl
 unfold parseV
 rw [h]
 rfl
end Go.Proofs.YtigmdlchbjanoaaGreatDoor
namespace Go.Proofs.YtigmdlchbjanoaaGreatDoor
open Go Go.RowKit
attribute [local irreducible] wd
set_option maxHeartbeats 8000000 in
set_option maxRecDepth 20000 in
theorem clParse1a (E:Nat→Addr) (t:List UInt8) (b:Bool) (hbv:b=false) (hb:decide ((91 :: t:List UInt8)[1]?=some 94)=b) (hlt:1<(91 :: t:List UInt8).length) (hlen:(91 :: t:List UInt8).length≤10000) (w:World) (hE:ErrC [2,4] w E) (hT:Tab w) :
  Calls Tryz.prog 43 #[.string ⟨(91 :: t:List UInt8).toArray⟩] w fun e w'=>e=.returned (parseV E (parseS (91 :: t)))∧Ext w w':=by
 have hz0:7<w.heap.size:=block_lt_of_cell (hE.cell (i:=2) (by simp) rfl)
 have hz1:4<w.heap.size:=block_lt_of_cell (hE.cell (i:=4) (by simp) rfl)
 have hz2:19<w.heap.size:=block_lt_of_cell (hT 0 (by decide))
 have HE:=Lib.hid hE
 have HT:=Lib.hid hT
 obtain ⟨l,hl⟩:∃ l:List UInt8,91 :: t=l:=⟨_,rfl⟩
 obtain ⟨R,hRR⟩:∃ R,goS l (if b then 2 else 1) (l.length+1) (if b then 2 else 1) (fun _=>false)=R:=⟨_,rfl⟩
 have hres:=parse_some t b hb R (by rw [hl];exact hRR)
 have hl0:0<l.length:=by rw [← hl];simp
 have hl91:l[0]'hl0=91:=by simp only [← hl];rfl
 have hne:(l.isEmpty)=false:=by rw [← hl];rfl
 rw [hl] at hlen hres hb ⊢
 subst hbv
 have h1:1<l.length:=by rw [← hl];exact hlt
 have HRES:=Lib.hid hres
 clear hE hT hres hl
 generalize hgz:w.heap.size=gz at *
 have m1:¬ gz=gz+1:=by omega
 have m2:¬ gz+1=gz:=by omega
 have HB:=Lib.hid hb
 simp only [Bool.false_eq_true,if_false] at hRR
 have HRR:=Lib.hid hRR
 clear hb hRR hlt
 have h1':(1:Int)<(l.length:Int):=by omega
 obtain ⟨c,hc⟩:∃ c,l[1]'h1=c:=⟨_,rfl⟩
 have hc94:((c.toNat:Int) == 94)=false:=by
  have h2:=HB.out
  rw [List.getElem?_eq_getElem h1,hc] at h2
  have h3:c ≠ 94:=fun e=>by rw [e] at h2;simp at h2
  have h4:c.toNat ≠ 94:=fun e=>h3 (UInt8.toNat_inj.1 e)
  simp;omega
 go_enter Tryz.func43,Tryz.ntmps43
 go_wp2
 clear hc94 hc h1'
 go_loopw [9] (fun _ wr=>∃ (k f:Nat) (x:Nat→Bool),1≤k∧k≤l.length∧l.length+1≤f+k∧goS l 1 f k x=R∧RdAt wr (gz+1) l k∧SB wr gz x∧Ext w wr) (fun _ wr=>l.length+1-posOf wr (gz+1))
 case atStart=>exact ⟨1,l.length+1,fun _=>false,by omega,by omega,by omega,HRR.out,Blk.newA (by simp [hgz]) _ [.string ⟨l.toArray⟩,.int .i64 1],(SB.zero hgz).alloc _,by (first | exact Ext.refl _ | (unfold Ext;repeat (first | exact Below.refl _ _ | assumption | refine BeA ?_ | refine BeC ?_ | refine Below.drew ?_)))⟩
 case round =>
  obtain ⟨k,f,x,hbk,hk,hf,hg,hR,hS,hx⟩:=hrel
  obtain ⟨f',rfl⟩:∃ f',f=f' + 1:=⟨f-1,by omega⟩
  rw [goS_at] at hg
  have hpos:=hR.pos
  have HRd:=Lib.hid hR
  have c0:=hR.c0
  have c1:=hR.c1
  have HEr:=Lib.hid (HE.out.keep hx)
  have HTr:=Lib.hid (HT.out.keep hx)
  clear hR
  by_cases hend:k ≠ 1∧l[k]?=some 93
  ·rw [if_pos hend] at hg
   have hkl:=(List.getElem?_eq_some_iff.1 hend.2).1
   have hc93:l[k]'hkl=93:=(List.getElem?_eq_some_iff.1 hend.2).2
   have hkb:((k:Int) == 1)=false:=by have:=hend.1;simp;omega
   have hki:(k:Int)<(l.length:Int):=by omega
   have hki':¬ (l.length:Int)≤(k:Int):=by omega
   have HR':=Lib.hid (show parseS l=(notP false x,k+1,0) by rw [HRES.out,← hg];rfl)
   obtain ⟨z0,z1,z2,z3⟩:=hS.cells
   have f0:=hS.frozen 0
   have f1:=hS.frozen 1
   have f2:=hS.frozen 2
   have f3:=hS.frozen 3
   have HS:=Lib.hid hS
   clear hg hend hS
   go_wp2_with fail
   go_region
   all_goals go_wp2
   all_goals exact bodyPost_ret (v:=.tuple #[sp x,.int .i64 ((k:Int)+1),.nilIface]) (results_sp3 rfl rfl (HS.out.set4 x).drew rfl rfl) rfl ⟨by rw [HR'.out,parseV_id],by (first | exact Ext.refl _ | (unfold Ext;repeat (first | exact Below.refl _ _ | assumption | refine BeA ?_ | refine BeC ?_ | refine Below.drew ?_)))⟩
  ·rw [if_neg hend] at hg
   by_cases hkb:k=1
   ·have hkb':((k:Int) == 1)=true:=by simp [hkb]
    clear hend
    clear hkb
    go_wp2_with fail
    go_at_call 64
    refine (clItem E l k (gz+1) hlen hk _ HEr.out HTr.out HRd.out (by omega) (by omega) (by omega)).mono ?_
    rintro e w1 ⟨rfl,hR1,hc1⟩
    have hw1:gz+1<w1.heap.size:=Nat.lt_of_lt_of_le HRd.out.lt hc1.size
    have hx1:Ext w w1:=hc1.below hx (by have:=hx.size;omega) (by simp;omega)
    have hS1:=(hS.chg hc1 (by simp))
    have q1:¬ w1.heap.size=gz:=by omega
    have q2:¬ gz=w1.heap.size:=by omega
    have hS2:=hS1.alloc (.cells #[.int .u64 (wd (itemS (l.drop k)).1 0:Nat),.int .u64 (wd (itemS (l.drop k)).1 1:Nat),.int .u64 (wd (itemS (l.drop k)).1 2:Nat),.int .u64 (wd (itemS (l.drop k)).1 3:Nat)] 25)
    have hx2:=hx1.trans (Ext.new1 w1 (.cells #[.int .u64 (wd (itemS (l.drop k)).1 0:Nat),.int .u64 (wd (itemS (l.drop k)).1 1:Nat),.int .u64 (wd (itemS (l.drop k)).1 2:Nat),.int .u64 (wd (itemS (l.drop k)).1 3:Nat)] 25))
    clear c0 c1
    by_cases hi:(itemS (l.drop k)).2.2=0
    ·have hR2:=RdAt.keep (hR1 hi) (Ext.new1 w1 (.cells #[.int .u64 (wd (itemS (l.drop k)).1 0:Nat),.int .u64 (wd (itemS (l.drop k)).1 1:Nat),.int .u64 (wd (itemS (l.drop k)).1 2:Nat),.int .u64 (wd (itemS (l.drop k)).1 3:Nat)] 25))
     have hfit:=(item_fits (l.drop k)).1 hi
     rw [List.length_drop] at hfit
     rw [if_neg (by simp [hi])] at hg
     rw [hi]
     clear hR1 hi
     simp only [ev]
     unfold sp
     obtain ⟨z0,z1,z2,z3⟩:=hS2.cells
     have f0:=hS2.frozen 0
     have f1:=hS2.frozen 1
     have f2:=hS2.frozen 2
     have f3:=hS2.frozen 3
     have HG:=Lib.hid hg
     have HS2:=Lib.hid hS2
     have HR2:=Lib.hid hR2
     clear hg hS2 hR2 hS1 hx1 hx HRd HEr HTr hS
     go_wp2_with (go_at_call 65;refine (setOr x (itemS (l.drop k)).1 _).mono ?_;rintro e w3 ⟨rfl,hx3⟩;have hS3:=HS2.out.keep hx3;obtain ⟨z0,z1,z2,z3⟩:=hS3.cells;have f0:=hS3.frozen 0;have f1:=hS3.frozen 1;have f2:=hS3.frozen 2;have f3:=hS3.frozen 3;have HS3:=Lib.hid hS3;clear hS3;unfold sp)
     have hR4:=Lib.hid ((HR2.out.keep hx3).far4 m2 (.int .u64 (wd (fun j=>x j || (itemS (l.drop k)).1 j) 0:Nat)) (.int .u64 (wd (fun j=>x j || (itemS (l.drop k)).1 j) 1:Nat)) (.int .u64 (wd (fun j=>x j || (itemS (l.drop k)).1 j) 2:Nat)) (.int .u64 (wd (fun j=>x j || (itemS (l.drop k)).1 j) 3:Nat)))
     have hx4:=hx2.trans hx3
     go_roundw
     case rel=>exact ⟨k+(itemS (l.drop k)).2.1,f',_,by omega,by omega,by omega,HG.out,hR4.out,HS3.out.set4 (fun j=>x j || (itemS (l.drop k)).1 j),by (first | exact Ext.refl _ | (unfold Ext;repeat (first | exact Below.refl _ _ | assumption | refine BeA ?_ | refine BeC ?_ | refine Below.drew ?_)))⟩
     case measure=>rw [hR4.out.pos,hpos];omega
    ·have hi3:=(item_fits (l.drop k)).2.resolve_left hi
     rw [if_pos hi] at hg
     have HR':=Lib.hid (show parseS l=(fun _=>false,0,(itemS (l.drop k)).2.2) by rw [HRES.out,← hg];simp [hi])
     obtain ⟨z0,z1,z2,z3⟩:=hS2.cells
     have f0:=hS2.frozen 0
     have f1:=hS2.frozen 1
     have f2:=hS2.frozen 2
     have f3:=hS2.frozen 3
     have HS2:=Lib.hid hS2
     clear hg hR1 hi hS2 hS1 hx1 hx HRd HEr HTr hS
     rcases hi3 with hi3 | hi3
     ·rw [hi3] at HR'
      rw [hi3]
      simp only [ev,errV]
      unfold sp
      go_wp2
      exact bodyPost_ret (v:=.tuple #[sp (fun _=>false),.int .i64 0,errV E 2]) (results_sp3 rfl rfl HS2.out.zset rfl rfl) rfl ⟨by rw [HR'.out];rfl,by (first | exact Ext.refl _ | (unfold Ext;repeat (first | exact Below.refl _ _ | assumption | refine BeA ?_ | refine BeC ?_ | refine Below.drew ?_)))⟩
     ·rw [hi3] at HR'
      rw [hi3]
      simp only [ev,errV]
      unfold sp
      go_wp2
      exact bodyPost_ret (v:=.tuple #[sp (fun _=>false),.int .i64 0,errV E 4]) (results_sp3 rfl rfl HS2.out.zset rfl rfl) rfl ⟨by rw [HR'.out];rfl,by (first | exact Ext.refl _ | (unfold Ext;repeat (first | exact Below.refl _ _ | assumption | refine BeA ?_ | refine BeC ?_ | refine Below.drew ?_)))⟩
   ·have hkb':((k:Int) == 1)=false:=by simp;omega
    by_cases hge:l.length≤k
    ·have hge':(l.length:Int)≤(k:Int):=by omega
     clear hend
     go_wp2_with fail
     go_at_call 64
     refine (clItem E l k (gz+1) hlen hk _ HEr.out HTr.out HRd.out (by omega) (by omega) (by omega)).mono ?_
     rintro e w1 ⟨rfl,hR1,hc1⟩
     have hw1:gz+1<w1.heap.size:=Nat.lt_of_lt_of_le HRd.out.lt hc1.size
     have hx1:Ext w w1:=hc1.below hx (by have:=hx.size;omega) (by simp;omega)
     have hS1:=(hS.chg hc1 (by simp))
     have q1:¬ w1.heap.size=gz:=by omega
     have q2:¬ gz=w1.heap.size:=by omega
     have hS2:=hS1.alloc (.cells #[.int .u64 (wd (itemS (l.drop k)).1 0:Nat),.int .u64 (wd (itemS (l.drop k)).1 1:Nat),.int .u64 (wd (itemS (l.drop k)).1 2:Nat),.int .u64 (wd (itemS (l.drop k)).1 3:Nat)] 25)
     have hx2:=hx1.trans (Ext.new1 w1 (.cells #[.int .u64 (wd (itemS (l.drop k)).1 0:Nat),.int .u64 (wd (itemS (l.drop k)).1 1:Nat),.int .u64 (wd (itemS (l.drop k)).1 2:Nat),.int .u64 (wd (itemS (l.drop k)).1 3:Nat)] 25))
     clear c0 c1
     by_cases hi:(itemS (l.drop k)).2.2=0
     ·exfalso
      have hfit:=(item_fits (l.drop k)).1 hi
      rw [List.length_drop] at hfit
      omega
     ·have hi3:=(item_fits (l.drop k)).2.resolve_left hi
      rw [if_pos hi] at hg
      have HR':=Lib.hid (show parseS l=(fun _=>false,0,(itemS (l.drop k)).2.2) by rw [HRES.out,← hg];simp [hi])
      obtain ⟨z0,z1,z2,z3⟩:=hS2.cells
      have f0:=hS2.frozen 0
      have f1:=hS2.frozen 1
      have f2:=hS2.frozen 2
      have f3:=hS2.frozen 3
      have HS2:=Lib.hid hS2
      clear hg hR1 hi hS2 hS1 hx1 hx HRd HEr HTr hS
      rcases hi3 with hi3 | hi3
      ·rw [hi3] at HR'
       rw [hi3]
       simp only [ev,errV]
       unfold sp
       go_wp2
       exact bodyPost_ret (v:=.tuple #[sp (fun _=>false),.int .i64 0,errV E 2]) (results_sp3 rfl rfl HS2.out.zset rfl rfl) rfl ⟨by rw [HR'.out];rfl,by (first | exact Ext.refl _ | (unfold Ext;repeat (first | exact Below.refl _ _ | assumption | refine BeA ?_ | refine BeC ?_ | refine Below.drew ?_)))⟩
      ·rw [hi3] at HR'
       rw [hi3]
       simp only [ev,errV]
       unfold sp
       go_wp2
       exact bodyPost_ret (v:=.tuple #[sp (fun _=>false),.int .i64 0,errV E 4]) (results_sp3 rfl rfl HS2.out.zset rfl rfl) rfl ⟨by rw [HR'.out];rfl,by (first | exact Ext.refl _ | (unfold Ext;repeat (first | exact Below.refl _ _ | assumption | refine BeA ?_ | refine BeC ?_ | refine Below.drew ?_)))⟩
    ·have hge':¬ (l.length:Int)≤(k:Int):=by omega
     have hki:(k:Int)<(l.length:Int):=by omega
     have hkl:k<l.length:=by omega
     obtain ⟨c,hc⟩:∃ c,l[k]'hkl=c:=⟨_,rfl⟩
     have hc93:((c.toNat:Int) != 93)=true:=by
      have h3:c ≠ 93:=fun e=>hend ⟨hkb,by rw [List.getElem?_eq_getElem hkl,hc,e]⟩
      have h4:c.toNat ≠ 93:=fun e=>h3 (UInt8.toNat_inj.1 e)
      simp;omega
     clear hend
     go_wp2_with fail
     go_at_call 64
     refine (clItem E l k (gz+1) hlen hk _ HEr.out HTr.out HRd.out (by omega) (by omega) (by omega)).mono ?_
     rintro e w1 ⟨rfl,hR1,hc1⟩
     have hw1:gz+1<w1.heap.size:=Nat.lt_of_lt_of_le HRd.out.lt hc1.size
     have hx1:Ext w w1:=hc1.below hx (by have:=hx.size;omega) (by simp;omega)
     have hS1:=(hS.chg hc1 (by simp))
     have q1:¬ w1.heap.size=gz:=by omega
     have q2:¬ gz=w1.heap.size:=by omega
     have hS2:=hS1.alloc (.cells #[.int .u64 (wd (itemS (l.drop k)).1 0:Nat),.int .u64 (wd (itemS (l.drop k)).1 1:Nat),.int .u64 (wd (itemS (l.drop k)).1 2:Nat),.int .u64 (wd (itemS (l.drop k)).1 3:Nat)] 25)
     have hx2:=hx1.trans (Ext.new1 w1 (.cells #[.int .u64 (wd (itemS (l.drop k)).1 0:Nat),.int .u64 (wd (itemS (l.drop k)).1 1:Nat),.int .u64 (wd (itemS (l.drop k)).1 2:Nat),.int .u64 (wd (itemS (l.drop k)).1 3:Nat)] 25))
     clear c0 c1
     by_cases hi:(itemS (l.drop k)).2.2=0
     ·have hR2:=RdAt.keep (hR1 hi) (Ext.new1 w1 (.cells #[.int .u64 (wd (itemS (l.drop k)).1 0:Nat),.int .u64 (wd (itemS (l.drop k)).1 1:Nat),.int .u64 (wd (itemS (l.drop k)).1 2:Nat),.int .u64 (wd (itemS (l.drop k)).1 3:Nat)] 25))
      have hfit:=(item_fits (l.drop k)).1 hi
      rw [List.length_drop] at hfit
      rw [if_neg (by simp [hi])] at hg
      rw [hi]
      clear hR1 hi
      simp only [ev]
      unfold sp
      obtain ⟨z0,z1,z2,z3⟩:=hS2.cells
      have f0:=hS2.frozen 0
      have f1:=hS2.frozen 1
      have f2:=hS2.frozen 2
      have f3:=hS2.frozen 3
      have HG:=Lib.hid hg
      have HS2:=Lib.hid hS2
      have HR2:=Lib.hid hR2
      clear hg hS2 hR2 hS1 hx1 hx HRd HEr HTr hS
      go_wp2_with (go_at_call 65;refine (setOr x (itemS (l.drop k)).1 _).mono ?_;rintro e w3 ⟨rfl,hx3⟩;have hS3:=HS2.out.keep hx3;obtain ⟨z0,z1,z2,z3⟩:=hS3.cells;have f0:=hS3.frozen 0;have f1:=hS3.frozen 1;have f2:=hS3.frozen 2;have f3:=hS3.frozen 3;have HS3:=Lib.hid hS3;clear hS3;unfold sp)
      have hR4:=Lib.hid ((HR2.out.keep hx3).far4 m2 (.int .u64 (wd (fun j=>x j || (itemS (l.drop k)).1 j) 0:Nat)) (.int .u64 (wd (fun j=>x j || (itemS (l.drop k)).1 j) 1:Nat)) (.int .u64 (wd (fun j=>x j || (itemS (l.drop k)).1 j) 2:Nat)) (.int .u64 (wd (fun j=>x j || (itemS (l.drop k)).1 j) 3:Nat)))
      have hx4:=hx2.trans hx3
      go_roundw
      case rel=>exact ⟨k+(itemS (l.drop k)).2.1,f',_,by omega,by omega,by omega,HG.out,hR4.out,HS3.out.set4 (fun j=>x j || (itemS (l.drop k)).1 j),by (first | exact Ext.refl _ | (unfold Ext;repeat (first | exact Below.refl _ _ | assumption | refine BeA ?_ | refine BeC ?_ | refine Below.drew ?_)))⟩
      case measure=>rw [hR4.out.pos,hpos];omega
     ·have hi3:=(item_fits (l.drop k)).2.resolve_left hi
      rw [if_pos hi] at hg
      have HR':=Lib.hid (show parseS l=(fun _=>false,0,(itemS (l.drop k)).2.2) by rw [HRES.out,← hg];simp [hi])
      obtain ⟨z0,z1,z2,z3⟩:=hS2.cells
      have f0:=hS2.frozen 0
      have f1:=hS2.frozen 1
      have f2:=hS2.frozen 2
      have f3:=hS2.frozen 3
      have HS2:=Lib.hid hS2
      clear hg hR1 hi hS2 hS1 hx1 hx HRd HEr HTr hS
      rcases hi3 with hi3 | hi3
      ·rw [hi3] at HR'
       rw [hi3]
       simp only [ev,errV]
       unfold sp
       go_wp2
       exact bodyPost_ret (v:=.tuple #[sp (fun _=>false),.int .i64 0,errV E 2]) (results_sp3 rfl rfl HS2.out.zset rfl rfl) rfl ⟨by rw [HR'.out];rfl,by (first | exact Ext.refl _ | (unfold Ext;repeat (first | exact Below.refl _ _ | assumption | refine BeA ?_ | refine BeC ?_ | refine Below.drew ?_)))⟩
      ·rw [hi3] at HR'
       rw [hi3]
       simp only [ev,errV]
       unfold sp
       go_wp2
       exact bodyPost_ret (v:=.tuple #[sp (fun _=>false),.int .i64 0,errV E 4]) (results_sp3 rfl rfl HS2.out.zset rfl rfl) rfl ⟨by rw [HR'.out];rfl,by (first | exact Ext.refl _ | (unfold Ext;repeat (first | exact Below.refl _ _ | assumption | refine BeA ?_ | refine BeC ?_ | refine Below.drew ?_)))⟩
end Go.Proofs.YtigmdlchbjanoaaGreatDoor
namespace Go.Proofs.YtigmdlchbjanoaaGreatDoor
open Go Go.RowKit
attribute [local irreducible] wd
set_option maxHeartbeats 8000000 in
set_option maxRecDepth 20000 in
theorem clParse1b (E:Nat→Addr) (t:List UInt8) (b:Bool) (hbv:b=false) (hb:decide ((91 :: t:List UInt8)[1]?=some 94)=b) (hlt:¬ 1<(91 :: t:List UInt8).length) (hlen:(91 :: t:List UInt8).length≤10000) (w:World) (hE:ErrC [2,4] w E) (hT:Tab w) :
  Calls Tryz.prog 43 #[.string ⟨(91 :: t:List UInt8).toArray⟩] w fun e w'=>e=.returned (parseV E (parseS (91 :: t)))∧Ext w w':=by
 have hz0:7<w.heap.size:=block_lt_of_cell (hE.cell (i:=2) (by simp) rfl)
 have hz1:4<w.heap.size:=block_lt_of_cell (hE.cell (i:=4) (by simp) rfl)
 have hz2:19<w.heap.size:=block_lt_of_cell (hT 0 (by decide))
 have HE:=Lib.hid hE
 have HT:=Lib.hid hT
 obtain ⟨l,hl⟩:∃ l:List UInt8,91 :: t=l:=⟨_,rfl⟩
 obtain ⟨R,hRR⟩:∃ R,goS l (if b then 2 else 1) (l.length+1) (if b then 2 else 1) (fun _=>false)=R:=⟨_,rfl⟩
 have hres:=parse_some t b hb R (by rw [hl];exact hRR)
 have hl0:0<l.length:=by rw [← hl];simp
 have hl91:l[0]'hl0=91:=by simp only [← hl];rfl
 have hne:(l.isEmpty)=false:=by rw [← hl];rfl
 rw [hl] at hlen hres hb ⊢
 subst hbv
 have h1:¬ 1<l.length:=by rw [← hl];exact hlt
 have HRES:=Lib.hid hres
 clear hE hT hres hl
 generalize hgz:w.heap.size=gz at *
 have m1:¬ gz=gz+1:=by omega
 have m2:¬ gz+1=gz:=by omega
 simp only [Bool.false_eq_true,if_false] at hRR
 have HRR:=Lib.hid hRR
 clear hb hRR hlt
 have h1':¬ (1:Int)<(l.length:Int):=by omega
 go_enter Tryz.func43,Tryz.ntmps43
 go_wp2
 clear h1'
 go_loopw [9] (fun _ wr=>∃ (k f:Nat) (x:Nat→Bool),1≤k∧k≤l.length∧l.length+1≤f+k∧goS l 1 f k x=R∧RdAt wr (gz+1) l k∧SB wr gz x∧Ext w wr) (fun _ wr=>l.length+1-posOf wr (gz+1))
 case atStart=>exact ⟨1,l.length+1,fun _=>false,by omega,by omega,by omega,HRR.out,Blk.newA (by simp [hgz]) _ [.string ⟨l.toArray⟩,.int .i64 1],(SB.zero hgz).alloc _,by (first | exact Ext.refl _ | (unfold Ext;repeat (first | exact Below.refl _ _ | assumption | refine BeA ?_ | refine BeC ?_ | refine Below.drew ?_)))⟩
 case round =>
  obtain ⟨k,f,x,hbk,hk,hf,hg,hR,hS,hx⟩:=hrel
  obtain ⟨f',rfl⟩:∃ f',f=f' + 1:=⟨f-1,by omega⟩
  rw [goS_at] at hg
  have hpos:=hR.pos
  have HRd:=Lib.hid hR
  have c0:=hR.c0
  have c1:=hR.c1
  have HEr:=Lib.hid (HE.out.keep hx)
  have HTr:=Lib.hid (HT.out.keep hx)
  clear hR
  have hk1:k=1:=by omega
  rw [if_neg (by simp [hk1])] at hg
  have hkb':((k:Int) == 1)=true:=by simp [hk1]
  have hk2:¬ k<l.length:=by omega
  clear hk1
  go_wp2_with fail
  go_at_call 64
  refine (clItem E l k (gz+1) hlen hk _ HEr.out HTr.out HRd.out (by omega) (by omega) (by omega)).mono ?_
  rintro e w1 ⟨rfl,hR1,hc1⟩
  have hw1:gz+1<w1.heap.size:=Nat.lt_of_lt_of_le HRd.out.lt hc1.size
  have hx1:Ext w w1:=hc1.below hx (by have:=hx.size;omega) (by simp;omega)
  have hS1:=(hS.chg hc1 (by simp))
  have q1:¬ w1.heap.size=gz:=by omega
  have q2:¬ gz=w1.heap.size:=by omega
  have hS2:=hS1.alloc (.cells #[.int .u64 (wd (itemS (l.drop k)).1 0:Nat),.int .u64 (wd (itemS (l.drop k)).1 1:Nat),.int .u64 (wd (itemS (l.drop k)).1 2:Nat),.int .u64 (wd (itemS (l.drop k)).1 3:Nat)] 25)
  have hx2:=hx1.trans (Ext.new1 w1 (.cells #[.int .u64 (wd (itemS (l.drop k)).1 0:Nat),.int .u64 (wd (itemS (l.drop k)).1 1:Nat),.int .u64 (wd (itemS (l.drop k)).1 2:Nat),.int .u64 (wd (itemS (l.drop k)).1 3:Nat)] 25))
  clear c0 c1
  by_cases hi:(itemS (l.drop k)).2.2=0
  ·exfalso
   have hfit:=(item_fits (l.drop k)).1 hi
   rw [List.length_drop] at hfit
   omega
  ·have hi3:=(item_fits (l.drop k)).2.resolve_left hi
   rw [if_pos hi] at hg
   have HR':=Lib.hid (show parseS l=(fun _=>false,0,(itemS (l.drop k)).2.2) by rw [HRES.out,← hg];simp [hi])
   obtain ⟨z0,z1,z2,z3⟩:=hS2.cells
   have f0:=hS2.frozen 0
   have f1:=hS2.frozen 1
   have f2:=hS2.frozen 2
   have f3:=hS2.frozen 3
   have HS2:=Lib.hid hS2
   clear hg hR1 hi hS2 hS1 hx1 hx HRd HEr HTr hS
   rcases hi3 with hi3 | hi3
   ·rw [hi3] at HR'
    rw [hi3]
    simp only [ev,errV]
    unfold sp
    go_wp2
    exact bodyPost_ret (v:=.tuple #[sp (fun _=>false),.int .i64 0,errV E 2]) (results_sp3 rfl rfl HS2.out.zset rfl rfl) rfl ⟨by rw [HR'.out];rfl,by (first | exact Ext.refl _ | (unfold Ext;repeat (first | exact Below.refl _ _ | assumption | refine BeA ?_ | refine BeC ?_ | refine Below.drew ?_)))⟩
   ·rw [hi3] at HR'
    rw [hi3]
    simp only [ev,errV]
    unfold sp
    go_wp2
    exact bodyPost_ret (v:=.tuple #[sp (fun _=>false),.int .i64 0,errV E 4]) (results_sp3 rfl rfl HS2.out.zset rfl rfl) rfl ⟨by rw [HR'.out];rfl,by (first | exact Ext.refl _ | (unfold Ext;repeat (first | exact Below.refl _ _ | assumption | refine BeA ?_ | refine BeC ?_ | refine Below.drew ?_)))⟩
end Go.Proofs.YtigmdlchbjanoaaGreatDoor
namespace Go.Proofs.YtigmdlchbjanoaaGreatDoor
open Go Go.RowKit
attribute [local irreducible] wd
set_option maxHeartbeats 8000000 in
set_option maxRecDepth 20000 in
theorem clParse1c (E:Nat→Addr) (t:List UInt8) (b:Bool) (hbv:b=true) (hb:decide ((91 :: t:List UInt8)[1]?=some 94)=b) (hlt:1<(91 :: t:List UInt8).length) (hlen:(91 :: t:List UInt8).length≤10000) (w:World) (hE:ErrC [2,4] w E) (hT:Tab w) :
  Calls Tryz.prog 43 #[.string ⟨(91 :: t:List UInt8).toArray⟩] w fun e w'=>e=.returned (parseV E (parseS (91 :: t)))∧Ext w w':=by
 have hz0:7<w.heap.size:=block_lt_of_cell (hE.cell (i:=2) (by simp) rfl)
 have hz1:4<w.heap.size:=block_lt_of_cell (hE.cell (i:=4) (by simp) rfl)
 have hz2:19<w.heap.size:=block_lt_of_cell (hT 0 (by decide))
 have HE:=Lib.hid hE
 have HT:=Lib.hid hT
 obtain ⟨l,hl⟩:∃ l:List UInt8,91 :: t=l:=⟨_,rfl⟩
 obtain ⟨R,hRR⟩:∃ R,goS l (if b then 2 else 1) (l.length+1) (if b then 2 else 1) (fun _=>false)=R:=⟨_,rfl⟩
 have hres:=parse_some t b hb R (by rw [hl];exact hRR)
 have hl0:0<l.length:=by rw [← hl];simp
 have hl91:l[0]'hl0=91:=by simp only [← hl];rfl
 have hne:(l.isEmpty)=false:=by rw [← hl];rfl
 rw [hl] at hlen hres hb ⊢
 subst hbv
 have h1:1<l.length:=by rw [← hl];exact hlt
 have HRES:=Lib.hid hres
 clear hE hT hres hl
 generalize hgz:w.heap.size=gz at *
 have m1:¬ gz=gz+1:=by omega
 have m2:¬ gz+1=gz:=by omega
 have hb94:l[1]?=some 94:=by simpa using hb
 have hc94:l[1]'h1=94:=(List.getElem?_eq_some_iff.1 hb94).2
 simp only [if_true] at hRR
 have HRR:=Lib.hid hRR
 have h1':(1:Int)<(l.length:Int):=by omega
 clear hb hRR hb94 hlt
 go_enter Tryz.func43,Tryz.ntmps43
 go_wp2
 clear hc94 h1'
 go_loopw [9] (fun _ wr=>∃ (k f:Nat) (x:Nat→Bool),2≤k∧k≤l.length∧l.length+1≤f+k∧goS l 2 f k x=R∧RdAt wr (gz+1) l k∧SB wr gz x∧Ext w wr) (fun _ wr=>l.length+1-posOf wr (gz+1))
 case atStart=>exact ⟨2,l.length+1,fun _=>false,by omega,by omega,by omega,HRR.out,Blk.newA (by simp [hgz]) _ [.string ⟨l.toArray⟩,.int .i64 2],(SB.zero hgz).alloc _,by (first | exact Ext.refl _ | (unfold Ext;repeat (first | exact Below.refl _ _ | assumption | refine BeA ?_ | refine BeC ?_ | refine Below.drew ?_)))⟩
 case round =>
  obtain ⟨k,f,x,hbk,hk,hf,hg,hR,hS,hx⟩:=hrel
  obtain ⟨f',rfl⟩:∃ f',f=f' + 1:=⟨f-1,by omega⟩
  rw [goS_at] at hg
  have hpos:=hR.pos
  have HRd:=Lib.hid hR
  have c0:=hR.c0
  have c1:=hR.c1
  have HEr:=Lib.hid (HE.out.keep hx)
  have HTr:=Lib.hid (HT.out.keep hx)
  clear hR
  by_cases hend:k ≠ 2∧l[k]?=some 93
  ·rw [if_pos hend] at hg
   have hkl:=(List.getElem?_eq_some_iff.1 hend.2).1
   have hc93:l[k]'hkl=93:=(List.getElem?_eq_some_iff.1 hend.2).2
   have hkb:((k:Int) == 2)=false:=by have:=hend.1;simp;omega
   have hki:(k:Int)<(l.length:Int):=by omega
   have hki':¬ (l.length:Int)≤(k:Int):=by omega
   have HR':=Lib.hid (show parseS l=(notP true x,k+1,0) by rw [HRES.out,← hg];rfl)
   obtain ⟨z0,z1,z2,z3⟩:=hS.cells
   have f0:=hS.frozen 0
   have f1:=hS.frozen 1
   have f2:=hS.frozen 2
   have f3:=hS.frozen 3
   have HS:=Lib.hid hS
   clear hg hend hS
   go_wp2_with (go_at_call 59;refine (setNot x _).mono ?_;rintro e w3 ⟨rfl,hx3⟩;have hS3:=HS.out.keep hx3;have hR3:=HRd.out.keep hx3;have c1:=hR3.c1;obtain ⟨z0,z1,z2,z3⟩:=hS3.cells;have f0:=hS3.frozen 0;have f1:=hS3.frozen 1;have f2:=hS3.frozen 2;have f3:=hS3.frozen 3;have HS3:=Lib.hid hS3;clear hS3 hR3;unfold sp)
   have hxx:=hx.trans hx3
   have hS4:=HS3.out.set4 (fun j=>!x j)
   have hR4:=(HRd.out.keep hx3).far4 m2 (.int .u64 (wd (fun j=>!x j) 0:Nat)) (.int .u64 (wd (fun j=>!x j) 1:Nat)) (.int .u64 (wd (fun j=>!x j) 2:Nat)) (.int .u64 (wd (fun j=>!x j) 3:Nat))
   have hx4:Ext w ((((w3.setCell ⟨gz,0,none⟩ (.int .u64 (wd (fun j=>!x j) 0:Nat))).setCell ⟨gz,1,none⟩ (.int .u64 (wd (fun j=>!x j) 1:Nat))).setCell ⟨gz,2,none⟩ (.int .u64 (wd (fun j=>!x j) 2:Nat))).setCell ⟨gz,3,none⟩ (.int .u64 (wd (fun j=>!x j) 3:Nat))):=by (first | exact Ext.refl _ | (unfold Ext;repeat (first | exact Below.refl _ _ | assumption | refine BeA ?_ | refine BeC ?_ | refine Below.drew ?_)))
   clear z0 z1 z2 z3 f0 f1 f2 f3 c0 c1 hx hx3 hxx HS HS3 HRd HEr HTr hpos
   generalize ((((w3.setCell ⟨gz,0,none⟩ (.int .u64 (wd (fun j=>!x j) 0:Nat))).setCell ⟨gz,1,none⟩ (.int .u64 (wd (fun j=>!x j) 1:Nat))).setCell ⟨gz,2,none⟩ (.int .u64 (wd (fun j=>!x j) 2:Nat))).setCell ⟨gz,3,none⟩ (.int .u64 (wd (fun j=>!x j) 3:Nat)))=w4 at *
   have c1:=hR4.c1
   obtain ⟨z0,z1,z2,z3⟩:=hS4.cells
   have f0:=hS4.frozen 0
   have f1:=hS4.frozen 1
   have f2:=hS4.frozen 2
   have f3:=hS4.frozen 3
   have HS4:=Lib.hid hS4
   clear hS4 hR4
   go_region
   all_goals go_wp2
   all_goals exact bodyPost_ret (v:=.tuple #[sp (fun j=>!x j),.int .i64 ((k:Int)+1),.nilIface]) (results_sp3 rfl rfl (HS4.out.set4 (fun j=>!x j)).drew rfl rfl) rfl ⟨by rw [HR'.out,parseV_not],by (first | exact Ext.refl _ | (unfold Ext;repeat (first | exact Below.refl _ _ | assumption | refine BeA ?_ | refine BeC ?_ | refine Below.drew ?_)))⟩
  ·rw [if_neg hend] at hg
   by_cases hkb:k=2
   ·have hkb':((k:Int) == 2)=true:=by simp [hkb]
    clear hend
    clear hkb
    go_wp2_with fail
    go_at_call 64
    refine (clItem E l k (gz+1) hlen hk _ HEr.out HTr.out HRd.out (by omega) (by omega) (by omega)).mono ?_
    rintro e w1 ⟨rfl,hR1,hc1⟩
    have hw1:gz+1<w1.heap.size:=Nat.lt_of_lt_of_le HRd.out.lt hc1.size
    have hx1:Ext w w1:=hc1.below hx (by have:=hx.size;omega) (by simp;omega)
    have hS1:=(hS.chg hc1 (by simp))
    have q1:¬ w1.heap.size=gz:=by omega
    have q2:¬ gz=w1.heap.size:=by omega
    have hS2:=hS1.alloc (.cells #[.int .u64 (wd (itemS (l.drop k)).1 0:Nat),.int .u64 (wd (itemS (l.drop k)).1 1:Nat),.int .u64 (wd (itemS (l.drop k)).1 2:Nat),.int .u64 (wd (itemS (l.drop k)).1 3:Nat)] 25)
    have hx2:=hx1.trans (Ext.new1 w1 (.cells #[.int .u64 (wd (itemS (l.drop k)).1 0:Nat),.int .u64 (wd (itemS (l.drop k)).1 1:Nat),.int .u64 (wd (itemS (l.drop k)).1 2:Nat),.int .u64 (wd (itemS (l.drop k)).1 3:Nat)] 25))
    clear c0 c1
    by_cases hi:(itemS (l.drop k)).2.2=0
    ·have hR2:=RdAt.keep (hR1 hi) (Ext.new1 w1 (.cells #[.int .u64 (wd (itemS (l.drop k)).1 0:Nat),.int .u64 (wd (itemS (l.drop k)).1 1:Nat),.int .u64 (wd (itemS (l.drop k)).1 2:Nat),.int .u64 (wd (itemS (l.drop k)).1 3:Nat)] 25))
     have hfit:=(item_fits (l.drop k)).1 hi
     rw [List.length_drop] at hfit
     rw [if_neg (by simp [hi])] at hg
     rw [hi]
     clear hR1 hi
     simp only [ev]
     unfold sp
     obtain ⟨z0,z1,z2,z3⟩:=hS2.cells
     have f0:=hS2.frozen 0
     have f1:=hS2.frozen 1
     have f2:=hS2.frozen 2
     have f3:=hS2.frozen 3
     have HG:=Lib.hid hg
     have HS2:=Lib.hid hS2
     have HR2:=Lib.hid hR2
     clear hg hS2 hR2 hS1 hx1 hx HRd HEr HTr hS
     go_wp2_with (go_at_call 65;refine (setOr x (itemS (l.drop k)).1 _).mono ?_;rintro e w3 ⟨rfl,hx3⟩;have hS3:=HS2.out.keep hx3;obtain ⟨z0,z1,z2,z3⟩:=hS3.cells;have f0:=hS3.frozen 0;have f1:=hS3.frozen 1;have f2:=hS3.frozen 2;have f3:=hS3.frozen 3;have HS3:=Lib.hid hS3;clear hS3;unfold sp)
     have hR4:=Lib.hid ((HR2.out.keep hx3).far4 m2 (.int .u64 (wd (fun j=>x j || (itemS (l.drop k)).1 j) 0:Nat)) (.int .u64 (wd (fun j=>x j || (itemS (l.drop k)).1 j) 1:Nat)) (.int .u64 (wd (fun j=>x j || (itemS (l.drop k)).1 j) 2:Nat)) (.int .u64 (wd (fun j=>x j || (itemS (l.drop k)).1 j) 3:Nat)))
     have hx4:=hx2.trans hx3
     go_roundw
     case rel=>exact ⟨k+(itemS (l.drop k)).2.1,f',_,by omega,by omega,by omega,HG.out,hR4.out,HS3.out.set4 (fun j=>x j || (itemS (l.drop k)).1 j),by (first | exact Ext.refl _ | (unfold Ext;repeat (first | exact Below.refl _ _ | assumption | refine BeA ?_ | refine BeC ?_ | refine Below.drew ?_)))⟩
     case measure=>rw [hR4.out.pos,hpos];omega
    ·have hi3:=(item_fits (l.drop k)).2.resolve_left hi
     rw [if_pos hi] at hg
     have HR':=Lib.hid (show parseS l=(fun _=>false,0,(itemS (l.drop k)).2.2) by rw [HRES.out,← hg];simp [hi])
     obtain ⟨z0,z1,z2,z3⟩:=hS2.cells
     have f0:=hS2.frozen 0
     have f1:=hS2.frozen 1
     have f2:=hS2.frozen 2
     have f3:=hS2.frozen 3
     have HS2:=Lib.hid hS2
     clear hg hR1 hi hS2 hS1 hx1 hx HRd HEr HTr hS
     rcases hi3 with hi3 | hi3
     ·rw [hi3] at HR'
      rw [hi3]
      simp only [ev,errV]
      unfold sp
      go_wp2
      exact bodyPost_ret (v:=.tuple #[sp (fun _=>false),.int .i64 0,errV E 2]) (results_sp3 rfl rfl HS2.out.zset rfl rfl) rfl ⟨by rw [HR'.out];rfl,by (first | exact Ext.refl _ | (unfold Ext;repeat (first | exact Below.refl _ _ | assumption | refine BeA ?_ | refine BeC ?_ | refine Below.drew ?_)))⟩
     ·rw [hi3] at HR'
      rw [hi3]
      simp only [ev,errV]
      unfold sp
      go_wp2
      exact bodyPost_ret (v:=.tuple #[sp (fun _=>false),.int .i64 0,errV E 4]) (results_sp3 rfl rfl HS2.out.zset rfl rfl) rfl ⟨by rw [HR'.out];rfl,by (first | exact Ext.refl _ | (unfold Ext;repeat (first | exact Below.refl _ _ | assumption | refine BeA ?_ | refine BeC ?_ | refine Below.drew ?_)))⟩
   ·have hkb':((k:Int) == 2)=false:=by simp;omega
    by_cases hge:l.length≤k
    ·have hge':(l.length:Int)≤(k:Int):=by omega
     clear hend
     go_wp2_with fail
     go_at_call 64
     refine (clItem E l k (gz+1) hlen hk _ HEr.out HTr.out HRd.out (by omega) (by omega) (by omega)).mono ?_
     rintro e w1 ⟨rfl,hR1,hc1⟩
     have hw1:gz+1<w1.heap.size:=Nat.lt_of_lt_of_le HRd.out.lt hc1.size
     have hx1:Ext w w1:=hc1.below hx (by have:=hx.size;omega) (by simp;omega)
     have hS1:=(hS.chg hc1 (by simp))
     have q1:¬ w1.heap.size=gz:=by omega
     have q2:¬ gz=w1.heap.size:=by omega
     have hS2:=hS1.alloc (.cells #[.int .u64 (wd (itemS (l.drop k)).1 0:Nat),.int .u64 (wd (itemS (l.drop k)).1 1:Nat),.int .u64 (wd (itemS (l.drop k)).1 2:Nat),.int .u64 (wd (itemS (l.drop k)).1 3:Nat)] 25)
     have hx2:=hx1.trans (Ext.new1 w1 (.cells #[.int .u64 (wd (itemS (l.drop k)).1 0:Nat),.int .u64 (wd (itemS (l.drop k)).1 1:Nat),.int .u64 (wd (itemS (l.drop k)).1 2:Nat),.int .u64 (wd (itemS (l.drop k)).1 3:Nat)] 25))
     clear c0 c1
     by_cases hi:(itemS (l.drop k)).2.2=0
     ·exfalso
      have hfit:=(item_fits (l.drop k)).1 hi
      rw [List.length_drop] at hfit
      omega
     ·have hi3:=(item_fits (l.drop k)).2.resolve_left hi
      rw [if_pos hi] at hg
      have HR':=Lib.hid (show parseS l=(fun _=>false,0,(itemS (l.drop k)).2.2) by rw [HRES.out,← hg];simp [hi])
      obtain ⟨z0,z1,z2,z3⟩:=hS2.cells
      have f0:=hS2.frozen 0
      have f1:=hS2.frozen 1
      have f2:=hS2.frozen 2
      have f3:=hS2.frozen 3
      have HS2:=Lib.hid hS2
      clear hg hR1 hi hS2 hS1 hx1 hx HRd HEr HTr hS
      rcases hi3 with hi3 | hi3
      ·rw [hi3] at HR'
       rw [hi3]
       simp only [ev,errV]
       unfold sp
       go_wp2
       exact bodyPost_ret (v:=.tuple #[sp (fun _=>false),.int .i64 0,errV E 2]) (results_sp3 rfl rfl HS2.out.zset rfl rfl) rfl ⟨by rw [HR'.out];rfl,by (first | exact Ext.refl _ | (unfold Ext;repeat (first | exact Below.refl _ _ | assumption | refine BeA ?_ | refine BeC ?_ | refine Below.drew ?_)))⟩
      ·rw [hi3] at HR'
       rw [hi3]
       simp only [ev,errV]
       unfold sp
       go_wp2
       exact bodyPost_ret (v:=.tuple #[sp (fun _=>false),.int .i64 0,errV E 4]) (results_sp3 rfl rfl HS2.out.zset rfl rfl) rfl ⟨by rw [HR'.out];rfl,by (first | exact Ext.refl _ | (unfold Ext;repeat (first | exact Below.refl _ _ | assumption | refine BeA ?_ | refine BeC ?_ | refine Below.drew ?_)))⟩
    ·have hge':¬ (l.length:Int)≤(k:Int):=by omega
     have hki:(k:Int)<(l.length:Int):=by omega
     have hkl:k<l.length:=by omega
     obtain ⟨c,hc⟩:∃ c,l[k]'hkl=c:=⟨_,rfl⟩
     have hc93:((c.toNat:Int) != 93)=true:=by
      have h3:c ≠ 93:=fun e=>hend ⟨hkb,by rw [List.getElem?_eq_getElem hkl,hc,e]⟩
      have h4:c.toNat ≠ 93:=fun e=>h3 (UInt8.toNat_inj.1 e)
      simp;omega
     clear hend
     go_wp2_with fail
     go_at_call 64
     refine (clItem E l k (gz+1) hlen hk _ HEr.out HTr.out HRd.out (by omega) (by omega) (by omega)).mono ?_
     rintro e w1 ⟨rfl,hR1,hc1⟩
     have hw1:gz+1<w1.heap.size:=Nat.lt_of_lt_of_le HRd.out.lt hc1.size
     have hx1:Ext w w1:=hc1.below hx (by have:=hx.size;omega) (by simp;omega)
     have hS1:=(hS.chg hc1 (by simp))
     have q1:¬ w1.heap.size=gz:=by omega
     have q2:¬ gz=w1.heap.size:=by omega
     have hS2:=hS1.alloc (.cells #[.int .u64 (wd (itemS (l.drop k)).1 0:Nat),.int .u64 (wd (itemS (l.drop k)).1 1:Nat),.int .u64 (wd (itemS (l.drop k)).1 2:Nat),.int .u64 (wd (itemS (l.drop k)).1 3:Nat)] 25)
     have hx2:=hx1.trans (Ext.new1 w1 (.cells #[.int .u64 (wd (itemS (l.drop k)).1 0:Nat),.int .u64 (wd (itemS (l.drop k)).1 1:Nat),.int .u64 (wd (itemS (l.drop k)).1 2:Nat),.int .u64 (wd (itemS (l.drop k)).1 3:Nat)] 25))
     clear c0 c1
     by_cases hi:(itemS (l.drop k)).2.2=0
     ·have hR2:=RdAt.keep (hR1 hi) (Ext.new1 w1 (.cells #[.int .u64 (wd (itemS (l.drop k)).1 0:Nat),.int .u64 (wd (itemS (l.drop k)).1 1:Nat),.int .u64 (wd (itemS (l.drop k)).1 2:Nat),.int .u64 (wd (itemS (l.drop k)).1 3:Nat)] 25))
      have hfit:=(item_fits (l.drop k)).1 hi
      rw [List.length_drop] at hfit
      rw [if_neg (by simp [hi])] at hg
      rw [hi]
      clear hR1 hi
      simp only [ev]
      unfold sp
      obtain ⟨z0,z1,z2,z3⟩:=hS2.cells
      have f0:=hS2.frozen 0
      have f1:=hS2.frozen 1
      have f2:=hS2.frozen 2
      have f3:=hS2.frozen 3
      have HG:=Lib.hid hg
      have HS2:=Lib.hid hS2
      have HR2:=Lib.hid hR2
      clear hg hS2 hR2 hS1 hx1 hx HRd HEr HTr hS
      go_wp2_with (go_at_call 65;refine (setOr x (itemS (l.drop k)).1 _).mono ?_;rintro e w3 ⟨rfl,hx3⟩;have hS3:=HS2.out.keep hx3;obtain ⟨z0,z1,z2,z3⟩:=hS3.cells;have f0:=hS3.frozen 0;have f1:=hS3.frozen 1;have f2:=hS3.frozen 2;have f3:=hS3.frozen 3;have HS3:=Lib.hid hS3;clear hS3;unfold sp)
      have hR4:=Lib.hid ((HR2.out.keep hx3).far4 m2 (.int .u64 (wd (fun j=>x j || (itemS (l.drop k)).1 j) 0:Nat)) (.int .u64 (wd (fun j=>x j || (itemS (l.drop k)).1 j) 1:Nat)) (.int .u64 (wd (fun j=>x j || (itemS (l.drop k)).1 j) 2:Nat)) (.int .u64 (wd (fun j=>x j || (itemS (l.drop k)).1 j) 3:Nat)))
      have hx4:=hx2.trans hx3
      go_roundw
      case rel=>exact ⟨k+(itemS (l.drop k)).2.1,f',_,by omega,by omega,by omega,HG.out,hR4.out,HS3.out.set4 (fun j=>x j || (itemS (l.drop k)).1 j),by (first | exact Ext.refl _ | (unfold Ext;repeat (first | exact Below.refl _ _ | assumption | refine BeA ?_ | refine BeC ?_ | refine Below.drew ?_)))⟩
      case measure=>rw [hR4.out.pos,hpos];omega
     ·have hi3:=(item_fits (l.drop k)).2.resolve_left hi
      rw [if_pos hi] at hg
      have HR':=Lib.hid (show parseS l=(fun _=>false,0,(itemS (l.drop k)).2.2) by rw [HRES.out,← hg];simp [hi])
      obtain ⟨z0,z1,z2,z3⟩:=hS2.cells
      have f0:=hS2.frozen 0
      have f1:=hS2.frozen 1
      have f2:=hS2.frozen 2
      have f3:=hS2.frozen 3
      have HS2:=Lib.hid hS2
      clear hg hR1 hi hS2 hS1 hx1 hx HRd HEr HTr hS
      rcases hi3 with hi3 | hi3
      ·rw [hi3] at HR'
       rw [hi3]
       simp only [ev,errV]
       unfold sp
       go_wp2
       exact bodyPost_ret (v:=.tuple #[sp (fun _=>false),.int .i64 0,errV E 2]) (results_sp3 rfl rfl HS2.out.zset rfl rfl) rfl ⟨by rw [HR'.out];rfl,by (first | exact Ext.refl _ | (unfold Ext;repeat (first | exact Below.refl _ _ | assumption | refine BeA ?_ | refine BeC ?_ | refine Below.drew ?_)))⟩
      ·rw [hi3] at HR'
       rw [hi3]
       simp only [ev,errV]
       unfold sp
       go_wp2
       exact bodyPost_ret (v:=.tuple #[sp (fun _=>false),.int .i64 0,errV E 4]) (results_sp3 rfl rfl HS2.out.zset rfl rfl) rfl ⟨by rw [HR'.out];rfl,by (first | exact Ext.refl _ | (unfold Ext;repeat (first | exact Below.refl _ _ | assumption | refine BeA ?_ | refine BeC ?_ | refine Below.drew ?_)))⟩
end Go.Proofs.YtigmdlchbjanoaaGreatDoor
namespace Go.Proofs.YtigmdlchbjanoaaGreatDoor
open Go Go.RowKit
theorem clParse (E:Nat→Addr) (l:List UInt8) (hlen:l.length≤10000) (w:World) (hE:ErrC [2,4] w E) (hT:Tab w) :
  Calls Tryz.prog 43 #[.string ⟨l.toArray⟩] w fun e w'=>e=.returned (parseV E (parseS l))∧Ext w w':=by
 by_cases h:∃ t,l=91 :: t
 ·obtain ⟨t,rfl⟩:=h
  by_cases h1:1<(91 :: t:List UInt8).length
  ·cases hb:decide ((91 :: t:List UInt8)[1]?=some 94)
   ·exact clParse1a E t false rfl hb h1 hlen w hE hT
   ·exact clParse1c E t true rfl hb h1 hlen w hE hT
  ·refine clParse1b E t false rfl ?_ h1 hlen w hE hT
   rw [List.getElem?_eq_none (by omega)]
   rfl
 ·exact clParse0 E l (fun t e=>h ⟨t,e⟩) w hE
end Go.Proofs.YtigmdlchbjanoaaGreatDoor
