/- Put together: Cl17, Cl18, Cl19w, Cl19, Cl20e, Cl20. -/
import Derived.Test.YtigmdlchbjanoaaGreatDoorPTgE
import Derived.Test.YtigmdlchbjanoaaGreatDoorPTgF
import Derived.Test.YtigmdlchbjanoaaGreatDoorPTgA
import Derived.BigRegion
namespace Go.Proofs.YtigmdlchbjanoaaGreatDoor
open Go Go.RowKit
def digO (c:Nat):Option Nat:=if isFig c then some (c-48) else if decide (97≤c) && decide (c≤102) then some (c-87) else if decide (65≤c) && decide (c≤70) then some (c-55) else none
def digV (c:Nat):Int:=match digO c with
 | some d=>d
 | none=>-1
inductive Sg where
 | bad (k:Nat)
 | byte (m n:Nat)
 | cls (p:Nat→Bool) (n:Nat)
def Sg.set:Sg→Nat→Bool
 | .bad _=>fun _=>false
 | .byte m _=>fun j=>j == m
 | .cls p _=>p
def Sg.one:Sg→Bool
 | .byte _ _=>true
 | _=>false
def Sg.size:Sg→Nat
 | .bad _=>0
 | .byte _ n=>n
 | .cls _ n=>n
def Sg.err:Sg→Nat
 | .bad k=>k
 | _=>0
def codedS (l:List UInt8):Sg:=
 match l[2]? with
 | none=>.bad 3
 | some a=>match digO a.toNat with
  | none=>.bad 5
  | some d=>match l[3]? with
   | none=>.bad 3
   | some b=>match digO b.toNat with
    | none=>.bad 5
    | some e=>.byte (16*d+e) 4
def wordP (j:Nat):Bool:=((isFig j || (decide (97≤j) && decide (j≤122))) || (decide (65≤j) && decide (j≤90))) || j == 95
def spaceP (j:Nat):Bool:=((j == 9 || j == 10) || j == 13) || j == 32
def escC (k:Nat) (l:List UInt8):Sg:=
 if k=110 then .byte 10 2 else if k=114 then .byte 13 2 else if k=116 then .byte 9 2 else if k=120 then codedS l
 else if k=100 then .cls isFig 2 else if k=119 then .cls wordP 2 else if k=115 then .cls spaceP 2
 else if isLet k || isFig k then .bad 5 else .byte k 2
def escS (l:List UInt8):Sg:=
 match l with
 | []=>.bad 3
 | a :: t=>if a.toNat=92 then (match t with
   | []=>.bad 3
   | c :: _=>escC c.toNat l) else .bad 5
def signS (l:List UInt8):Sg:=
 match l with
 | []=>.bad 3
 | c :: _=>if c.toNat=93∨c.toNat=45 then .bad 5 else if c.toNat=92 then escS l else .byte c.toNat 1
def itemS (l:List UInt8):(Nat→Bool) × Nat × Nat:=
 match signS l with
 | .bad k=>(fun _=>false,0,k)
 | .cls p n=>(p,n,0)
 | .byte m n =>
  if l[n]?=some 45 then
   match signS (l.drop (n+1)) with
   | .bad k=>(fun _=>false,0,k)
   | .cls _ _=>(fun _=>false,0,5)
   | .byte m' k=>if m' < m then (fun _=>false,0,5) else (fun j=>decide (m≤j) && decide (j≤m'),n+1+k,0)
  else (fun j=>j == m,n,0)
def goS (l:List UInt8) (begun:Nat):Nat→Nat→(Nat→Bool)→(Nat→Bool) × Nat × Nat
 | 0,_,_=>(fun _=>false,0,3)
 | f+1,at',x =>
  if at' ≠ begun∧l[at']?=some 93 then (x,at' + 1,0)
  else if (itemS (l.drop at')).2.2 ≠ 0 then (fun _=>false,0,(itemS (l.drop at')).2.2)
  else goS l begun f (at' + (itemS (l.drop at')).2.1) (fun j=>x j || (itemS (l.drop at')).1 j)
def notP (b:Bool) (p:Nat→Bool) (j:Nat):Bool:=if b then !p j else p j
def parseS (l:List UInt8):(Nat→Bool) × Nat × Nat:=
 match l with
 | []=>(fun _=>false,0,3)
 | a :: _=>if a.toNat=91 then
   (let b:=decide (l[1]?=some 94)
    let r:=goS l (if b then 2 else 1) (l.length+1) (if b then 2 else 1) (fun _=>false)
    if r.2.2=0 then (notP b r.1,r.2) else r)
  else (fun _=>false,0,5)
theorem digO_lt {c d:Nat} (hc:c<256) (h:digO c=some d):d<16:=by
 unfold digO at h
 unfold isFig at h
 split at h
 ·rename_i h1;simp at h1 h;omega
 ·split at h
  ·rename_i h1;simp at h1 h;omega
  ·split at h
   ·rename_i h1;simp at h1 h;omega
   ·cases h
def Sg.fits (s:Sg) (l:List UInt8):Prop:=match s with
 | .bad k=>k=3∨k=5
 | .byte m n=>m<256∧1≤n∧n≤l.length
 | .cls _ n=>1≤n∧n≤l.length
theorem coded_fits (l:List UInt8):(codedS l).fits l:=by
 unfold codedS
 cases ha:l[2]? with
 | none=>exact .inl rfl
 | some a =>
  cases hd:digO a.toNat with
  | none=>simp only [hd];exact .inr rfl
  | some d =>
   cases hb:l[3]? with
   | none=>simp only [hd];exact .inl rfl
   | some b =>
    cases he:digO b.toNat with
    | none=>simp only [hd,he];exact .inr rfl
    | some e =>
     simp only [hd,he]
     have h1:=digO_lt (UInt8.toNat_lt a) hd
     have h2:=digO_lt (UInt8.toNat_lt b) he
     have h3:=(List.getElem?_eq_some_iff.1 hb).1
     exact ⟨by omega,by omega,by omega⟩
theorem esc_fits (l:List UInt8):(escS l).fits l:=by
 unfold escS
 split
 ·exact .inl rfl
 ·rename_i a t
  split
  ·split
   ·exact .inl rfl
   ·rename_i c r
    unfold escC
    have h2:2≤(a :: c :: r).length:=by simp
    (repeat' split) <;> first
     | exact coded_fits _
     | exact .inr rfl
     | exact ⟨UInt8.toNat_lt _,by omega,h2⟩
     | exact ⟨by omega,by omega,h2⟩
     | exact ⟨by omega,h2⟩
  ·exact .inr rfl
theorem sign_fits (l:List UInt8):(signS l).fits l:=by
 unfold signS
 split
 ·exact .inl rfl
 ·split
  ·exact .inr rfl
  ·split
   ·exact esc_fits _
   ·exact ⟨UInt8.toNat_lt _,by omega,by simp⟩
theorem item_fits (l:List UInt8):((itemS l).2.2=0→1≤(itemS l).2.1∧(itemS l).2.1≤l.length)∧((itemS l).2.2=0∨(itemS l).2.2=3∨(itemS l).2.2=5):=by
 have h1:=sign_fits l
 unfold itemS
 split
 ·rename_i k hk
  rw [hk] at h1
  have h1:k=3∨k=5:=h1
  exact ⟨fun h=>(by simp at h;omega),.inr h1⟩
 ·rename_i p n hk
  rw [hk] at h1
  have h1:1≤n∧n≤l.length:=h1
  exact ⟨fun _=>h1,.inl rfl⟩
 ·rename_i m n hk
  rw [hk] at h1
  have h1:m<256∧1≤n∧n≤l.length:=h1
  split
  ·rename_i h45
   have h3:=(List.getElem?_eq_some_iff.1 h45).1
   have h4:=sign_fits (l.drop (n+1))
   split
   ·rename_i k hk2
    rw [hk2] at h4
    have h4:k=3∨k=5:=h4
    exact ⟨fun h=>(by simp at h;omega),.inr h4⟩
   ·exact ⟨fun h=>(by simp at h),.inr (.inr rfl)⟩
   ·rename_i m' k hk2
    rw [hk2] at h4
    have h4:m' < 256∧1≤k∧k≤(l.drop (n+1)).length:=h4
    rw [List.length_drop] at h4
    split
    ·exact ⟨fun h=>(by simp at h),.inr (.inr rfl)⟩
    ·exact ⟨fun _=>⟨by show 1≤n+1+k;omega,by show n+1+k≤l.length;omega⟩,.inl rfl⟩
  ·exact ⟨fun _=>h1.2,.inl rfl⟩
end Go.Proofs.YtigmdlchbjanoaaGreatDoor
namespace Go.Proofs.YtigmdlchbjanoaaGreatDoor
open Go Go.RowKit
attribute [local irreducible] wd
theorem digV_of (c:Nat):digV c=if 48≤c∧c≤57 then (c:Int)-48 else if 97≤c∧c≤102 then (c:Int)-87 else if 65≤c∧c≤70 then (c:Int)-55 else -1:=by
 unfold digV digO isFig
 by_cases h1:48≤c∧c≤57
 ·rw [if_pos h1];simp [h1];omega
 ·rw [if_neg h1]
  by_cases h2:97≤c∧c≤102
  ·rw [if_pos h2]
   have:¬ c≤57:=by omega
   simp [h2,this];omega
  ·rw [if_neg h2]
   by_cases h3:65≤c∧c≤70
   ·rw [if_pos h3]
    have a1:¬ c≤57:=by omega
    have a2:¬ 97≤c:=by omega
    simp [h3,a1,a2];omega
   ·rw [if_neg h3]
    have a1:(decide (48≤c) && decide (c≤57))=false:=by simp;omega
    have a2:(decide (97≤c) && decide (c≤102))=false:=by simp;omega
    have a3:(decide (65≤c) && decide (c≤70))=false:=by simp;omega
    simp [a1,a2,a3]
set_option linter.unusedSimpArgs false in
set_option maxRecDepth 20000 in
theorem clDigit (c:Nat) (hc:c<256) (w:World) :
  Calls Tryz.prog 79 #[.int .u8 (c:Nat)] w fun e w'=>e=.returned (.int .i64 (digV c))∧w'=w:=by
 rw [digV_of]
 have hf:isFig c=(decide (48≤c) && decide (c≤57)):=rfl
 have hr:(48≤c∧c≤57)∨(c<48)∨(58≤c∧c≤64)∨(65≤c∧c≤70)∨(71≤c∧c≤96)∨(97≤c∧c≤102)∨103≤c:=by omega
 rcases hr with h | h | h | h | h | h | h
 focus
  have hF:isFig c=true:=by rw [hf];simp [h]
  have hw:IntKind.u8.wrap ((c:Int)-48)=(c:Int)-48:=by rw [IntKind.wrap_u8];omega
  rw [if_pos h]
  clear hf h
  go_enter Tryz.func79,Tryz.ntmps79
  go_wp2_with (go_at_call 69;refine (clFigure c hc _).mono ?_;rintro e w1 ⟨rfl,rfl⟩;rw [hF])
  go_ret
  exact ⟨by simp,rfl⟩
 all_goals
  have hF:isFig c=false:=by rw [hf];simp;omega
  (try have g1:(97:Int)≤(c:Int):=by omega)
  (try have g1:¬ (97:Int)≤(c:Int):=by omega)
  (try have g2:(c:Int)≤(102:Int):=by omega)
  (try have g2:¬ (c:Int)≤(102:Int):=by omega)
  (try have g3:(65:Int)≤(c:Int):=by omega)
  (try have g3:¬ (65:Int)≤(c:Int):=by omega)
  (try have g4:(c:Int)≤(70:Int):=by omega)
  (try have g4:¬ (c:Int)≤(70:Int):=by omega)
  (try have hw:IntKind.u8.wrap ((c:Int)-97)=(c:Int)-97:=by rw [IntKind.wrap_u8];omega)
  (try have hw:IntKind.u8.wrap ((c:Int)-65)=(c:Int)-65:=by rw [IntKind.wrap_u8];omega)
  have hv:(if 48≤c∧c≤57 then (c:Int)-48 else if 97≤c∧c≤102 then (c:Int)-87 else if 65≤c∧c≤70 then (c:Int)-55 else -1)=(if (97:Int)≤c∧(c:Int)≤102 then (c:Int)-97+10 else if (65:Int)≤c∧(c:Int)≤70 then (c:Int)-65+10 else -1):=by
   (repeat' split) <;> omega
  rw [hv]
  clear hf h hv
  go_enter Tryz.func79,Tryz.ntmps79
  go_wp2_with (go_at_call 69;refine (clFigure c hc _).mono ?_;rintro e w1 ⟨rfl,rfl⟩;rw [hF])
  go_ret
  exact ⟨by simp [g1,g2,g3,g4],rfl⟩
def ev (E:Nat→Addr):Nat→Value
 | 0=>.nilIface
 | k+1=>errV E k
def sgV (E:Nat→Addr) (s:Sg):Value:=.tuple #[sp s.set,.bool s.one,.int .i64 (s.size:Nat),ev E s.err]
theorem load_sp {w:World} {g:Nat} {p:Nat→Bool} (h:SB w g p):(loadVar 25 ⟨g,0,none⟩).run Tryz.prog w=.ok (sp p) w:=
 run_loadVar_row w g 25 25 _ (0,0) _ h Tryz.underlying25 rfl (by kernel_rfl)
theorem results_sp4 {fn:Func} {p a b c:Tmp} (h:fn.results=#[.cell p 25,.tmp a,.tmp b,.tmp c]) {tmps:Array Value} {w:World} {g:Nat} {q:Nat→Bool} {va vb vc:Value}
  (hp:tmps.getD p undef=.pointer (some ⟨g,0,none⟩)) (hg:SB w g q) (ha:tmps.getD a undef=va) (hb:tmps.getD b undef=vb) (hc:tmps.getD c undef=vc):(results fn tmps).run Tryz.prog w=.ok (.tuple #[sp q,va,vb,vc]) w:=by
 have hp':tmps[p]?.getD undef=.pointer (some ⟨g,0,none⟩):=by simpa using hp
 subst ha hb hc
 simp [results,h,hp',asAddr,load_sp hg]
theorem results_sp3 {fn:Func} {p a b:Tmp} (h:fn.results=#[.cell p 25,.tmp a,.tmp b]) {tmps:Array Value} {w:World} {g:Nat} {q:Nat→Bool} {va vb:Value}
  (hp:tmps.getD p undef=.pointer (some ⟨g,0,none⟩)) (hg:SB w g q) (ha:tmps.getD a undef=va) (hb:tmps.getD b undef=vb):(results fn tmps).run Tryz.prog w=.ok (.tuple #[sp q,va,vb]) w:=by
 have hp':tmps[p]?.getD undef=.pointer (some ⟨g,0,none⟩):=by simpa using hp
 subst ha hb
 simp [results,h,hp',asAddr,load_sp hg]
theorem results_sp2 {fn:Func} {p a:Tmp} (h:fn.results=#[.cell p 25,.tmp a]) {tmps:Array Value} {w:World} {g:Nat} {q:Nat→Bool} {va:Value}
  (hp:tmps.getD p undef=.pointer (some ⟨g,0,none⟩)) (hg:SB w g q) (ha:tmps.getD a undef=va):(results fn tmps).run Tryz.prog w=.ok (.tuple #[sp q,va]) w:=by
 have hp':tmps[p]?.getD undef=.pointer (some ⟨g,0,none⟩):=by simpa using hp
 subst ha
 simp [results,h,hp',asAddr,load_sp hg]
theorem hex_or:∀ h d:Fin 16,bits .or .i64 (IntKind.i64.wrap ((h.1:Int)*16)) (d.1:Int)=(h.1:Int)*16+(d.1:Int):=by decide +kernel
def CodedAt (l:List UInt8):Nat→Nat→Prop
 | 2,h=>h=0
 | 3,h=>∃ a d,l[2]?=some a∧digO a.toNat=some d∧h=d
 | 4,h=>∃ a d b e,l[2]?=some a∧digO a.toNat=some d∧l[3]?=some b∧digO b.toNat=some e∧h=16*d+e
 | _,_=>False
theorem CodedAt.lt {l:List UInt8} {i h:Nat} (k:CodedAt l i h) (hi:i≤3):h<16:=by
 match i,k with
 | 2,k=>have k:h=0:=k;omega
 | 3,k =>
  obtain ⟨a,d,_,h2,rfl⟩:=k
  exact digO_lt (UInt8.toNat_lt a) h2
set_option maxHeartbeats 2000000 in
set_option maxRecDepth 20000 in
theorem clCoded (E:Nat→Addr) (l:List UInt8) (_:l.length≤10000) (w:World) (hE:ErrC [2,4] w E) :
  Calls Tryz.prog 67 #[.string ⟨l.toArray⟩] w fun e w'=>e=.returned (sgV E (codedS l))∧Ext w w':=by
 have hz0:7<w.heap.size:=block_lt_of_cell (hE.cell (i:=2) (by simp) rfl)
 have hz1:4<w.heap.size:=block_lt_of_cell (hE.cell (i:=4) (by simp) rfl)
 have HE:=Lib.hid hE
 clear hE
 go_enter Tryz.func67,Tryz.ntmps67
 go_wp2
 generalize hgz:w.heap.size=gz
 rw [hgz] at hz0 hz1
 have n0:¬ 7=gz:=by omega
 have n1:¬ 4=gz:=by omega
 have n2:¬ gz=7:=by omega
 have n3:¬ gz=4:=by omega
 go_loopw [6,7] (fun hv iv wr=>∃ i h:Nat,2≤i∧i≤4∧iv=.int .i64 i∧hv=.int .i64 h∧CodedAt l i h∧SB wr gz (fun _=>false)∧Ext w wr) (fun _ iv _=>4-(intOf iv).toNat)
 case atStart=>exact ⟨2,0,by omega,by omega,rfl,rfl,rfl,SB.zero hgz,by (first | exact Ext.refl _ | (unfold Ext;repeat (first | exact Below.refl _ _ | assumption | refine BeA ?_ | refine BeC ?_ | refine Below.drew ?_)))⟩
 case round =>
  obtain ⟨i,h,hi2,hi4,rfl,rfl,hC,hS,hx⟩:=hrel
  have hE1:=HE.out.keep hx
  have c0:wr.cell? ⟨7,0,none⟩=some (errV E 2):=hE1.cell (i:=2) (by simp) rfl
  have c1:wr.cell? ⟨4,0,none⟩=some (errV E 4):=hE1.cell (i:=4) (by simp) rfl
  by_cases hlt:i<4
  ·have hlt':(i:Int)<4:=by omega
   by_cases hs:l.length≤i
   ·have hs':(l.length:Int)≤(i:Int):=by omega
    have hres:codedS l=.bad 3:=by
     unfold codedS
     have hi':i=2∨i=3:=by omega
     rcases hi' with rfl | rfl
     ·rw [List.getElem?_eq_none hs]
     ·obtain ⟨a,d,h1,h2,_⟩:=hC
      rw [h1]
      simp only [h2]
      rw [List.getElem?_eq_none hs]
    have HR:=Lib.hid hres
    clear hres
    obtain ⟨y0,y1,y2,y3⟩:=hS.cells
    have f0:=hS.frozen 0
    have f1:=hS.frozen 1
    have f2:=hS.frozen 2
    have f3:=hS.frozen 3
    have HS:=Lib.hid hS
    clear hS hC hE1
    go_wp2
    go_region
    all_goals go_wp2
    all_goals exact bodyPost_ret (v:=.tuple #[sp (fun _=>false),.bool false,.int .i64 0,errV E 2]) (results_sp4 rfl rfl HS.out.zset.drew rfl rfl rfl) rfl ⟨by rw [HR.out];rfl,by (first | exact Ext.refl _ | (unfold Ext;repeat (first | exact Below.refl _ _ | assumption | refine BeA ?_ | refine BeC ?_ | refine Below.drew ?_)))⟩
   ·have hli:i<l.length:=by omega
    have hs':¬ (l.length:Int)≤(i:Int):=by omega
    have hli':(i:Int)<(l.length:Int):=by omega
    obtain ⟨a,ha⟩:∃ a,l[i]'hli=a:=⟨_,rfl⟩
    have ha2:l[i]?=some a:=by rw [List.getElem?_eq_getElem hli,ha]
    have ha6:=UInt8.toNat_lt a
    have hi':i=2∨i=3:=by omega
    cases hd:digO a.toNat with
    | none =>
     have hres:codedS l=.bad 5:=by
      unfold codedS
      rcases hi' with rfl | rfl
      ·rw [ha2];simp only [hd]
      ·obtain ⟨a',d',h1,h2,_⟩:=hC
       rw [h1]
       simp only [h2,ha2,hd]
     have hv:digV a.toNat=-1:=by unfold digV;rw [hd]
     have HV:=Lib.hid hv
     have HR:=Lib.hid hres
     obtain ⟨y0,y1,y2,y3⟩:=hS.cells
     have f0:=hS.frozen 0
     have f1:=hS.frozen 1
     have f2:=hS.frozen 2
     have f3:=hS.frozen 3
     have HS:=Lib.hid hS
     clear hS hC hE1 hres hv hd ha2 hi'
     go_wp2_with (go_at_call 79;refine (clDigit a.toNat ha6 _).mono ?_;rintro e w1 ⟨rfl,rfl⟩;rw [HV.out])
     go_region
     all_goals go_wp2
     all_goals exact bodyPost_ret (v:=.tuple #[sp (fun _=>false),.bool false,.int .i64 0,errV E 4]) (results_sp4 rfl rfl HS.out.zset.drew rfl rfl rfl) rfl ⟨by rw [HR.out];rfl,by (first | exact Ext.refl _ | (unfold Ext;repeat (first | exact Below.refl _ _ | assumption | refine BeA ?_ | refine BeC ?_ | refine Below.drew ?_)))⟩
    | some d =>
     have hd6:=digO_lt ha6 hd
     have hh6:=hC.lt (by omega)
     have hv:digV a.toNat=(d:Int):=by unfold digV;rw [hd]
     have hn:CodedAt l (i+1) (h*16+d):=by
      rcases hi' with rfl | rfl
      ·have hC:h=0:=hC
       subst hC
       exact ⟨a,d,ha2,hd,by omega⟩
      ·obtain ⟨a',d',h1,h2,rfl⟩:=hC
       exact ⟨a',h,a,d,h1,h2,ha2,hd,by omega⟩
     have ho:bits .or .i64 (IntKind.i64.wrap ((h:Int)*16)) (d:Int)=(h:Int)*16+(d:Int):=hex_or ⟨h,hh6⟩ ⟨d,hd6⟩
     have hw16:IntKind.i64.wrap ((h:Int)*16)=(h:Int)*16:=wrap_id (by omega) (by omega)
     rw [hw16] at ho
     have hd0:¬ (d:Int)<0:=by omega
     have HV:=Lib.hid hv
     have HN:=Lib.hid hn
     have HS:=Lib.hid hS
     clear hS hC hE1 hv hd ha2 hi' hn
     go_wp2_with (go_at_call 79;refine (clDigit a.toNat ha6 _).mono ?_;rintro e w1 ⟨rfl,rfl⟩;rw [HV.out])
     go_roundw
     case rel=>exact ⟨i+1,h*16+d,by omega,by omega,by go_num,by go_num,HN.out,HS.out,hx⟩
     case measure=>simp [intOf];omega
  ·obtain rfl:i=4:=by omega
   obtain ⟨a,d,b,e,h1,h2,h3,h4,rfl⟩:=hC
   have hres:codedS l=.byte (16*d+e) 4:=by
    unfold codedS
    simp only [h1,h2,h3,h4]
   have hd6:=digO_lt (UInt8.toNat_lt a) h2
   have he6:=digO_lt (UInt8.toNat_lt b) h4
   have hm6:16*d+e<256:=by omega
   generalize 16*d+e=m at *
   have hu8:IntKind.u8.wrap (m:Int)=(m:Int):=by rw [IntKind.wrap_u8];omega
   have HR:=Lib.hid hres
   have HS:=Lib.hid hS
   clear hS hE1 hres h1 h2 h3 h4
   go_wp2_with (go_at_call 20;refine (setOne m hm6 _).mono ?_;rintro e w1 ⟨rfl,hx1⟩;have hS1:=HS.out.keep hx1;obtain ⟨y0,y1,y2,y3⟩:=hS1.cells;have f0:=hS1.frozen 0;have f1:=hS1.frozen 1;have f2:=hS1.frozen 2;have f3:=hS1.frozen 3;have HS1:=Lib.hid hS1;clear hS1;unfold sp)
   have hxx:=hx.trans hx1
   exact bodyPost_ret (v:=.tuple #[sp (fun j=>j == m),.bool true,.int .i64 4,.nilIface]) (results_sp4 rfl rfl (HS1.out.set4 (fun j=>j == m)) rfl rfl rfl) rfl ⟨by rw [HR.out];rfl,by (first | exact Ext.refl _ | (unfold Ext;repeat (first | exact Below.refl _ _ | assumption | refine BeA ?_ | refine BeC ?_ | refine Below.drew ?_)))⟩
end Go.Proofs.YtigmdlchbjanoaaGreatDoor
namespace Go.Proofs.YtigmdlchbjanoaaGreatDoor
open Go Go.RowKit
attribute [local irreducible] wd
set_option maxHeartbeats 8000000 in
set_option maxRecDepth 20000 in
theorem clEscapeW (E:Nat→Addr) (c:UInt8) (r:List UInt8) (hk:c.toNat=119) (hlen:(92 :: c :: r:List UInt8).length≤10000) (w:World) (hE:ErrC [2,4] w E) :
  Calls Tryz.prog 44 #[.string ⟨(92 :: c :: r:List UInt8).toArray⟩] w fun e w'=>e=.returned (sgV E (escS (92 :: c :: r)))∧Ext w w':=by
 have hz0:7<w.heap.size:=block_lt_of_cell (hE.cell (i:=2) (by simp) rfl)
 have hz1:4<w.heap.size:=block_lt_of_cell (hE.cell (i:=4) (by simp) rfl)
 have hS:=SB.zero (w:=w) rfl
 have hx0:=Ext.new1 w (.cells #[.int .u64 0,.int .u64 0,.int .u64 0,.int .u64 0] 25)
 have n0:¬ 7=w.heap.size:=by omega
 have n1:¬ 4=w.heap.size:=by omega
 have n2:¬ w.heap.size=7:=by omega
 have n3:¬ w.heap.size=4:=by omega
 have HE:=Lib.hid hE
 have HS:=Lib.hid hS
 have HL:=Lib.hid hlen
 have hc6:=UInt8.toNat_lt c
 clear hE hS hz0 hz1 hlen
 have HR:=Lib.hid (show escS (92 :: c :: r)=.cls wordP 2 by unfold escS escC;simp [hk])
 go_enter Tryz.func44,Tryz.ntmps44
 go_wp2_with (go_at_call 66;refine (setRange 48 57 (by omega) (by omega) _).mono ?_;rintro e w1 ⟨rfl,hx1⟩;unfold sp)
 have hS2:=Lib.hid ((HS.out.keep hx1).alloc (.cells #[.int .u64 (wd (fun j=>decide (48≤j) && decide (j≤57)) 0:Nat),.int .u64 (wd (fun j=>decide (48≤j) && decide (j≤57)) 1:Nat),.int .u64 (wd (fun j=>decide (48≤j) && decide (j≤57)) 2:Nat),.int .u64 (wd (fun j=>decide (48≤j) && decide (j≤57)) 3:Nat)] 25))
 have hF2:=Lib.hid (SB.new (w:=w1) rfl (fun j=>decide (48≤j) && decide (j≤57)))
 have hE2:=Lib.hid ((HE.out.keep (hx0.trans hx1)).keep (Ext.new1 w1 (.cells #[.int .u64 (wd (fun j=>decide (48≤j) && decide (j≤57)) 0:Nat),.int .u64 (wd (fun j=>decide (48≤j) && decide (j≤57)) 1:Nat),.int .u64 (wd (fun j=>decide (48≤j) && decide (j≤57)) 2:Nat),.int .u64 (wd (fun j=>decide (48≤j) && decide (j≤57)) 3:Nat)] 25)))
 have hx2:=(hx0.trans hx1).trans (Ext.new1 w1 (.cells #[.int .u64 (wd (fun j=>decide (48≤j) && decide (j≤57)) 0:Nat),.int .u64 (wd (fun j=>decide (48≤j) && decide (j≤57)) 1:Nat),.int .u64 (wd (fun j=>decide (48≤j) && decide (j≤57)) 2:Nat),.int .u64 (wd (fun j=>decide (48≤j) && decide (j≤57)) 3:Nat)] 25))
 generalize w1.heap.size=gf at *
 generalize w1.alloc (.cells #[.int .u64 (wd (fun j=>decide (48≤j) && decide (j≤57)) 0:Nat),.int .u64 (wd (fun j=>decide (48≤j) && decide (j≤57)) 1:Nat),.int .u64 (wd (fun j=>decide (48≤j) && decide (j≤57)) 2:Nat),.int .u64 (wd (fun j=>decide (48≤j) && decide (j≤57)) 3:Nat)] 25)=w2 at *
 clear hx1
 obtain ⟨z0,z1,z2,z3⟩:=hF2.out.cells
 go_region_with (first
  | (have:=hx7;go_at_call 65;refine (setOr _ _ _).mono ?_;rintro e w8 ⟨rfl,hx8⟩;have hxx:=((((((hx2.trans hx3).trans hx4).trans hx5).trans hx6).trans hx7).trans hx8);have hS9:=hS2.out.keep (((((hx3.trans hx4).trans hx5).trans hx6).trans hx7).trans hx8);obtain ⟨y0,y1,y2,y3⟩:=hS9.cells;have f0:=hS9.frozen 0;have f1:=hS9.frozen 1;have f2:=hS9.frozen 2;have f3:=hS9.frozen 3;have HS9:=Lib.hid hS9;clear hS9;unfold sp)
  | (have:=hx6;go_at_call 20;refine (setOne 95 (by omega) _).mono ?_;rintro e w7 ⟨rfl,hx7⟩)
  | (have:=hx5;go_at_call 65;refine (setOr _ _ _).mono ?_;rintro e w6 ⟨rfl,hx6⟩)
  | (have:=hx4;go_at_call 66;refine (setRange 65 90 (by omega) (by omega) _).mono ?_;rintro e w5 ⟨rfl,hx5⟩)
  | (have:=hx3;go_at_call 65;refine (setOr _ _ _).mono ?_;rintro e w4 ⟨rfl,hx4⟩)
  | (go_at_call 66;refine (setRange 97 122 (by omega) (by omega) _).mono ?_;rintro e w3 ⟨rfl,hx3'⟩;have hx3:Ext w2 w3:=Ext.trans (show Ext w2 w2.drew from (Below.refl _ _).drew) hx3';obtain ⟨z0,z1,z2,z3⟩:=(hF2.out.keep hx3).cells))
 all_goals go_wp2
 all_goals exact bodyPost_ret (v:=.tuple #[sp wordP,.bool false,.int .i64 2,.nilIface]) (results_sp4 rfl (by simp [Act.put]) (HS9.out.set4 wordP) (by simp [Act.put]) (by simp [Act.put]) (by simp [Act.put])) (by simp [Act.put]) ⟨by rw [HR.out];rfl,by (first | exact Ext.refl _ | (unfold Ext;repeat (first | exact Below.refl _ _ | assumption | refine BeA ?_ | refine BeC ?_ | refine Below.drew ?_)))⟩
end Go.Proofs.YtigmdlchbjanoaaGreatDoor
namespace Go.Proofs.YtigmdlchbjanoaaGreatDoor
open Go Go.RowKit
attribute [local irreducible] wd
set_option maxHeartbeats 8000000 in
set_option maxRecDepth 20000 in
theorem clEscape2 (E:Nat→Addr) (c:UInt8) (r:List UInt8) (hlen:(92 :: c :: r:List UInt8).length≤10000) (w:World) (hE:ErrC [2,4] w E) :
  Calls Tryz.prog 44 #[.string ⟨(92 :: c :: r:List UInt8).toArray⟩] w fun e w'=>e=.returned (sgV E (escS (92 :: c :: r)))∧Ext w w':=by
 have hz0:7<w.heap.size:=block_lt_of_cell (hE.cell (i:=2) (by simp) rfl)
 have hz1:4<w.heap.size:=block_lt_of_cell (hE.cell (i:=4) (by simp) rfl)
 have hS:=SB.zero (w:=w) rfl
 have hx0:=Ext.new1 w (.cells #[.int .u64 0,.int .u64 0,.int .u64 0,.int .u64 0] 25)
 have n0:¬ 7=w.heap.size:=by omega
 have n1:¬ 4=w.heap.size:=by omega
 have n2:¬ w.heap.size=7:=by omega
 have n3:¬ w.heap.size=4:=by omega
 have HE:=Lib.hid hE
 have HS:=Lib.hid hS
 have HL:=Lib.hid hlen
 have hc6:=UInt8.toNat_lt c
 clear hE hS hz0 hz1 hlen
 by_cases hk:c.toNat=110
 focus
  have HR:=Lib.hid (show escS (92 :: c :: r)=.byte 10 2 by unfold escS escC;simp [hk])
  go_enter Tryz.func44,Tryz.ntmps44
  go_wp2_with (go_at_call 66;refine (setRange 48 57 (by omega) (by omega) _).mono ?_;rintro e w1 ⟨rfl,hx1⟩;unfold sp)
  have hS2:=Lib.hid ((HS.out.keep hx1).alloc (.cells #[.int .u64 (wd (fun j=>decide (48≤j) && decide (j≤57)) 0:Nat),.int .u64 (wd (fun j=>decide (48≤j) && decide (j≤57)) 1:Nat),.int .u64 (wd (fun j=>decide (48≤j) && decide (j≤57)) 2:Nat),.int .u64 (wd (fun j=>decide (48≤j) && decide (j≤57)) 3:Nat)] 25))
  have hF2:=Lib.hid (SB.new (w:=w1) rfl (fun j=>decide (48≤j) && decide (j≤57)))
  have hE2:=Lib.hid ((HE.out.keep (hx0.trans hx1)).keep (Ext.new1 w1 (.cells #[.int .u64 (wd (fun j=>decide (48≤j) && decide (j≤57)) 0:Nat),.int .u64 (wd (fun j=>decide (48≤j) && decide (j≤57)) 1:Nat),.int .u64 (wd (fun j=>decide (48≤j) && decide (j≤57)) 2:Nat),.int .u64 (wd (fun j=>decide (48≤j) && decide (j≤57)) 3:Nat)] 25)))
  have hx2:=(hx0.trans hx1).trans (Ext.new1 w1 (.cells #[.int .u64 (wd (fun j=>decide (48≤j) && decide (j≤57)) 0:Nat),.int .u64 (wd (fun j=>decide (48≤j) && decide (j≤57)) 1:Nat),.int .u64 (wd (fun j=>decide (48≤j) && decide (j≤57)) 2:Nat),.int .u64 (wd (fun j=>decide (48≤j) && decide (j≤57)) 3:Nat)] 25))
  generalize w1.heap.size=gf at *
  generalize w1.alloc (.cells #[.int .u64 (wd (fun j=>decide (48≤j) && decide (j≤57)) 0:Nat),.int .u64 (wd (fun j=>decide (48≤j) && decide (j≤57)) 1:Nat),.int .u64 (wd (fun j=>decide (48≤j) && decide (j≤57)) 2:Nat),.int .u64 (wd (fun j=>decide (48≤j) && decide (j≤57)) 3:Nat)] 25)=w2 at *
  clear hx1
  go_at_call 20
  refine (setOne 10 (by omega) _).mono ?_
  rintro e w3 ⟨rfl,hx3⟩
  have hS3:=hS2.out.keep hx3
  obtain ⟨y0,y1,y2,y3⟩:=hS3.cells
  have f0:=hS3.frozen 0
  have f1:=hS3.frozen 1
  have f2:=hS3.frozen 2
  have f3:=hS3.frozen 3
  have HS3:=Lib.hid hS3
  clear hS3
  have hx9:=hx2.trans hx3
  unfold sp
  go_wp2
  exact bodyPost_ret (v:=.tuple #[sp (fun j=>j == 10),.bool true,.int .i64 2,.nilIface]) (results_sp4 rfl rfl (HS3.out.set4 (fun j=>j == 10)) rfl rfl rfl) rfl ⟨by rw [HR.out];rfl,by (first | exact Ext.refl _ | (unfold Ext;repeat (first | exact Below.refl _ _ | assumption | refine BeA ?_ | refine BeC ?_ | refine Below.drew ?_)))⟩
 have d110:((c.toNat:Int) == 110)=false:=by simp;omega
 by_cases hk:c.toNat=114
 focus
  have HR:=Lib.hid (show escS (92 :: c :: r)=.byte 13 2 by unfold escS escC;simp [hk])
  go_enter Tryz.func44,Tryz.ntmps44
  go_wp2_with (go_at_call 66;refine (setRange 48 57 (by omega) (by omega) _).mono ?_;rintro e w1 ⟨rfl,hx1⟩;unfold sp)
  have hS2:=Lib.hid ((HS.out.keep hx1).alloc (.cells #[.int .u64 (wd (fun j=>decide (48≤j) && decide (j≤57)) 0:Nat),.int .u64 (wd (fun j=>decide (48≤j) && decide (j≤57)) 1:Nat),.int .u64 (wd (fun j=>decide (48≤j) && decide (j≤57)) 2:Nat),.int .u64 (wd (fun j=>decide (48≤j) && decide (j≤57)) 3:Nat)] 25))
  have hF2:=Lib.hid (SB.new (w:=w1) rfl (fun j=>decide (48≤j) && decide (j≤57)))
  have hE2:=Lib.hid ((HE.out.keep (hx0.trans hx1)).keep (Ext.new1 w1 (.cells #[.int .u64 (wd (fun j=>decide (48≤j) && decide (j≤57)) 0:Nat),.int .u64 (wd (fun j=>decide (48≤j) && decide (j≤57)) 1:Nat),.int .u64 (wd (fun j=>decide (48≤j) && decide (j≤57)) 2:Nat),.int .u64 (wd (fun j=>decide (48≤j) && decide (j≤57)) 3:Nat)] 25)))
  have hx2:=(hx0.trans hx1).trans (Ext.new1 w1 (.cells #[.int .u64 (wd (fun j=>decide (48≤j) && decide (j≤57)) 0:Nat),.int .u64 (wd (fun j=>decide (48≤j) && decide (j≤57)) 1:Nat),.int .u64 (wd (fun j=>decide (48≤j) && decide (j≤57)) 2:Nat),.int .u64 (wd (fun j=>decide (48≤j) && decide (j≤57)) 3:Nat)] 25))
  generalize w1.heap.size=gf at *
  generalize w1.alloc (.cells #[.int .u64 (wd (fun j=>decide (48≤j) && decide (j≤57)) 0:Nat),.int .u64 (wd (fun j=>decide (48≤j) && decide (j≤57)) 1:Nat),.int .u64 (wd (fun j=>decide (48≤j) && decide (j≤57)) 2:Nat),.int .u64 (wd (fun j=>decide (48≤j) && decide (j≤57)) 3:Nat)] 25)=w2 at *
  clear hx1
  go_at_call 20
  refine (setOne 13 (by omega) _).mono ?_
  rintro e w3 ⟨rfl,hx3⟩
  have hS3:=hS2.out.keep hx3
  obtain ⟨y0,y1,y2,y3⟩:=hS3.cells
  have f0:=hS3.frozen 0
  have f1:=hS3.frozen 1
  have f2:=hS3.frozen 2
  have f3:=hS3.frozen 3
  have HS3:=Lib.hid hS3
  clear hS3
  have hx9:=hx2.trans hx3
  unfold sp
  go_wp2
  exact bodyPost_ret (v:=.tuple #[sp (fun j=>j == 13),.bool true,.int .i64 2,.nilIface]) (results_sp4 rfl rfl (HS3.out.set4 (fun j=>j == 13)) rfl rfl rfl) rfl ⟨by rw [HR.out];rfl,by (first | exact Ext.refl _ | (unfold Ext;repeat (first | exact Below.refl _ _ | assumption | refine BeA ?_ | refine BeC ?_ | refine Below.drew ?_)))⟩
 have d114:((c.toNat:Int) == 114)=false:=by simp;omega
 by_cases hk:c.toNat=116
 focus
  have HR:=Lib.hid (show escS (92 :: c :: r)=.byte 9 2 by unfold escS escC;simp [hk])
  go_enter Tryz.func44,Tryz.ntmps44
  go_wp2_with (go_at_call 66;refine (setRange 48 57 (by omega) (by omega) _).mono ?_;rintro e w1 ⟨rfl,hx1⟩;unfold sp)
  have hS2:=Lib.hid ((HS.out.keep hx1).alloc (.cells #[.int .u64 (wd (fun j=>decide (48≤j) && decide (j≤57)) 0:Nat),.int .u64 (wd (fun j=>decide (48≤j) && decide (j≤57)) 1:Nat),.int .u64 (wd (fun j=>decide (48≤j) && decide (j≤57)) 2:Nat),.int .u64 (wd (fun j=>decide (48≤j) && decide (j≤57)) 3:Nat)] 25))
  have hF2:=Lib.hid (SB.new (w:=w1) rfl (fun j=>decide (48≤j) && decide (j≤57)))
  have hE2:=Lib.hid ((HE.out.keep (hx0.trans hx1)).keep (Ext.new1 w1 (.cells #[.int .u64 (wd (fun j=>decide (48≤j) && decide (j≤57)) 0:Nat),.int .u64 (wd (fun j=>decide (48≤j) && decide (j≤57)) 1:Nat),.int .u64 (wd (fun j=>decide (48≤j) && decide (j≤57)) 2:Nat),.int .u64 (wd (fun j=>decide (48≤j) && decide (j≤57)) 3:Nat)] 25)))
  have hx2:=(hx0.trans hx1).trans (Ext.new1 w1 (.cells #[.int .u64 (wd (fun j=>decide (48≤j) && decide (j≤57)) 0:Nat),.int .u64 (wd (fun j=>decide (48≤j) && decide (j≤57)) 1:Nat),.int .u64 (wd (fun j=>decide (48≤j) && decide (j≤57)) 2:Nat),.int .u64 (wd (fun j=>decide (48≤j) && decide (j≤57)) 3:Nat)] 25))
  generalize w1.heap.size=gf at *
  generalize w1.alloc (.cells #[.int .u64 (wd (fun j=>decide (48≤j) && decide (j≤57)) 0:Nat),.int .u64 (wd (fun j=>decide (48≤j) && decide (j≤57)) 1:Nat),.int .u64 (wd (fun j=>decide (48≤j) && decide (j≤57)) 2:Nat),.int .u64 (wd (fun j=>decide (48≤j) && decide (j≤57)) 3:Nat)] 25)=w2 at *
  clear hx1
  go_at_call 20
  refine (setOne 9 (by omega) _).mono ?_
  rintro e w3 ⟨rfl,hx3⟩
  have hS3:=hS2.out.keep hx3
  obtain ⟨y0,y1,y2,y3⟩:=hS3.cells
  have f0:=hS3.frozen 0
  have f1:=hS3.frozen 1
  have f2:=hS3.frozen 2
  have f3:=hS3.frozen 3
  have HS3:=Lib.hid hS3
  clear hS3
  have hx9:=hx2.trans hx3
  unfold sp
  go_wp2
  exact bodyPost_ret (v:=.tuple #[sp (fun j=>j == 9),.bool true,.int .i64 2,.nilIface]) (results_sp4 rfl rfl (HS3.out.set4 (fun j=>j == 9)) rfl rfl rfl) rfl ⟨by rw [HR.out];rfl,by (first | exact Ext.refl _ | (unfold Ext;repeat (first | exact Below.refl _ _ | assumption | refine BeA ?_ | refine BeC ?_ | refine Below.drew ?_)))⟩
 have d116:((c.toNat:Int) == 116)=false:=by simp;omega
 by_cases hk:c.toNat=120
 focus
  have HR:=Lib.hid (show escS (92 :: c :: r)=codedS (92 :: c :: r) by unfold escS escC;simp [hk])
  go_enter Tryz.func44,Tryz.ntmps44
  go_wp2_with (go_at_call 66;refine (setRange 48 57 (by omega) (by omega) _).mono ?_;rintro e w1 ⟨rfl,hx1⟩;unfold sp)
  have hS2:=Lib.hid ((HS.out.keep hx1).alloc (.cells #[.int .u64 (wd (fun j=>decide (48≤j) && decide (j≤57)) 0:Nat),.int .u64 (wd (fun j=>decide (48≤j) && decide (j≤57)) 1:Nat),.int .u64 (wd (fun j=>decide (48≤j) && decide (j≤57)) 2:Nat),.int .u64 (wd (fun j=>decide (48≤j) && decide (j≤57)) 3:Nat)] 25))
  have hF2:=Lib.hid (SB.new (w:=w1) rfl (fun j=>decide (48≤j) && decide (j≤57)))
  have hE2:=Lib.hid ((HE.out.keep (hx0.trans hx1)).keep (Ext.new1 w1 (.cells #[.int .u64 (wd (fun j=>decide (48≤j) && decide (j≤57)) 0:Nat),.int .u64 (wd (fun j=>decide (48≤j) && decide (j≤57)) 1:Nat),.int .u64 (wd (fun j=>decide (48≤j) && decide (j≤57)) 2:Nat),.int .u64 (wd (fun j=>decide (48≤j) && decide (j≤57)) 3:Nat)] 25)))
  have hx2:=(hx0.trans hx1).trans (Ext.new1 w1 (.cells #[.int .u64 (wd (fun j=>decide (48≤j) && decide (j≤57)) 0:Nat),.int .u64 (wd (fun j=>decide (48≤j) && decide (j≤57)) 1:Nat),.int .u64 (wd (fun j=>decide (48≤j) && decide (j≤57)) 2:Nat),.int .u64 (wd (fun j=>decide (48≤j) && decide (j≤57)) 3:Nat)] 25))
  generalize w1.heap.size=gf at *
  generalize w1.alloc (.cells #[.int .u64 (wd (fun j=>decide (48≤j) && decide (j≤57)) 0:Nat),.int .u64 (wd (fun j=>decide (48≤j) && decide (j≤57)) 1:Nat),.int .u64 (wd (fun j=>decide (48≤j) && decide (j≤57)) 2:Nat),.int .u64 (wd (fun j=>decide (48≤j) && decide (j≤57)) 3:Nat)] 25)=w2 at *
  clear hx1
  go_at_call 67
  refine (clCoded E (92 :: c :: r) HL.out _ hE2.out).mono ?_
  rintro e w3 ⟨rfl,hx3⟩
  have hS3:=hS2.out.keep hx3
  obtain ⟨y0,y1,y2,y3⟩:=hS3.cells
  have f0:=hS3.frozen 0
  have f1:=hS3.frozen 1
  have f2:=hS3.frozen 2
  have f3:=hS3.frozen 3
  have HS3:=Lib.hid hS3
  clear hS3
  have hx9:=hx2.trans hx3
  unfold sgV sp
  go_wp2
  exact bodyPost_ret (v:=sgV E (codedS (92 :: c :: r))) (results_sp4 rfl rfl (HS3.out.set4 (codedS (92 :: c :: r)).set) rfl rfl rfl) rfl ⟨by rw [HR.out],by (first | exact Ext.refl _ | (unfold Ext;repeat (first | exact Below.refl _ _ | assumption | refine BeA ?_ | refine BeC ?_ | refine Below.drew ?_)))⟩
 have d120:((c.toNat:Int) == 120)=false:=by simp;omega
 by_cases hk:c.toNat=100
 focus
  have HR:=Lib.hid (show escS (92 :: c :: r)=.cls isFig 2 by unfold escS escC;simp [hk])
  go_enter Tryz.func44,Tryz.ntmps44
  go_wp2_with (go_at_call 66;refine (setRange 48 57 (by omega) (by omega) _).mono ?_;rintro e w1 ⟨rfl,hx1⟩;have hS3:=(HS.out.keep hx1).alloc (.cells #[.int .u64 (wd (fun j=>decide (48≤j) && decide (j≤57)) 0:Nat),.int .u64 (wd (fun j=>decide (48≤j) && decide (j≤57)) 1:Nat),.int .u64 (wd (fun j=>decide (48≤j) && decide (j≤57)) 2:Nat),.int .u64 (wd (fun j=>decide (48≤j) && decide (j≤57)) 3:Nat)] 25);have hx2:=(hx0.trans hx1).trans (Ext.new1 w1 (.cells #[.int .u64 (wd (fun j=>decide (48≤j) && decide (j≤57)) 0:Nat),.int .u64 (wd (fun j=>decide (48≤j) && decide (j≤57)) 1:Nat),.int .u64 (wd (fun j=>decide (48≤j) && decide (j≤57)) 2:Nat),.int .u64 (wd (fun j=>decide (48≤j) && decide (j≤57)) 3:Nat)] 25));obtain ⟨y0,y1,y2,y3⟩:=hS3.cells;have f0:=hS3.frozen 0;have f1:=hS3.frozen 1;have f2:=hS3.frozen 2;have f3:=hS3.frozen 3;have HS3:=Lib.hid hS3;clear hS3;unfold sp)
  exact bodyPost_ret (v:=.tuple #[sp isFig,.bool false,.int .i64 2,.nilIface]) (results_sp4 rfl rfl (HS3.out.set4 isFig) rfl rfl rfl) rfl ⟨by rw [HR.out];rfl,by (first | exact Ext.refl _ | (unfold Ext;repeat (first | exact Below.refl _ _ | assumption | refine BeA ?_ | refine BeC ?_ | refine Below.drew ?_)))⟩
 have d100:((c.toNat:Int) == 100)=false:=by simp;omega
 by_cases hk:c.toNat=119
 ·exact clEscapeW E c r hk HL.out w HE.out
 have d119:((c.toNat:Int) == 119)=false:=by simp;omega
 by_cases hk:c.toNat=115
 focus
  have HR:=Lib.hid (show escS (92 :: c :: r)=.cls spaceP 2 by unfold escS escC;simp [hk])
  go_enter Tryz.func44,Tryz.ntmps44
  go_wp2_with (go_at_call 66;refine (setRange 48 57 (by omega) (by omega) _).mono ?_;rintro e w1 ⟨rfl,hx1⟩;unfold sp)
  have hS2:=Lib.hid ((HS.out.keep hx1).alloc (.cells #[.int .u64 (wd (fun j=>decide (48≤j) && decide (j≤57)) 0:Nat),.int .u64 (wd (fun j=>decide (48≤j) && decide (j≤57)) 1:Nat),.int .u64 (wd (fun j=>decide (48≤j) && decide (j≤57)) 2:Nat),.int .u64 (wd (fun j=>decide (48≤j) && decide (j≤57)) 3:Nat)] 25))
  have hF2:=Lib.hid (SB.new (w:=w1) rfl (fun j=>decide (48≤j) && decide (j≤57)))
  have hE2:=Lib.hid ((HE.out.keep (hx0.trans hx1)).keep (Ext.new1 w1 (.cells #[.int .u64 (wd (fun j=>decide (48≤j) && decide (j≤57)) 0:Nat),.int .u64 (wd (fun j=>decide (48≤j) && decide (j≤57)) 1:Nat),.int .u64 (wd (fun j=>decide (48≤j) && decide (j≤57)) 2:Nat),.int .u64 (wd (fun j=>decide (48≤j) && decide (j≤57)) 3:Nat)] 25)))
  have hx2:=(hx0.trans hx1).trans (Ext.new1 w1 (.cells #[.int .u64 (wd (fun j=>decide (48≤j) && decide (j≤57)) 0:Nat),.int .u64 (wd (fun j=>decide (48≤j) && decide (j≤57)) 1:Nat),.int .u64 (wd (fun j=>decide (48≤j) && decide (j≤57)) 2:Nat),.int .u64 (wd (fun j=>decide (48≤j) && decide (j≤57)) 3:Nat)] 25))
  generalize w1.heap.size=gf at *
  generalize w1.alloc (.cells #[.int .u64 (wd (fun j=>decide (48≤j) && decide (j≤57)) 0:Nat),.int .u64 (wd (fun j=>decide (48≤j) && decide (j≤57)) 1:Nat),.int .u64 (wd (fun j=>decide (48≤j) && decide (j≤57)) 2:Nat),.int .u64 (wd (fun j=>decide (48≤j) && decide (j≤57)) 3:Nat)] 25)=w2 at *
  clear hx1
  go_wp2_with (first
   | (have:=hx8;go_at_call 65;refine (setOr _ _ _).mono ?_;rintro e w9 ⟨rfl,hx9⟩;have hxx:=(((((((hx2.trans hx3).trans hx4).trans hx5).trans hx6).trans hx7).trans hx8).trans hx9);have hS9:=hS2.out.keep ((((((hx3.trans hx4).trans hx5).trans hx6).trans hx7).trans hx8).trans hx9);obtain ⟨y0,y1,y2,y3⟩:=hS9.cells;have f0:=hS9.frozen 0;have f1:=hS9.frozen 1;have f2:=hS9.frozen 2;have f3:=hS9.frozen 3;have HS9:=Lib.hid hS9;clear hS9;unfold sp)
   | (have:=hx7;go_at_call 20;refine (setOne 32 (by omega) _).mono ?_;rintro e w8 ⟨rfl,hx8⟩)
   | (have:=hx6;go_at_call 65;refine (setOr _ _ _).mono ?_;rintro e w7 ⟨rfl,hx7⟩)
   | (have:=hx5;go_at_call 20;refine (setOne 13 (by omega) _).mono ?_;rintro e w6 ⟨rfl,hx6⟩)
   | (have:=hx4;go_at_call 65;refine (setOr _ _ _).mono ?_;rintro e w5 ⟨rfl,hx5⟩)
   | (have:=hx3;go_at_call 20;refine (setOne 10 (by omega) _).mono ?_;rintro e w4 ⟨rfl,hx4⟩)
   | (go_at_call 20;refine (setOne 9 (by omega) _).mono ?_;rintro e w3 ⟨rfl,hx3⟩))
  exact bodyPost_ret (v:=.tuple #[sp spaceP,.bool false,.int .i64 2,.nilIface]) (results_sp4 rfl rfl (HS9.out.set4 spaceP) rfl rfl rfl) rfl ⟨by rw [HR.out];rfl,by (first | exact Ext.refl _ | (unfold Ext;repeat (first | exact Below.refl _ _ | assumption | refine BeA ?_ | refine BeC ?_ | refine Below.drew ?_)))⟩
 have d115:((c.toNat:Int) == 115)=false:=by simp;omega
 have hks:escS (92 :: c :: r)=if isLet c.toNat || isFig c.toNat then .bad 5 else .byte c.toNat 2:=by unfold escS escC;simp only [*,if_false];simp
 have hc7:c.toNat<256:=by omega
 have HKS:=Lib.hid hks
 clear hks
 clear hk
 generalize hcn:c.toNat=k at *
 cases hl:isLet k || isFig k
 focus
  have HR:=Lib.hid (show escS (92 :: c :: r)=.byte k 2 by rw [HKS.out,hl];rfl)
  have h1:isLet k=false:=by cases h:isLet k;rfl;simp [h] at hl
  have h2:isFig k=false:=by cases h:isFig k;rfl;simp [h] at hl
  have H1:=Lib.hid h1
  have H2:=Lib.hid h2
  clear hl h1 h2
  go_enter Tryz.func44,Tryz.ntmps44
  go_wp2_with (go_at_call 66;refine (setRange 48 57 (by omega) (by omega) _).mono ?_;rintro e w1 ⟨rfl,hx1⟩;unfold sp)
  have hS2:=(HS.out.keep hx1).alloc (.cells #[.int .u64 (wd (fun j=>decide (48≤j) && decide (j≤57)) 0:Nat),.int .u64 (wd (fun j=>decide (48≤j) && decide (j≤57)) 1:Nat),.int .u64 (wd (fun j=>decide (48≤j) && decide (j≤57)) 2:Nat),.int .u64 (wd (fun j=>decide (48≤j) && decide (j≤57)) 3:Nat)] 25)
  have hE2:=(HE.out.keep (hx0.trans hx1)).keep (Ext.new1 w1 (.cells #[.int .u64 (wd (fun j=>decide (48≤j) && decide (j≤57)) 0:Nat),.int .u64 (wd (fun j=>decide (48≤j) && decide (j≤57)) 1:Nat),.int .u64 (wd (fun j=>decide (48≤j) && decide (j≤57)) 2:Nat),.int .u64 (wd (fun j=>decide (48≤j) && decide (j≤57)) 3:Nat)] 25))
  have hx2:=(hx0.trans hx1).trans (Ext.new1 w1 (.cells #[.int .u64 (wd (fun j=>decide (48≤j) && decide (j≤57)) 0:Nat),.int .u64 (wd (fun j=>decide (48≤j) && decide (j≤57)) 1:Nat),.int .u64 (wd (fun j=>decide (48≤j) && decide (j≤57)) 2:Nat),.int .u64 (wd (fun j=>decide (48≤j) && decide (j≤57)) 3:Nat)] 25))
  generalize w1.alloc (.cells #[.int .u64 (wd (fun j=>decide (48≤j) && decide (j≤57)) 0:Nat),.int .u64 (wd (fun j=>decide (48≤j) && decide (j≤57)) 1:Nat),.int .u64 (wd (fun j=>decide (48≤j) && decide (j≤57)) 2:Nat),.int .u64 (wd (fun j=>decide (48≤j) && decide (j≤57)) 3:Nat)] 25)=w2 at *
  clear hx1
  have HS2:=Lib.hid hS2
  clear hS2
  go_wp2_with (first
   | (go_at_call 20;refine (setOne k hc7 _).mono ?_;rintro e w3 ⟨rfl,hx3⟩;have hS3:=HS2.out.keep hx3;obtain ⟨y0,y1,y2,y3⟩:=hS3.cells;have f0:=hS3.frozen 0;have f1:=hS3.frozen 1;have f2:=hS3.frozen 2;have f3:=hS3.frozen 3;have HS3:=Lib.hid hS3;clear hS3;have hxx:=hx2.trans hx3;unfold sp)
   | (go_at_call 69;refine (clFigure k hc7 _).mono ?_;rintro e w3 ⟨rfl,rfl⟩;rw [H2.out])
   | (go_at_call 68;refine (clLetter k hc7 _).mono ?_;rintro e w3 ⟨rfl,rfl⟩;rw [H1.out]))
  exact bodyPost_ret (v:=.tuple #[sp (fun j=>j == k),.bool true,.int .i64 2,.nilIface]) (results_sp4 rfl rfl (HS3.out.set4 (fun j=>j == k)) rfl rfl rfl) rfl ⟨by rw [HR.out];rfl,by (first | exact Ext.refl _ | (unfold Ext;repeat (first | exact Below.refl _ _ | assumption | refine BeA ?_ | refine BeC ?_ | refine Below.drew ?_)))⟩
 focus
  have HR:=Lib.hid (show escS (92 :: c :: r)=.bad 5 by rw [HKS.out,hl];rfl)
  cases h1:isLet k
  focus
   have h2:isFig k=true:=by simpa [h1] using hl
   have H1:=Lib.hid h1
   have H2:=Lib.hid h2
   clear hl h1 h2
   go_enter Tryz.func44,Tryz.ntmps44
   go_wp2_with (go_at_call 66;refine (setRange 48 57 (by omega) (by omega) _).mono ?_;rintro e w1 ⟨rfl,hx1⟩;unfold sp)
   have hS2:=(HS.out.keep hx1).alloc (.cells #[.int .u64 (wd (fun j=>decide (48≤j) && decide (j≤57)) 0:Nat),.int .u64 (wd (fun j=>decide (48≤j) && decide (j≤57)) 1:Nat),.int .u64 (wd (fun j=>decide (48≤j) && decide (j≤57)) 2:Nat),.int .u64 (wd (fun j=>decide (48≤j) && decide (j≤57)) 3:Nat)] 25)
   have hE2:=(HE.out.keep (hx0.trans hx1)).keep (Ext.new1 w1 (.cells #[.int .u64 (wd (fun j=>decide (48≤j) && decide (j≤57)) 0:Nat),.int .u64 (wd (fun j=>decide (48≤j) && decide (j≤57)) 1:Nat),.int .u64 (wd (fun j=>decide (48≤j) && decide (j≤57)) 2:Nat),.int .u64 (wd (fun j=>decide (48≤j) && decide (j≤57)) 3:Nat)] 25))
   have hx2:=(hx0.trans hx1).trans (Ext.new1 w1 (.cells #[.int .u64 (wd (fun j=>decide (48≤j) && decide (j≤57)) 0:Nat),.int .u64 (wd (fun j=>decide (48≤j) && decide (j≤57)) 1:Nat),.int .u64 (wd (fun j=>decide (48≤j) && decide (j≤57)) 2:Nat),.int .u64 (wd (fun j=>decide (48≤j) && decide (j≤57)) 3:Nat)] 25))
   generalize w1.alloc (.cells #[.int .u64 (wd (fun j=>decide (48≤j) && decide (j≤57)) 0:Nat),.int .u64 (wd (fun j=>decide (48≤j) && decide (j≤57)) 1:Nat),.int .u64 (wd (fun j=>decide (48≤j) && decide (j≤57)) 2:Nat),.int .u64 (wd (fun j=>decide (48≤j) && decide (j≤57)) 3:Nat)] 25)=w2 at *
   clear hx1
   have c1:=hE2.cell (i:=4) (g:=4) (by simp) rfl
   obtain ⟨y0,y1,y2,y3⟩:=hS2.cells
   have f0:=hS2.frozen 0
   have f1:=hS2.frozen 1
   have f2:=hS2.frozen 2
   have f3:=hS2.frozen 3
   have HS2:=Lib.hid hS2
   clear hS2 hE2
   go_wp2_with (first | (go_at_call 69;refine (clFigure k hc7 _).mono ?_;rintro e w3 ⟨rfl,rfl⟩;rw [H2.out]) | (go_at_call 68;refine (clLetter k hc7 _).mono ?_;rintro e w3 ⟨rfl,rfl⟩;rw [H1.out]))
   go_region
   all_goals go_wp2
   all_goals exact bodyPost_ret (v:=.tuple #[sp (fun _=>false),.bool false,.int .i64 0,errV E 4]) (results_sp4 rfl rfl HS2.out.zset.drew rfl rfl rfl) rfl ⟨by rw [HR.out];rfl,by (first | exact Ext.refl _ | (unfold Ext;repeat (first | exact Below.refl _ _ | assumption | refine BeA ?_ | refine BeC ?_ | refine Below.drew ?_)))⟩
  focus
   have H1:=Lib.hid h1
   clear hl h1
   go_enter Tryz.func44,Tryz.ntmps44
   go_wp2_with (go_at_call 66;refine (setRange 48 57 (by omega) (by omega) _).mono ?_;rintro e w1 ⟨rfl,hx1⟩;unfold sp)
   have hS2:=(HS.out.keep hx1).alloc (.cells #[.int .u64 (wd (fun j=>decide (48≤j) && decide (j≤57)) 0:Nat),.int .u64 (wd (fun j=>decide (48≤j) && decide (j≤57)) 1:Nat),.int .u64 (wd (fun j=>decide (48≤j) && decide (j≤57)) 2:Nat),.int .u64 (wd (fun j=>decide (48≤j) && decide (j≤57)) 3:Nat)] 25)
   have hE2:=(HE.out.keep (hx0.trans hx1)).keep (Ext.new1 w1 (.cells #[.int .u64 (wd (fun j=>decide (48≤j) && decide (j≤57)) 0:Nat),.int .u64 (wd (fun j=>decide (48≤j) && decide (j≤57)) 1:Nat),.int .u64 (wd (fun j=>decide (48≤j) && decide (j≤57)) 2:Nat),.int .u64 (wd (fun j=>decide (48≤j) && decide (j≤57)) 3:Nat)] 25))
   have hx2:=(hx0.trans hx1).trans (Ext.new1 w1 (.cells #[.int .u64 (wd (fun j=>decide (48≤j) && decide (j≤57)) 0:Nat),.int .u64 (wd (fun j=>decide (48≤j) && decide (j≤57)) 1:Nat),.int .u64 (wd (fun j=>decide (48≤j) && decide (j≤57)) 2:Nat),.int .u64 (wd (fun j=>decide (48≤j) && decide (j≤57)) 3:Nat)] 25))
   generalize w1.alloc (.cells #[.int .u64 (wd (fun j=>decide (48≤j) && decide (j≤57)) 0:Nat),.int .u64 (wd (fun j=>decide (48≤j) && decide (j≤57)) 1:Nat),.int .u64 (wd (fun j=>decide (48≤j) && decide (j≤57)) 2:Nat),.int .u64 (wd (fun j=>decide (48≤j) && decide (j≤57)) 3:Nat)] 25)=w2 at *
   clear hx1
   have c1:=hE2.cell (i:=4) (g:=4) (by simp) rfl
   obtain ⟨y0,y1,y2,y3⟩:=hS2.cells
   have f0:=hS2.frozen 0
   have f1:=hS2.frozen 1
   have f2:=hS2.frozen 2
   have f3:=hS2.frozen 3
   have HS2:=Lib.hid hS2
   clear hS2 hE2
   go_wp2_with (go_at_call 68;refine (clLetter k hc7 _).mono ?_;rintro e w3 ⟨rfl,rfl⟩;rw [H1.out])
   go_region
   all_goals go_wp2
   all_goals exact bodyPost_ret (v:=.tuple #[sp (fun _=>false),.bool false,.int .i64 0,errV E 4]) (results_sp4 rfl rfl HS2.out.zset.drew rfl rfl rfl) rfl ⟨by rw [HR.out];rfl,by (first | exact Ext.refl _ | (unfold Ext;repeat (first | exact Below.refl _ _ | assumption | refine BeA ?_ | refine BeC ?_ | refine Below.drew ?_)))⟩
set_option maxHeartbeats 4000000 in
set_option maxRecDepth 20000 in
theorem clEscape (E:Nat→Addr) (l:List UInt8) (hlen:l.length≤10000) (w:World) (hE:ErrC [2,4] w E) :
  Calls Tryz.prog 44 #[.string ⟨l.toArray⟩] w fun e w'=>e=.returned (sgV E (escS l))∧Ext w w':=by
 have hz0:7<w.heap.size:=block_lt_of_cell (hE.cell (i:=2) (by simp) rfl)
 have hz1:4<w.heap.size:=block_lt_of_cell (hE.cell (i:=4) (by simp) rfl)
 have hS:=SB.zero (w:=w) rfl
 have hE1:=hE.keep (Ext.new1 w (.cells #[.int .u64 0,.int .u64 0,.int .u64 0,.int .u64 0] 25))
 have hx0:=Ext.new1 w (.cells #[.int .u64 0,.int .u64 0,.int .u64 0,.int .u64 0] 25)
 have c0:(w.alloc (.cells #[.int .u64 0,.int .u64 0,.int .u64 0,.int .u64 0] 25)).cell? ⟨7,0,none⟩=some (errV E 2):=hE1.cell (i:=2) (by simp) rfl
 have c1:(w.alloc (.cells #[.int .u64 0,.int .u64 0,.int .u64 0,.int .u64 0] 25)).cell? ⟨4,0,none⟩=some (errV E 4):=hE1.cell (i:=4) (by simp) rfl
 have n0:¬ 7=w.heap.size:=by omega
 have n1:¬ 4=w.heap.size:=by omega
 have n2:¬ w.heap.size=7:=by omega
 have n3:¬ w.heap.size=4:=by omega
 have HE:=Lib.hid hE
 have HS:=Lib.hid hS
 clear hE hE1 hS hz0 hz1
 match l,hlen with
 | [],_ =>
  have HR:=Lib.hid (show escS []=.bad 3 from rfl)
  go_enter Tryz.func44,Tryz.ntmps44
  go_wp2
  go_region
  all_goals go_wp2
  all_goals exact bodyPost_ret (v:=.tuple #[sp (fun _=>false),.bool false,.int .i64 0,errV E 2]) (results_sp4 rfl rfl HS.out.drew rfl rfl rfl) rfl ⟨by rw [HR.out];rfl,by (first | exact Ext.refl _ | (unfold Ext;repeat (first | exact Below.refl _ _ | assumption | refine BeA ?_ | refine BeC ?_ | refine Below.drew ?_)))⟩
 | a :: t,hlen =>
  by_cases ha:a.toNat=92
  ·obtain rfl:a=92:=UInt8.toNat_inj.1 ha
   clear ha
   match t,hlen with
   | [],_ =>
    have HR:=Lib.hid (show escS [92]=.bad 3 from rfl)
    go_enter Tryz.func44,Tryz.ntmps44
    go_wp2
    go_region
    all_goals go_wp2
    all_goals exact bodyPost_ret (v:=.tuple #[sp (fun _=>false),.bool false,.int .i64 0,errV E 2]) (results_sp4 rfl rfl HS.out.drew rfl rfl rfl) rfl ⟨by rw [HR.out];rfl,by (first | exact Ext.refl _ | (unfold Ext;repeat (first | exact Below.refl _ _ | assumption | refine BeA ?_ | refine BeC ?_ | refine Below.drew ?_)))⟩
   | c :: r,hlen=>exact clEscape2 E c r hlen w HE.out
  ·have HR:=Lib.hid (show escS (a :: t)=.bad 5 by unfold escS;simp [ha])
   have ha2:(a == 92)=false:=by
    have:a ≠ 92:=fun e=>ha (by rw [e];rfl)
    simpa using this
   have ha3:((a.toNat:Int) != 92)=true:=by simp;omega
   have ha4:¬ a=92:=fun e=>ha (by rw [e];rfl)
   clear ha
   go_enter Tryz.func44,Tryz.ntmps44
   go_wp2
   go_region
   all_goals go_wp2
   all_goals exact bodyPost_ret (v:=.tuple #[sp (fun _=>false),.bool false,.int .i64 0,errV E 4]) (results_sp4 rfl rfl HS.out.drew rfl rfl rfl) rfl ⟨by rw [HR.out];rfl,by (first | exact Ext.refl _ | (unfold Ext;repeat (first | exact Below.refl _ _ | assumption | refine BeA ?_ | refine BeC ?_ | refine Below.drew ?_)))⟩
end Go.Proofs.YtigmdlchbjanoaaGreatDoor
namespace Go.Proofs.YtigmdlchbjanoaaGreatDoor
open Go Go.RowKit
attribute [local irreducible] wd
theorem Sg.fits_size {s:Sg} {l:List UInt8} (h:s.fits l):s.size≤l.length:=by
 cases s with
 | bad k=>exact Nat.zero_le _
 | byte m n=>exact h.2.2
 | cls p n=>exact h.2
def RdAt (w:World) (r:Nat) (l:List UInt8) (k:Nat):Prop:=Blk w r 114 [.string ⟨l.toArray⟩,.int .i64 (k:Nat)]
theorem RdAt.keep {w w':World} {r:Nat} {l:List UInt8} {k:Nat} (h:RdAt w r l k) (hx:Ext w w'):RdAt w' r l k:=Blk.keep h hx
theorem RdAt.c0 {w:World} {r:Nat} {l:List UInt8} {k:Nat} (h:RdAt w r l k):w.cell? ⟨r,0,none⟩=some (.string ⟨l.toArray⟩):=Blk.cell h 0
theorem RdAt.c1 {w:World} {r:Nat} {l:List UInt8} {k:Nat} (h:RdAt w r l k):w.cell? ⟨r,1,none⟩=some (.int .i64 (k:Nat)):=Blk.cell h 1
theorem RdAt.lt {w:World} {r:Nat} {l:List UInt8} {k:Nat} (h:RdAt w r l k):r<w.heap.size:=Blk.lt h
theorem RdAt.set {w:World} {r:Nat} {l:List UInt8} {k:Nat} (h:RdAt w r l k) (k':Nat):RdAt (w.setCell ⟨r,1,none⟩ (.int .i64 (k':Nat))) r l k':=Blk.set_ h 1 _
theorem RdAt.far {w:World} {r:Nat} {l:List UInt8} {k:Nat} (h:RdAt w r l k) {a:Addr} (ha:r ≠ a.block) (u:Value):RdAt (w.setCell a u) r l k:=Blk.far h ha u
theorem RdAt.far4 {w:World} {r g:Nat} {l:List UInt8} {k:Nat} (h:RdAt w r l k) (hg:r ≠ g) (u0 u1 u2 u3:Value):RdAt ((((w.setCell ⟨g,0,none⟩ u0).setCell ⟨g,1,none⟩ u1).setCell ⟨g,2,none⟩ u2).setCell ⟨g,3,none⟩ u3) r l k:=(((h.far hg _).far hg _).far hg _).far hg _
theorem RdAt.drew {w:World} {r:Nat} {l:List UInt8} {k:Nat} (h:RdAt w r l k):RdAt w.drew r l k:=h
set_option maxHeartbeats 4000000 in
set_option maxRecDepth 20000 in
theorem clRSignE (E:Nat→Addr) (l:List UInt8) (k r:Nat) (c:UInt8) (hlen:l.length≤10000) (hkl:k<l.length) (hc:l[k]'hkl=c) (h92:c.toNat=92) (w:World) (hE:ErrC [2,4] w E) (hR:RdAt w r l k) :
  Calls Tryz.prog 77 #[.pointer (some ⟨r,0,none⟩)] w fun e w' =>
   e=.returned (.tuple #[sp (signS (l.drop k)).set,.bool (signS (l.drop k)).one,ev E (signS (l.drop k)).err])∧RdAt w' r l (k+(signS (l.drop k)).size)∧Chg [r] w w':=by
 have hz0:7<w.heap.size:=block_lt_of_cell (hE.cell (i:=2) (by simp) rfl)
 have hz1:4<w.heap.size:=block_lt_of_cell (hE.cell (i:=4) (by simp) rfl)
 have hx0:=Ext.new1 w (.cells #[.int .u64 0,.int .u64 0,.int .u64 0,.int .u64 0] 25)
 have hS:=SB.zero (w:=w) rfl
 have hrl:=hR.lt
 have hR1:=hR.keep hx0
 have hE1:=hE.keep hx0
 have k0:(w.alloc (.cells #[.int .u64 0,.int .u64 0,.int .u64 0,.int .u64 0] 25)).cell? ⟨7,0,none⟩=some (errV E 2):=hE1.cell (i:=2) (by simp) rfl
 have k1:(w.alloc (.cells #[.int .u64 0,.int .u64 0,.int .u64 0,.int .u64 0] 25)).cell? ⟨4,0,none⟩=some (errV E 4):=hE1.cell (i:=4) (by simp) rfl
 have c0:=hR1.c0
 have c1:=hR1.c1
 obtain ⟨y0,y1,y2,y3⟩:=hS.cells
 have f0:=hS.frozen 0
 have f1:=hS.frozen 1
 have f2:=hS.frozen 2
 have f3:=hS.frozen 3
 have fr:(w.alloc (.cells #[.int .u64 0,.int .u64 0,.int .u64 0,.int .u64 0] 25)).frozen? ⟨r,1,none⟩=false:=Blk.frozen hR1 1
 have n0:¬ 7=w.heap.size:=by omega
 have n1:¬ 4=w.heap.size:=by omega
 have n2:¬ w.heap.size=7:=by omega
 have n3:¬ w.heap.size=4:=by omega
 have n4:¬ w.heap.size=r:=by omega
 have n5:¬ r=w.heap.size:=by omega
 have HE:=Lib.hid hE1
 have HS:=Lib.hid hS
 have HR1:=Lib.hid hR1
 clear hE hE1 hS hR hR1
 go_enter Tryz.func77,Tryz.ntmps77
 go_wp2_with fail
 generalize hgz:w.heap.size=gz at *
 generalize w.alloc (.cells #[.int .u64 0,.int .u64 0,.int .u64 0,.int .u64 0] 25)=w0 at *
 clear hz0 hz1
 have hs':¬ (l.length:Int)≤(k:Int):=by omega
 have hd:l.drop k=c :: l.drop (k+1):=by rw [← hc];exact List.drop_eq_getElem_cons hkl
 have hki:(k:Int)<(l.length:Int):=by omega
 have HC:=Lib.hid hc
 have HD:=Lib.hid hd
 clear hd
 have hx93:((c.toNat:Int) == 93)=false:=by simp [h92]
 have hx45:((c.toNat:Int) == 45)=false:=by simp [h92]
 have HQ:=Lib.hid (show signS (l.drop k)=escS (l.drop k) by rw [HD.out];unfold signS;simp [h92])
 have hx92:((c.toNat:Int) == 92)=true:=by simp [h92]
 have hsl:signS (l.drop k)=escS (l.drop k):=HQ.out
 have hfit:=esc_fits (l.drop k)
 have HFIT:=Lib.hid hfit
 clear h92 hfit hsl
 go_region
 all_goals go_wp2
 all_goals go_region
 all_goals go_wp2_with fail
 have hl2:(l.drop k).length≤10000:=by rw [List.length_drop];omega
 clear y0 y1 y2 y3 f0 f1 f2 f3
 have hrw:=HR1.out.lt
 have n6:¬ r=w0.heap.size:=by omega
 have n7:¬ w0.heap.size=r:=by omega
 have hkk:(k:Int)≤(l.length:Int):=by omega
 go_region_with (go_at_call 44;refine (clEscape E (l.drop k) hl2 _ (HE.out.keep (by (first | exact Ext.refl _ | (unfold Ext;repeat (first | exact Below.refl _ _ | assumption | refine BeA ?_ | refine BeC ?_ | refine Below.drew ?_)))))).mono ?_;rintro e w3 ⟨rfl,hx3⟩;(try have hN:=(SB.zero (w:=w0.drew.drew.drew) (g:=w0.heap.size) rfl).keep hx3);(try obtain ⟨z0,z1,z2,z3⟩:=hN.cells);(try have q0:=hN.frozen 0);(try have q1:=hN.frozen 1);(try have q2:=hN.frozen 2);(try have q3:=hN.frozen 3);(try have HN:=Lib.hid hN);(try clear hN);unfold sgV sp)
 all_goals
  first
  | (have hx3':Ext w0 w3:=Ext.trans (show Ext w0 w0.drew.drew.drew from (((Below.refl _ _).drew).drew).drew) hx3
     have hxA:=hx3'.trans (Ext.new1 w3 (.cells #[.int .u64 (wd (escS (l.drop k)).set 0:Nat),.int .u64 (wd (escS (l.drop k)).set 1:Nat),.int .u64 (wd (escS (l.drop k)).set 2:Nat),.int .u64 (wd (escS (l.drop k)).set 3:Nat)] 25))
     have HSg:=Lib.hid (SB.new (w:=w3) rfl (escS (l.drop k)).set)
     have HRA:=Lib.hid (HR1.out.keep hxA)
     have HSr:=Lib.hid (HS.out.keep hxA)
     have hcA:Chg [r] w _:=Chg.of_ext (hx0.trans hxA)
     have m1:¬ r=w3.heap.size:=by have:=hx3'.size;omega
     have m2:¬ w3.heap.size=r:=by omega
     clear hx3 hx3' hxA c0 c1 k0 k1 n6 n7
     generalize w3.heap.size=gA at *
     generalize w3.alloc (.cells #[.int .u64 (wd (escS (l.drop k)).set 0:Nat),.int .u64 (wd (escS (l.drop k)).set 1:Nat),.int .u64 (wd (escS (l.drop k)).set 2:Nat),.int .u64 (wd (escS (l.drop k)).set 3:Nat)] 25)=wA at *
     have hc9:=HRA.out.c1
     have fr9:wA.frozen? ⟨r,1,none⟩=false:=Blk.frozen HRA.out 1
     obtain ⟨z0,z1,z2,z3⟩:=HSg.out.cells
     obtain ⟨y0,y1,y2,y3⟩:=HSr.out.cells
     have f0:=HSr.out.frozen 0
     have f1:=HSr.out.frozen 1
     have f2:=HSr.out.frozen 2
     have f3:=HSr.out.frozen 3
     have hsz:=Sg.fits_size HFIT.out
     rw [List.length_drop] at hsz
     have hrA:=HRA.out.set (k+(escS (l.drop k)).size)
     have hrS:=HSr.out.far (a:=⟨r,1,none⟩) n4 (.int .i64 (k+(escS (l.drop k)).size:Nat))
     have hcA2:Chg [r] w (wA.setCell ⟨r,1,none⟩ (.int .i64 (k+(escS (l.drop k)).size:Nat))):=hcA.setCell (by exact .head _) _
     have HRA2:=Lib.hid hrA
     have HSr2:=Lib.hid hrS
     have HCA2:=Lib.hid hcA2
     clear hrA hrS hcA2 hcA
     go_wp2
     exact bodyPost_ret (v:=.tuple #[sp (escS (l.drop k)).set,.bool (escS (l.drop k)).one,ev E (escS (l.drop k)).err]) (results_sp3 rfl (by simp) (HSr2.out.set4 (escS (l.drop k)).set) (by simp) (by simp)) (by simp) ⟨by rw [HQ.out],by rw [HQ.out];exact HRA2.out.far4 n5 _ _ _ _,(((HCA2.out.setNew (by simp [hgz]) _).setNew (by simp [hgz]) _).setNew (by simp [hgz]) _).setNew (by simp [hgz]) _⟩)
  | (have hx3':Ext w0 w3:=Ext.trans (show Ext w0 (w0.drew.drew.drew.alloc _) from ((((Below.refl _ _).drew).drew).drew).alloc (Nat.le_refl _) _) hx3
     have hA:Ext w0 ((((w3.setCell ⟨w0.heap.size,0,none⟩ (.int .u64 (wd (escS (l.drop k)).set 0:Nat))).setCell ⟨w0.heap.size,1,none⟩ (.int .u64 (wd (escS (l.drop k)).set 1:Nat))).setCell ⟨w0.heap.size,2,none⟩ (.int .u64 (wd (escS (l.drop k)).set 2:Nat))).setCell ⟨w0.heap.size,3,none⟩ (.int .u64 (wd (escS (l.drop k)).set 3:Nat))):=by (first | exact Ext.refl _ | (unfold Ext;repeat (first | exact Below.refl _ _ | assumption | refine BeA ?_ | refine BeC ?_ | refine Below.drew ?_)))
     have HSg:=Lib.hid (HN.out.set4 (escS (l.drop k)).set)
     have HRA:=Lib.hid (HR1.out.keep hA)
     have HSr:=Lib.hid (HS.out.keep hA)
     have hcA:Chg [r] w _:=Chg.of_ext (hx0.trans hA)
     clear hx3 hx3' hA c0 c1 k0 k1 z0 z1 z2 z3 q0 q1 q2 q3 HN
     generalize ((((w3.setCell ⟨w0.heap.size,0,none⟩ (.int .u64 (wd (escS (l.drop k)).set 0:Nat))).setCell ⟨w0.heap.size,1,none⟩ (.int .u64 (wd (escS (l.drop k)).set 1:Nat))).setCell ⟨w0.heap.size,2,none⟩ (.int .u64 (wd (escS (l.drop k)).set 2:Nat))).setCell ⟨w0.heap.size,3,none⟩ (.int .u64 (wd (escS (l.drop k)).set 3:Nat)))=wA at *
     generalize w0.heap.size=gA at *
     have hc9:=HRA.out.c1
     have fr9:wA.frozen? ⟨r,1,none⟩=false:=Blk.frozen HRA.out 1
     obtain ⟨z0,z1,z2,z3⟩:=HSg.out.cells
     obtain ⟨y0,y1,y2,y3⟩:=HSr.out.cells
     have f0:=HSr.out.frozen 0
     have f1:=HSr.out.frozen 1
     have f2:=HSr.out.frozen 2
     have f3:=HSr.out.frozen 3
     have hsz:=Sg.fits_size HFIT.out
     rw [List.length_drop] at hsz
     have hrA:=HRA.out.set (k+(escS (l.drop k)).size)
     have hrS:=HSr.out.far (a:=⟨r,1,none⟩) n4 (.int .i64 (k+(escS (l.drop k)).size:Nat))
     have hcA2:Chg [r] w (wA.setCell ⟨r,1,none⟩ (.int .i64 (k+(escS (l.drop k)).size:Nat))):=hcA.setCell (by exact .head _) _
     have HRA2:=Lib.hid hrA
     have HSr2:=Lib.hid hrS
     have HCA2:=Lib.hid hcA2
     clear hrA hrS hcA2 hcA
     go_wp2
     exact bodyPost_ret (v:=.tuple #[sp (escS (l.drop k)).set,.bool (escS (l.drop k)).one,ev E (escS (l.drop k)).err]) (results_sp3 rfl (by simp) (HSr2.out.set4 (escS (l.drop k)).set) (by simp) (by simp)) (by simp) ⟨by rw [HQ.out],by rw [HQ.out];exact HRA2.out.far4 n5 _ _ _ _,(((HCA2.out.setNew (by simp [hgz]) _).setNew (by simp [hgz]) _).setNew (by simp [hgz]) _).setNew (by simp [hgz]) _⟩)
end Go.Proofs.YtigmdlchbjanoaaGreatDoor
namespace Go.Proofs.YtigmdlchbjanoaaGreatDoor
open Go Go.RowKit
attribute [local irreducible] wd
set_option maxHeartbeats 4000000 in
set_option maxRecDepth 20000 in
theorem clRSign (E:Nat→Addr) (l:List UInt8) (k r:Nat) (hlen:l.length≤10000) (hk:k≤l.length) (w:World) (hE:ErrC [2,4] w E) (hR:RdAt w r l k) :
  Calls Tryz.prog 77 #[.pointer (some ⟨r,0,none⟩)] w fun e w' =>
   e=.returned (.tuple #[sp (signS (l.drop k)).set,.bool (signS (l.drop k)).one,ev E (signS (l.drop k)).err])∧RdAt w' r l (k+(signS (l.drop k)).size)∧Chg [r] w w':=by
 by_cases hesc:∃ (hkl:k<l.length),(l[k]'hkl).toNat=92
 ·obtain ⟨hkl,h92⟩:=hesc
  exact clRSignE E l k r _ hlen hkl rfl h92 w hE hR
 have hz0:7<w.heap.size:=block_lt_of_cell (hE.cell (i:=2) (by simp) rfl)
 have hz1:4<w.heap.size:=block_lt_of_cell (hE.cell (i:=4) (by simp) rfl)
 have hx0:=Ext.new1 w (.cells #[.int .u64 0,.int .u64 0,.int .u64 0,.int .u64 0] 25)
 have hS:=SB.zero (w:=w) rfl
 have hrl:=hR.lt
 have hR1:=hR.keep hx0
 have hE1:=hE.keep hx0
 have k0:(w.alloc (.cells #[.int .u64 0,.int .u64 0,.int .u64 0,.int .u64 0] 25)).cell? ⟨7,0,none⟩=some (errV E 2):=hE1.cell (i:=2) (by simp) rfl
 have k1:(w.alloc (.cells #[.int .u64 0,.int .u64 0,.int .u64 0,.int .u64 0] 25)).cell? ⟨4,0,none⟩=some (errV E 4):=hE1.cell (i:=4) (by simp) rfl
 have c0:=hR1.c0
 have c1:=hR1.c1
 obtain ⟨y0,y1,y2,y3⟩:=hS.cells
 have f0:=hS.frozen 0
 have f1:=hS.frozen 1
 have f2:=hS.frozen 2
 have f3:=hS.frozen 3
 have fr:(w.alloc (.cells #[.int .u64 0,.int .u64 0,.int .u64 0,.int .u64 0] 25)).frozen? ⟨r,1,none⟩=false:=Blk.frozen hR1 1
 have n0:¬ 7=w.heap.size:=by omega
 have n1:¬ 4=w.heap.size:=by omega
 have n2:¬ w.heap.size=7:=by omega
 have n3:¬ w.heap.size=4:=by omega
 have n4:¬ w.heap.size=r:=by omega
 have n5:¬ r=w.heap.size:=by omega
 have HE:=Lib.hid hE1
 have HS:=Lib.hid hS
 have HR1:=Lib.hid hR1
 clear hE hE1 hS hR hR1
 go_enter Tryz.func77,Tryz.ntmps77
 go_wp2_with fail
 generalize hgz:w.heap.size=gz at *
 generalize w.alloc (.cells #[.int .u64 0,.int .u64 0,.int .u64 0,.int .u64 0] 25)=w0 at *
 clear hz0 hz1
 by_cases hs:l.length≤k
 ·have hs':(l.length:Int)≤(k:Int):=by omega
  have HQ:=Lib.hid (show signS (l.drop k)=.bad 3 by rw [List.drop_eq_nil_of_le hs];rfl)
  go_region
  all_goals go_wp2
  all_goals go_region
  all_goals go_wp2
  all_goals exact bodyPost_ret (v:=.tuple #[sp (fun _=>false),.bool false,errV E 2]) (results_sp3 rfl rfl HS.out.zset.drew.drew rfl rfl) rfl ⟨by rw [HQ.out];rfl,by rw [HQ.out];exact (HR1.out.far4 n5 _ _ _ _).drew.drew,Chg.of_ext (by (first | exact Ext.refl _ | (unfold Ext;repeat (first | exact Below.refl _ _ | assumption | refine BeA ?_ | refine BeC ?_ | refine Below.drew ?_))))⟩
 ·have hs':¬ (l.length:Int)≤(k:Int):=by omega
  have hkl:k<l.length:=by omega
  obtain ⟨c,hc⟩:∃ c,l[k]'hkl=c:=⟨_,rfl⟩
  have hd:l.drop k=c :: l.drop (k+1):=by rw [← hc];exact List.drop_eq_getElem_cons hkl
  have hc6:=UInt8.toNat_lt c
  have hki:(k:Int)<(l.length:Int):=by omega
  have HC:=Lib.hid hc
  have HD:=Lib.hid hd
  clear hd
  by_cases h93:c.toNat=93∨c.toNat=45
  ·have HQ:=Lib.hid (show signS (l.drop k)=.bad 5 by rw [HD.out];unfold signS;simp [h93])
   rcases h93 with h93 | h93
   ·have hx93:((c.toNat:Int) == 93)=true:=by simp [h93]
    clear h93
    go_region
    all_goals go_wp2
    all_goals go_region
    all_goals go_wp2
    all_goals go_region
    all_goals go_wp2
    all_goals exact bodyPost_ret (v:=.tuple #[sp (fun _=>false),.bool false,errV E 4]) (results_sp3 rfl rfl HS.out.zset.drew.drew.drew rfl rfl) rfl ⟨by rw [HQ.out];rfl,by rw [HQ.out];exact (HR1.out.far4 n5 _ _ _ _).drew.drew.drew,Chg.of_ext (by (first | exact Ext.refl _ | (unfold Ext;repeat (first | exact Below.refl _ _ | assumption | refine BeA ?_ | refine BeC ?_ | refine Below.drew ?_))))⟩
   ·have hx93:((c.toNat:Int) == 93)=false:=by simp [h93]
    have hx45:((c.toNat:Int) == 45)=true:=by simp [h93]
    clear h93
    go_region
    all_goals go_wp2
    all_goals go_region
    all_goals go_wp2
    all_goals go_region
    all_goals go_wp2
    all_goals exact bodyPost_ret (v:=.tuple #[sp (fun _=>false),.bool false,errV E 4]) (results_sp3 rfl rfl HS.out.zset.drew.drew.drew rfl rfl) rfl ⟨by rw [HQ.out];rfl,by rw [HQ.out];exact (HR1.out.far4 n5 _ _ _ _).drew.drew.drew,Chg.of_ext (by (first | exact Ext.refl _ | (unfold Ext;repeat (first | exact Below.refl _ _ | assumption | refine BeA ?_ | refine BeC ?_ | refine Below.drew ?_))))⟩
  ·have hx93:((c.toNat:Int) == 93)=false:=by simp;omega
   have hx45:((c.toNat:Int) == 45)=false:=by simp;omega
   by_cases h92:c.toNat=92
   ·exact absurd ⟨hkl,by rw [hc];exact h92⟩ hesc
   ·have HQ:=Lib.hid (show signS (l.drop k)=.byte c.toNat 1 by rw [HD.out];unfold signS;simp [h93,h92])
    have hx92:((c.toNat:Int) == 92)=false:=by simp;omega
    have hc7:c.toNat<256:=by omega
    clear h92 h93
    go_region
    all_goals go_wp2
    all_goals go_region
    all_goals go_wp2_with fail
    generalize c.toNat=m at *
    have hRx:=HR1.out.set (k+1)
    have hSx:=HS.out.far (a:=⟨r,1,none⟩) n4 (.int .i64 (k+1:Nat))
    have hxx:Chg [r] w (w0.setCell ⟨r,1,none⟩ (.int .i64 (k+1:Nat))).drew.drew:=(((Chg.of_ext hx0).setCell (by exact .head _) _).drew).drew
    rw [show ((k+1:Nat):Int)=(k:Int)+1 from rfl] at hRx hSx hxx
    go_at_call 20
    refine (setOne m hc7 _).mono ?_
    rintro e w3 ⟨rfl,hx3⟩
    have hR3:=hRx.drew.drew.keep hx3
    have hS3:=hSx.drew.drew.keep hx3
    have hc3:=hxx.trans (Chg.of_ext hx3)
    obtain ⟨y0,y1,y2,y3⟩:=hS3.cells
    have f0:=hS3.frozen 0
    have f1:=hS3.frozen 1
    have f2:=hS3.frozen 2
    have f3:=hS3.frozen 3
    have HS3:=Lib.hid hS3
    have HR3:=Lib.hid hR3
    clear hS3 hR3 hRx hSx
    unfold sp
    go_wp2
    exact bodyPost_ret (v:=.tuple #[sp (fun j=>j == m),.bool true,.nilIface]) (results_sp3 rfl rfl (HS3.out.set4 (fun j=>j == m)) rfl rfl) rfl ⟨by rw [HQ.out];rfl,by rw [HQ.out];exact HR3.out.far4 n5 _ _ _ _,(((hc3.setNew (by simp [hgz]) _).setNew (by simp [hgz]) _).setNew (by simp [hgz]) _).setNew (by simp [hgz]) _⟩
end Go.Proofs.YtigmdlchbjanoaaGreatDoor
