/- Put together: Cl29, Cl30. -/
import Derived.Test.YtigmdlchbjanoaaGreatDoorPTgD
import Derived.Test.YtigmdlchbjanoaaGreatDoorPTgG
import Derived.Test.YtigmdlchbjanoaaGreatDoorPTgA
namespace Go.Proofs.YtigmdlchbjanoaaGreatDoor
open Go Go.RowKit
set_option maxRecDepth 100000 in
theorem dig_found:∀ i:Fin 22,digV (digL.getD i.1 0).toNat=(if 15<i.1 then (i.1:Int)-6 else (i.1:Int)):=by decide +kernel
set_option maxRecDepth 100000 in
theorem dig_none:∀ c:Fin 256,(∀ i:Fin 22,(digL.getD i.1 0).toNat ≠ c.1)→digV c.1=-1:=by decide +kernel
set_option maxHeartbeats 2000000 in
set_option maxRecDepth 20000 in
theorem refDigit (c:Nat) (hc:c<256) (w:World) :
  Calls Tryz.prog 52 #[.int .u8 (c:Nat)] w fun e w'=>e=.returned (.int .i64 (digV c))∧w'=w:=by
 go_enter Tryz.func52,Tryz.ntmps52
 go_wp2
 go_loopw [3] (fun iv wr=>∃ i:Nat,i≤22∧iv=.int .i64 i∧(∀ j,j<i→(digL.getD j 0).toNat ≠ c)∧wr=w) (fun iv _=>22-(intOf iv).toNat)
 case atStart=>exact ⟨0,by omega,rfl,fun j hj=>by omega,by trivial⟩
 case round =>
  obtain ⟨i,hi,rfl,hno,rfl⟩:=hrel
  have HNO:=Lib.hid hno
  clear hno
  by_cases hlt:i<22
  ·have hlt':(i:Int)<22:=by omega
   obtain ⟨x,hx⟩:∃ x,digL.getD i 0=x:=⟨_,rfl⟩
   have hxi:digL[i]?=some x:=by rw [← hx,List.getD_eq_getElem?_getD,List.getElem?_eq_getElem (by exact hlt)];rfl
   have h0:∀ w,(Instr.index 9 (.string ⟨digL.toArray⟩) (.int .i64 (i:Nat))).run Tryz.prog w=.ok (.int .u8 x.toNat) w:=ix_str (t:=9) Tryz.underlying9 digL .i64 i x hxi
   have hf:=dig_found ⟨i,hlt⟩
   simp only [hx] at hf
   have HX:=Lib.hid hx
   clear hx hxi
   by_cases hxc:x.toNat=c
   ·rw [hxc] at hf h0
    have hcc:((c:Int) == (c:Int))=true:=by simp
    by_cases h15:15<i
    ·have h15':(15:Int)<(i:Int):=by omega
     rw [if_pos h15] at hf
     have HF:=Lib.hid hf
     have hw6:IntKind.i64.wrap ((i:Int)-6)=(i:Int)-6:=wrap_id (by omega) (by omega)
     clear hf
     go_wp2_with (go_at_call 58;refine (refDigits _).mono ?_;rintro e w1 ⟨rfl,rfl⟩)
     go_ret
     exact ⟨by rw [HF.out];simp,by trivial⟩
    ·have h15':¬ (15:Int)<(i:Int):=by omega
     rw [if_neg h15] at hf
     have HF:=Lib.hid hf
     clear hf
     go_wp2_with (go_at_call 58;refine (refDigits _).mono ?_;rintro e w1 ⟨rfl,rfl⟩)
     go_ret
     exact ⟨by rw [HF.out];simp,by trivial⟩
   ·have hcc:((x.toNat:Int) == (c:Int))=false:=by simp;omega
    clear hf
    go_wp2_with (go_at_call 58;refine (refDigits _).mono ?_;rintro e w1 ⟨rfl,rfl⟩)
    go_roundw
    case rel=>exact ⟨i+1,by omega,by go_num,fun j hj=>(by by_cases e:j=i;(rw [e,HX.out];exact hxc);exact HNO.out j (by omega)),by trivial⟩
    case measure=>simp [intOf];omega
  ·obtain rfl:i=22:=by omega
   have hv:=dig_none ⟨c,hc⟩ (fun i=>HNO.out i.1 i.2)
   have HV:=Lib.hid hv
   clear hv
   go_wp2
   go_ret
   exact ⟨by rw [show digV c=-1 from HV.out];simp,by trivial⟩
end Go.Proofs.YtigmdlchbjanoaaGreatDoor
namespace Go.Proofs.YtigmdlchbjanoaaGreatDoor
open Go Go.RowKit
theorem results_bp4 {fn:Func} {p a b c:Tmp} (h:fn.results=#[.cell p 35,.tmp a,.tmp b,.tmp c]) {tmps:Array Value} {w:World} {g:Nat} {q:Nat→Bool} {va vb vc:Value}
  (hp:tmps.getD p undef=.pointer (some ⟨g,0,none⟩)) (hg:BB w g q) (ha:tmps.getD a undef=va) (hb:tmps.getD b undef=vb) (hc:tmps.getD c undef=vc):(results fn tmps).run Tryz.prog w=.ok (.tuple #[bp q,va,vb,vc]) w:=by
 have hp':tmps[p]?.getD undef=.pointer (some ⟨g,0,none⟩):=by simpa using hp
 have hl:(loadVar 35 ⟨g,0,none⟩).run Tryz.prog w=.ok (bp q) w:=
  run_loadVar_row w g _ _ (bcs q) (0,0) _ hg Tryz.underlying35 rfl (by rw [bcs_size];exact set_size)
 subst ha hb hc
 simp [results,h,hp',asAddr,hl]
def sgB (s:Sg):Value:=.tuple #[bp s.set,.bool s.one,.int .i64 (s.size:Nat),.int .i64 (s.err:Nat)]
theorem made (w:World) (q:Nat→Bool):BB ((w.alloc (.cells Tryz.zeroCells35 35)).setRow w.heap.size (bcs q)) w.heap.size q∧Ext w ((w.alloc (.cells Tryz.zeroCells35 35)).setRow w.heap.size (bcs q)):=
 ⟨(BB.zero rfl).row q,Ext.row (Ext.new1 _ _) _ _ (Nat.le_refl _)⟩
theorem BB.below {w w':World} {B g:Nat} {p:Nat→Bool} (h:BB w g p) (hx:Below B w w') (hg:g<B):BB w' g p:=Blk.below h hx hg
theorem fig_in:∀ c:Fin 256,([48,49,50,51,52,53,54,55,56,57]:List UInt8).any (fun x=>x.toNat == c.1)=isFig c.1:=by decide +kernel
theorem in_one (m:UInt8) (c:Nat):([m]:List UInt8).any (fun x=>x.toNat == c)=(c == m.toNat):=by
 simp only [List.any_cons,List.any_nil,Bool.or_false]
 rw [Bool.eq_iff_iff]
 simp only [beq_iff_eq]
 exact ⟨fun h=>h.symm,fun h=>h.symm⟩
theorem space_in:∀ c:Fin 256,([9,10,13,32]:List UInt8).any (fun x=>x.toNat == c.1)=spaceP c.1:=by decide +kernel
structure EscNow (w:World) (gf:Nat) (gq gl:Nat) (w6:World):Prop where
 s:BB w6 gq (fun _=>false)
 f:BB w6 gf isFig
 l:BB w6 gl isLet
 x:Ext w w6
theorem Chg.row {X:List Nat} (w:World) (g:Nat) (cs:Array Value) (hg:g ∈ X):Chg X w (w.setRow g cs):=
 ⟨rfl,rfl,rfl,by rw [setRow_size];exact Nat.le_refl _,fun k _ hx=>setRow_other w g k cs fun e=>hx (e ▸ hg)⟩
theorem refInS (l:List UInt8) (q:Nat→Bool) (hl:l.length≤1000000) (h:∀ c,c<256→(l.any fun x=>x.toNat == c)=q c) (w:World) :
  Calls Tryz.prog 25 #[.string ⟨l.toArray⟩] w fun e w'=>e=.returned (bp q)∧Ext w w':=
 (refIn l hl w).mono fun e w' ⟨h1,h2⟩=>⟨by rw [h1];exact congrArg (fun x=>Ending.returned (.agg x)) (bcs_congr h),h2⟩
theorem refOrS (p p' q:Nat→Bool) (h:∀ c,c<256→(p c || p' c)=q c) (w:World) :
  Calls Tryz.prog 51 #[bp p,bp p'] w fun e w'=>e=.returned (bp q)∧Ext w w':=
 (refOr p p' w).mono fun e w' ⟨h1,h2⟩=>⟨by rw [h1];exact congrArg (fun x=>Ending.returned (.agg x)) (bcs_congr h),h2⟩
theorem refFromS (a b:Nat) (q:Nat→Bool) (ha:a<256) (hb:b<256) (h:∀ c,c<256→(decide (a≤c) && decide (c≤b))=q c) (w:World) :
  Calls Tryz.prog 27 #[.int .i64 (a:Nat),.int .i64 (b:Nat)] w fun e w'=>e=.returned (bp q)∧Ext w w':=
 (refFrom a b ha hb w).mono fun e w' ⟨h1,h2⟩=>⟨by rw [h1];exact congrArg (fun x=>Ending.returned (.agg x)) (bcs_congr h),h2⟩
def lowP (j:Nat):Bool:=decide (97≤j) && decide (j≤122)
def uppP (j:Nat):Bool:=decide (65≤j) && decide (j≤90)
def isM (m j:Nat):Bool:=j == m
theorem in_isM (m:UInt8):∀ c,c<256→(([m]:List UInt8).any fun x=>x.toNat == c)=isM m.toNat c:=fun c _=>in_one m c
theorem word_or:∀ c,c<256→((isLet c || isFig c) || isM 95 c)=wordP c:=fun c _=>by
 unfold isLet wordP isM
 cases isFig c <;> cases (decide (97≤c) && decide (c≤122)) <;> cases (decide (65≤c) && decide (c≤90)) <;> rfl
def wlP (j:Nat):Bool:=isLet j || isFig j
attribute [local irreducible] isFig isLet isM spaceP wordP lowP uppP wlP
set_option maxHeartbeats 8000000 in
set_option maxRecDepth 20000 in
theorem refEscape2 (c:UInt8) (r:List UInt8) (hlen:(92 :: c :: r:List UInt8).length≤10000) (w:World) :
  Calls Tryz.prog 29 #[.string ⟨(92 :: c :: r:List UInt8).toArray⟩] w fun e w'=>e=.returned (sgB (escS (92 :: c :: r)))∧Ext w w':=by
 have hS0:=BB.zero (w:=w) rfl
 have hx0:=Ext.new1 w (.cells Tryz.zeroCells35 35)
 have hc6:=UInt8.toNat_lt c
 have hn0:((r.length:Int)+1+1 == 0)=false:=by simp;omega
 have hn1:((r.length:Int)+1+1 == 1)=false:=by simp;omega
 have HS0:=Lib.hid hS0
 have HX0:=Lib.hid hx0
 have HL:=Lib.hid hlen
 have HG0:=Lib.hid (Nat.le_refl w.heap.size)
 clear hS0 hx0 hlen
 go_enter Tryz.func29,Tryz.ntmps29
 go_wp2_with fail
 generalize hgw:w.heap.size=gq at *
 generalize w.alloc (.cells Tryz.zeroCells35 35)=w0 at *
 have HG:=Lib.hid hgw
 clear hgw
 go_at_call 25
 refine (refInS [48,49,50,51,52,53,54,55,56,57] isFig (by simp) (fun c hc=>fig_in ⟨c,hc⟩) _).mono ?_
 rintro e w1 ⟨rfl,hx1⟩
 unfold bp
 go_wp2_with (refine store_set rfl (.tmp 6) (.tmp 26) rfl (g:=w1.heap.size) rfl rfl (BB.zero rfl) ?_)
 have hF2:=Lib.hid (made w1 isFig).1
 have hx2:=Lib.hid (made w1 isFig).2
 generalize (w1.alloc (.cells Tryz.zeroCells35 35)).setRow w1.heap.size (bcs isFig)=w2 at *
 generalize w1.heap.size=gf at *
 go_wp2_with (first
  | (have:=hx3;go_at_call 27;refine (refFromS 65 90 uppP (by omega) (by omega) (fun c _=>by unfold uppP;rfl) _).mono ?_;rintro e w4 ⟨rfl,hx4⟩)
  | (go_at_call 27;refine (refFromS 97 122 lowP (by omega) (by omega) (fun c _=>by unfold lowP;rfl) _).mono ?_;rintro e w3 ⟨rfl,hx3⟩))
 go_at_call 51
 refine (refOrS lowP uppP isLet (fun c _=>by unfold lowP uppP isLet;rfl) _).mono ?_
 rintro e w5 ⟨rfl,hx5⟩
 unfold bp
 have hx05:=((hx1.trans hx2.out).trans hx3).trans (hx4.trans hx5)
 have hL6:=(made w5 isLet).1
 have hx6:=(made w5 isLet).2
 have hN6:EscNow w gf gq w5.heap.size ((w5.alloc (.cells Tryz.zeroCells35 35)).setRow w5.heap.size (bcs isLet)):=
  ⟨HS0.out.keep (hx05.trans hx6),hF2.out.keep ((hx3.trans (hx4.trans hx5)).trans hx6),hL6,(HX0.out.trans hx05).trans hx6⟩
 have HN6:=Lib.hid hN6
 have HW6:Hid (∃ w6,(w5.alloc (.cells Tryz.zeroCells35 35)).setRow w5.heap.size (bcs isLet)=w6):=Lib.hid ⟨_,rfl⟩
 clear hx1 hx2 hx3 hx4 hx5 hx05 hL6 hx6 hN6 hF2 HX0 HS0
 by_cases hk:c.toNat=110
 focus
  have HR:=Lib.hid (show escS (92 :: c :: r)=.byte 10 2 by unfold escS escC;simp [hk])
  have hkk:((c.toNat:Int) == 110)=true:=by simp [hk]
  have HK:=Lib.hid hk
  clear hk
  go_wp2_with (refine store_set rfl (.tmp 7) (.tmp 29) rfl (g:=w5.heap.size) rfl rfl (BB.zero rfl) ?_;generalize (w5.alloc (.cells Tryz.zeroCells35 35)).setRow w5.heap.size (bcs isLet)=w6 at *;generalize w5.heap.size=gl at *)
  go_at_call 25
  refine (refInS [10] (isM 10) (by simp) (in_isM 10) _).mono ?_
  rintro e w7 ⟨rfl,hx7⟩
  unfold bp
  have hS9:=HN6.out.s.keep hx7
  have HX9:=Lib.hid (HN6.out.x.trans hx7)
  go_wp2_with (refine store_set rfl (.tmp 2) (.tmp 34) rfl (g:=gq) rfl rfl hS9 ?_)
  exact bodyPost_ret (v:=.tuple #[bp (isM 10),.bool true,.int .i64 2,.int .i64 0]) (results_bp4 rfl rfl (hS9.row _) rfl rfl rfl) rfl ⟨by rw [HR.out];unfold isM;rfl,HX9.out.row _ _ (by rw [HG.out];exact Nat.le_refl _)⟩
 have d110:((c.toNat:Int) == 110)=false:=by simp;omega
 have n110:¬ c.toNat=110:=hk
 clear hk
 by_cases hk:c.toNat=114
 focus
  have HR:=Lib.hid (show escS (92 :: c :: r)=.byte 13 2 by unfold escS escC;simp [hk])
  have hkk:((c.toNat:Int) == 114)=true:=by simp [hk]
  have HK:=Lib.hid hk
  clear hk
  go_wp2_with (refine store_set rfl (.tmp 7) (.tmp 29) rfl (g:=w5.heap.size) rfl rfl (BB.zero rfl) ?_;generalize (w5.alloc (.cells Tryz.zeroCells35 35)).setRow w5.heap.size (bcs isLet)=w6 at *;generalize w5.heap.size=gl at *)
  go_at_call 25
  refine (refInS [13] (isM 13) (by simp) (in_isM 13) _).mono ?_
  rintro e w7 ⟨rfl,hx7⟩
  unfold bp
  have hS9:=HN6.out.s.keep hx7
  have HX9:=Lib.hid (HN6.out.x.trans hx7)
  go_wp2_with (refine store_set rfl (.tmp 2) (.tmp 37) rfl (g:=gq) rfl rfl hS9 ?_)
  exact bodyPost_ret (v:=.tuple #[bp (isM 13),.bool true,.int .i64 2,.int .i64 0]) (results_bp4 rfl rfl (hS9.row _) rfl rfl rfl) rfl ⟨by rw [HR.out];unfold isM;rfl,HX9.out.row _ _ (by rw [HG.out];exact Nat.le_refl _)⟩
 have d114:((c.toNat:Int) == 114)=false:=by simp;omega
 have n114:¬ c.toNat=114:=hk
 clear hk
 by_cases hk:c.toNat=116
 focus
  have HR:=Lib.hid (show escS (92 :: c :: r)=.byte 9 2 by unfold escS escC;simp [hk])
  have hkk:((c.toNat:Int) == 116)=true:=by simp [hk]
  have HK:=Lib.hid hk
  clear hk
  go_wp2_with (refine store_set rfl (.tmp 7) (.tmp 29) rfl (g:=w5.heap.size) rfl rfl (BB.zero rfl) ?_;generalize (w5.alloc (.cells Tryz.zeroCells35 35)).setRow w5.heap.size (bcs isLet)=w6 at *;generalize w5.heap.size=gl at *)
  go_at_call 25
  refine (refInS [9] (isM 9) (by simp) (in_isM 9) _).mono ?_
  rintro e w7 ⟨rfl,hx7⟩
  unfold bp
  have hS9:=HN6.out.s.keep hx7
  have HX9:=Lib.hid (HN6.out.x.trans hx7)
  go_wp2_with (refine store_set rfl (.tmp 2) (.tmp 40) rfl (g:=gq) rfl rfl hS9 ?_)
  exact bodyPost_ret (v:=.tuple #[bp (isM 9),.bool true,.int .i64 2,.int .i64 0]) (results_bp4 rfl rfl (hS9.row _) rfl rfl rfl) rfl ⟨by rw [HR.out];unfold isM;rfl,HX9.out.row _ _ (by rw [HG.out];exact Nat.le_refl _)⟩
 have d116:((c.toNat:Int) == 116)=false:=by simp;omega
 have n116:¬ c.toNat=116:=hk
 clear hk
 by_cases hk:c.toNat=100
 focus
  have HR:=Lib.hid (show escS (92 :: c :: r)=.cls isFig 2 by unfold escS escC;simp [hk])
  have hkk:((c.toNat:Int) == 100)=true:=by simp [hk]
  have HK:=Lib.hid hk
  clear hk
  go_wp2_with (first | (refine store_set rfl (.tmp 7) (.tmp 29) rfl (g:=w5.heap.size) rfl rfl (BB.zero rfl) ?_;generalize (w5.alloc (.cells Tryz.zeroCells35 35)).setRow w5.heap.size (bcs isLet)=w6 at *;generalize w5.heap.size=gl at *) | (refine load_set rfl (.tmp 6) rfl (g:=gf) rfl HN6.out.f ?_) | (refine store_set rfl (.tmp 2) (.tmp 43) rfl (g:=gq) rfl rfl HN6.out.s ?_))
  exact bodyPost_ret (v:=.tuple #[bp isFig,.bool false,.int .i64 2,.int .i64 0]) (results_bp4 rfl rfl (HN6.out.s.row _) rfl rfl rfl) rfl ⟨by rw [HR.out];rfl,HN6.out.x.row _ _ (by rw [HG.out];exact Nat.le_refl _)⟩
 have d100:((c.toNat:Int) == 100)=false:=by simp;omega
 have n100:¬ c.toNat=100:=hk
 clear hk
 by_cases hk:c.toNat=119
 focus
  have HR:=Lib.hid (show escS (92 :: c :: r)=.cls wordP 2 by unfold escS escC;simp [hk])
  have hkk:((c.toNat:Int) == 119)=true:=by simp [hk]
  have HK:=Lib.hid hk
  clear hk
  go_wp2_with (first | (refine store_set rfl (.tmp 7) (.tmp 29) rfl (g:=w5.heap.size) rfl rfl (BB.zero rfl) ?_;generalize (w5.alloc (.cells Tryz.zeroCells35 35)).setRow w5.heap.size (bcs isLet)=w6 at *;generalize w5.heap.size=gl at *) | (refine load_set rfl (.tmp 7) rfl (g:=gl) rfl HN6.out.l ?_) | (refine load_set rfl (.tmp 6) rfl (g:=gf) rfl HN6.out.f ?_))
  go_at_call 51
  refine (refOrS isLet isFig wlP (fun c _=>by unfold wlP;rfl) _).mono ?_
  rintro e w7 ⟨rfl,hx7⟩
  unfold bp
  go_wp2_with fail
  go_at_call 25
  refine (refInS [95] (isM 95) (by simp) (in_isM 95) _).mono ?_
  rintro e w8 ⟨rfl,hx8⟩
  unfold bp
  go_wp2_with fail
  go_at_call 51
  refine (refOrS wlP (isM 95) wordP (fun c hc=>by unfold wlP;exact word_or c hc) _).mono ?_
  rintro e w10 ⟨rfl,hx10⟩
  unfold bp
  have hS9:=HN6.out.s.keep ((hx7.trans hx8).trans hx10)
  have HX9:=Lib.hid (HN6.out.x.trans ((hx7.trans hx8).trans hx10))
  go_wp2_with (refine store_set rfl (.tmp 2) (.tmp 50) rfl (g:=gq) rfl rfl hS9 ?_)
  exact bodyPost_ret (v:=.tuple #[bp (wordP),.bool false,.int .i64 2,.int .i64 0]) (results_bp4 rfl rfl (hS9.row _) rfl rfl rfl) rfl ⟨by rw [HR.out];rfl,HX9.out.row _ _ (by rw [HG.out];exact Nat.le_refl _)⟩
 have d119:((c.toNat:Int) == 119)=false:=by simp;omega
 have n119:¬ c.toNat=119:=hk
 clear hk
 by_cases hk:c.toNat=115
 focus
  have HR:=Lib.hid (show escS (92 :: c :: r)=.cls spaceP 2 by unfold escS escC;simp [hk])
  have hkk:((c.toNat:Int) == 115)=true:=by simp [hk]
  have HK:=Lib.hid hk
  clear hk
  go_wp2_with (refine store_set rfl (.tmp 7) (.tmp 29) rfl (g:=w5.heap.size) rfl rfl (BB.zero rfl) ?_;generalize (w5.alloc (.cells Tryz.zeroCells35 35)).setRow w5.heap.size (bcs isLet)=w6 at *;generalize w5.heap.size=gl at *)
  go_at_call 25
  refine (refInS [9,10,13,32] spaceP (by simp) (fun c hc=>space_in ⟨c,hc⟩) _).mono ?_
  rintro e w7 ⟨rfl,hx7⟩
  unfold bp
  have hS9:=HN6.out.s.keep hx7
  have HX9:=Lib.hid (HN6.out.x.trans hx7)
  go_wp2_with (refine store_set rfl (.tmp 2) (.tmp 53) rfl (g:=gq) rfl rfl hS9 ?_)
  exact bodyPost_ret (v:=.tuple #[bp (spaceP),.bool false,.int .i64 2,.int .i64 0]) (results_bp4 rfl rfl (hS9.row _) rfl rfl rfl) rfl ⟨by rw [HR.out];rfl,HX9.out.row _ _ (by rw [HG.out];exact Nat.le_refl _)⟩
 have d115:((c.toNat:Int) == 115)=false:=by simp;omega
 have n115:¬ c.toNat=115:=hk
 clear hk
 by_cases hk:c.toNat=120
 focus
  have hkk:((c.toNat:Int) == 120)=true:=by simp [hk]
  have HC:Hid (escS (92 :: c :: r)=codedS (92 :: c :: r)):=Lib.hid (by unfold escS escC;simp [hk])
  have HK:=Lib.hid hk
  clear hk
  rcases r with _ | ⟨a,r⟩
  ·have HR:=Lib.hid (HC.out.trans (show codedS [92,c]=.bad 3 by unfold codedS;simp))
   go_wp2_with (first | (refine store_set rfl (.tmp 7) (.tmp 29) rfl (g:=w5.heap.size) rfl rfl (BB.zero rfl) ?_;generalize (w5.alloc (.cells Tryz.zeroCells35 35)).setRow w5.heap.size (bcs isLet)=w6 at *;generalize w5.heap.size=gl at *) | (refine store_set rfl (.tmp 2) (.tmp 80) rfl (g:=gq) (q:=fun _=>false) rfl (by rw [← zero28];rfl) HN6.out.s ?_))
   exact bodyPost_ret (v:=.tuple #[bp (fun _=>false),.bool false,.int .i64 0,.int .i64 3]) (results_bp4 rfl rfl (HN6.out.s.row _) rfl rfl rfl) rfl ⟨by rw [HR.out];rfl,HN6.out.x.row _ _ (by rw [HG.out];exact Nat.le_refl _)⟩
  rcases hda:digO a.toNat with _ | d
  ·have HR:=Lib.hid (HC.out.trans (show codedS (92 :: c :: a :: r)=.bad 5 by unfold codedS;simp [hda]))
   have hv:digV a.toNat=-1:=by unfold digV;rw [hda]
   have HDA:=Lib.hid hv
   clear hda hv
   go_wp2_with (first | (refine store_set rfl (.tmp 7) (.tmp 29) rfl (g:=w5.heap.size) rfl rfl (BB.zero rfl) ?_;generalize (w5.alloc (.cells Tryz.zeroCells35 35)).setRow w5.heap.size (bcs isLet)=w6 at *;generalize w5.heap.size=gl at *) | (go_at_call 52;refine (refDigit a.toNat (UInt8.toNat_lt a) _).mono ?_;rintro e9 w9 ⟨rfl,hw9⟩;obtain rfl:w6=w9:=hw9.symm;rw [HDA.out];have hA1:=Lib.hid hc6) | (refine store_set rfl (.tmp 2) (.tmp 76) rfl (g:=gq) (q:=fun _=>false) rfl (by rw [← zero28];rfl) HN6.out.s ?_))
   exact bodyPost_ret (v:=.tuple #[bp (fun _=>false),.bool false,.int .i64 0,.int .i64 5]) (results_bp4 rfl rfl (HN6.out.s.row _) rfl rfl rfl) rfl ⟨by rw [HR.out];rfl,HN6.out.x.row _ _ (by rw [HG.out];exact Nat.le_refl _)⟩
  have hd16:=digO_lt (UInt8.toNat_lt a) hda
  have hv:digV a.toNat=d:=by unfold digV;rw [hda]
  have HDA:=Lib.hid hv
  clear hv
  rcases r with _ | ⟨b,r⟩
  ·have HR:=Lib.hid (HC.out.trans (show codedS [92,c,a]=.bad 3 by unfold codedS;simp [hda]))
   clear hda
   go_wp2_with (first | (refine store_set rfl (.tmp 7) (.tmp 29) rfl (g:=w5.heap.size) rfl rfl (BB.zero rfl) ?_;generalize (w5.alloc (.cells Tryz.zeroCells35 35)).setRow w5.heap.size (bcs isLet)=w6 at *;generalize w5.heap.size=gl at *) | (go_at_call 52;refine (refDigit a.toNat (UInt8.toNat_lt a) _).mono ?_;rintro e9 w9 ⟨rfl,hw9⟩;obtain rfl:w6=w9:=hw9.symm;rw [HDA.out];have hA1:=Lib.hid hc6) | (refine store_set rfl (.tmp 2) (.tmp 80) rfl (g:=gq) (q:=fun _=>false) rfl (by rw [← zero28];rfl) HN6.out.s ?_))
   exact bodyPost_ret (v:=.tuple #[bp (fun _=>false),.bool false,.int .i64 0,.int .i64 3]) (results_bp4 rfl rfl (HN6.out.s.row _) rfl rfl rfl) rfl ⟨by rw [HR.out];rfl,HN6.out.x.row _ _ (by rw [HG.out];exact Nat.le_refl _)⟩
  rcases hdb:digO b.toNat with _ | e
  ·have HR:=Lib.hid (HC.out.trans (show codedS (92 :: c :: a :: b :: r)=.bad 5 by unfold codedS;simp [hda,hdb]))
   have hv:digV b.toNat=-1:=by unfold digV;rw [hdb]
   have HDB:=Lib.hid hv
   clear hda hdb hv
   go_wp2_with (first | (refine store_set rfl (.tmp 7) (.tmp 29) rfl (g:=w5.heap.size) rfl rfl (BB.zero rfl) ?_;generalize (w5.alloc (.cells Tryz.zeroCells35 35)).setRow w5.heap.size (bcs isLet)=w6 at *;generalize w5.heap.size=gl at *) | (have:=hA1;go_at_call 52;refine (refDigit b.toNat (UInt8.toNat_lt b) _).mono ?_;rintro e9 w9 ⟨rfl,hw9⟩;obtain rfl:w6=w9:=hw9.symm;rw [HDB.out]) | (go_at_call 52;refine (refDigit a.toNat (UInt8.toNat_lt a) _).mono ?_;rintro e9 w9 ⟨rfl,hw9⟩;obtain rfl:w6=w9:=hw9.symm;rw [HDA.out];have hA1:=Lib.hid hc6) | (refine store_set rfl (.tmp 2) (.tmp 76) rfl (g:=gq) (q:=fun _=>false) rfl (by rw [← zero28];rfl) HN6.out.s ?_))
   exact bodyPost_ret (v:=.tuple #[bp (fun _=>false),.bool false,.int .i64 0,.int .i64 5]) (results_bp4 rfl rfl (HN6.out.s.row _) rfl rfl rfl) rfl ⟨by rw [HR.out];rfl,HN6.out.x.row _ _ (by rw [HG.out];exact Nat.le_refl _)⟩
  have he16:=digO_lt (UInt8.toNat_lt b) hdb
  have HR:=Lib.hid (HC.out.trans (show codedS (92 :: c :: a :: b :: r)=.byte (16*d+e) 4 by unfold codedS;simp [hda,hdb]))
  have hv:digV b.toNat=e:=by unfold digV;rw [hdb]
  have HDB:=Lib.hid hv
  clear hda hdb hv
  go_wp2_with (first | (refine store_set rfl (.tmp 7) (.tmp 29) rfl (g:=w5.heap.size) rfl rfl (BB.zero rfl) ?_;generalize (w5.alloc (.cells Tryz.zeroCells35 35)).setRow w5.heap.size (bcs isLet)=w6 at *;generalize w5.heap.size=gl at *) | (have:=hA1;go_at_call 52;refine (refDigit b.toNat (UInt8.toNat_lt b) _).mono ?_;rintro e9 w9 ⟨rfl,hw9⟩;obtain rfl:w6=w9:=hw9.symm;rw [HDB.out]) | (go_at_call 52;refine (refDigit a.toNat (UInt8.toNat_lt a) _).mono ?_;rintro e9 w9 ⟨rfl,hw9⟩;obtain rfl:w6=w9:=hw9.symm;rw [HDA.out];have hA1:=Lib.hid hc6))
  obtain ⟨m,hm⟩:∃ m,16*d+e=m:=⟨_,rfl⟩
  have hm6:m<256:=by omega
  have HM:=Lib.hid (show 16*(d:Int)+(e:Int)=((m:Nat):Int) by omega)
  have HM2:=Lib.hid hm
  clear hm
  refine wp_region_dagS (E:=Chg [gq]) (F:=Ext) (z:=17) (late:=[]) (w0:=w6) (Φ:=fun i v w=>match i with | 0=>(v=.string ⟨(92 :: c :: a :: b :: r:List UInt8).toArray⟩) | 1=>(v=.int .u8 a.toNat) | 2=>(v=.int .i64 d) | 3=>(v=.int .i64 (16*(d:Int))) | 4=>(v=.string ⟨(92 :: c :: a :: b :: r:List UInt8).toArray⟩) | 5=>(v=.int .u8 b.toNat) | 6=>(v=.int .i64 e) | 7=>(v=.int .i64 (16*(d:Int)+(e:Int))) | 8=>(v=.string ⟨(92 :: c :: a :: b :: r:List UInt8).toArray⟩) | 9=>(v=.int .u8 a.toNat) | 10=>(v=.int .i64 d) | 11=>(v=.int .i64 (16*(d:Int))) | 12=>(v=.string ⟨(92 :: c :: a :: b :: r:List UInt8).toArray⟩) | 13=>(v=.int .u8 b.toNat) | 14=>(v=.int .i64 e) | 15=>(v=.int .i64 (16*(d:Int)+(e:Int))) | 16=>(v=bp (isM m)) | 17=>(BB w gq (isM m)) | 18=>(v=.bool true) | 19=>(v=.int .i64 4) | 20=>(v=.int .i64 0) | _=>True) (show Tryz.prog.follows .mixedOrders=true from Checked.mixed Tryz.checked) 112 rfl (by decide +kernel) (by decide +kernel) ?_ (by decide +kernel) ?_ ((Below.refl _ _).drew) ((Chg.refl _ _).drew) ?_ ?_ ?_ ⟨?_,?_,?_,?_,?_,?_,?_,?_,?_,?_,?_,?_,?_,?_,?_,?_,?_,?_,?_,?_,?_,trivial⟩ ?_
  ·intro i v w w' h hE
   match i,h with
   | 0,h=>exact h
   | 1,h=>exact h
   | 2,h=>exact h
   | 3,h=>exact h
   | 4,h=>exact h
   | 5,h=>exact h
   | 6,h=>exact h
   | 7,h=>exact h
   | 8,h=>exact h
   | 9,h=>exact h
   | 10,h=>exact h
   | 11,h=>exact h
   | 12,h=>exact h
   | 13,h=>exact h
   | 14,h=>exact h
   | 15,h=>exact h
   | 16,h=>exact h
   | 17,h=>exact BB.keep h hE
   | 18,h=>exact h
   | 19,h=>exact h
   | 20,h=>exact h
   | _+21,_=>trivial
  ·intro i v w w' hiz hla h hE
   match i,hiz,hla,h with
   | 0,_,_,h=>exact h
   | 1,_,_,h=>exact h
   | 2,_,_,h=>exact h
   | 3,_,_,h=>exact h
   | 4,_,_,h=>exact h
   | 5,_,_,h=>exact h
   | 6,_,_,h=>exact h
   | 7,_,_,h=>exact h
   | 8,_,_,h=>exact h
   | 9,_,_,h=>exact h
   | 10,_,_,h=>exact h
   | 11,_,_,h=>exact h
   | 12,_,_,h=>exact h
   | 13,_,_,h=>exact h
   | 14,_,_,h=>exact h
   | 15,_,_,h=>exact h
   | 16,_,_,h=>exact h
   | 17,hiz,_,_=>exact absurd rfl hiz
   | 18,_,_,h=>exact h
   | 19,_,_,h=>exact h
   | 20,_,_,h=>exact h
   | _+21,_,_,_=>trivial
  ·exact fun w w' h h'=>h.trans (.of_ext h')
  ·exact fun w w' h h'=>h.trans h'
  ·exact fun w w' h h'=>(Chg.of_ext h).trans h'
  ·
   intro ac wx hE hF hsz hdf h
   have e0:ac.tmps[0]?=some (.string ⟨(92 :: c :: a :: b :: r:List UInt8).toArray⟩):=by obtain ⟨v,h1,h2⟩:=h 0 (by decide +kernel);exact h1.trans (h2.symm.trans rfl)
   clear h hsz hdf
   go_wp2
   exact ⟨_,rfl,rfl,Ext.refl _⟩
  ·
   intro ac wx hE hF hsz hdf h
   have e81:ac.tmps[81]?=some (.string ⟨(92 :: c :: a :: b :: r:List UInt8).toArray⟩):=by obtain ⟨v,h1,h2⟩:=h 81 (by decide +kernel);rw [h1];exact congrArg some h2
   clear h hsz hdf
   go_wp2
   exact ⟨_,rfl,(by first | rfl | (simp;done)),Ext.refl _⟩
  ·
   intro ac wx hE hF hsz hdf h
   have e82:ac.tmps[82]?=some (.int .u8 a.toNat):=by obtain ⟨v,h1,h2⟩:=h 82 (by decide +kernel);rw [h1];exact congrArg some h2
   clear h hsz hdf
   go_wp2_with ((go_at_call 52;refine (refDigit a.toNat (UInt8.toNat_lt a) _).mono ?_;rintro e9 w9 ⟨rfl,rfl⟩;rw [HDA.out]))
   exact ⟨_,rfl,rfl,Ext.refl _⟩
  ·
   intro ac wx hE hF hsz hdf h
   have e83:ac.tmps[83]?=some (.int .i64 d):=by obtain ⟨v,h1,h2⟩:=h 83 (by decide +kernel);rw [h1];exact congrArg some h2
   clear h hsz hdf
   go_wp2
   exact ⟨_,rfl,(by first | rfl | (simp;done) | (simp;omega)),Ext.refl _⟩
  ·
   intro ac wx hE hF hsz hdf h
   have e0:ac.tmps[0]?=some (.string ⟨(92 :: c :: a :: b :: r:List UInt8).toArray⟩):=by obtain ⟨v,h1,h2⟩:=h 0 (by decide +kernel);exact h1.trans (h2.symm.trans rfl)
   clear h hsz hdf
   go_wp2
   exact ⟨_,rfl,rfl,Ext.refl _⟩
  ·
   intro ac wx hE hF hsz hdf h
   have e85:ac.tmps[85]?=some (.string ⟨(92 :: c :: a :: b :: r:List UInt8).toArray⟩):=by obtain ⟨v,h1,h2⟩:=h 85 (by decide +kernel);rw [h1];exact congrArg some h2
   clear h hsz hdf
   go_wp2
   exact ⟨_,rfl,(by first | rfl | (simp;done)),Ext.refl _⟩
  ·
   intro ac wx hE hF hsz hdf h
   have e86:ac.tmps[86]?=some (.int .u8 b.toNat):=by obtain ⟨v,h1,h2⟩:=h 86 (by decide +kernel);rw [h1];exact congrArg some h2
   clear h hsz hdf
   go_wp2_with ((go_at_call 52;refine (refDigit b.toNat (UInt8.toNat_lt b) _).mono ?_;rintro e9 w9 ⟨rfl,rfl⟩;rw [HDB.out]))
   exact ⟨_,rfl,rfl,Ext.refl _⟩
  ·
   intro ac wx hE hF hsz hdf h
   have e84:ac.tmps[84]?=some (.int .i64 (16*(d:Int))):=by obtain ⟨v,h1,h2⟩:=h 84 (by decide +kernel);rw [h1];exact congrArg some h2
   have e87:ac.tmps[87]?=some (.int .i64 e):=by obtain ⟨v,h1,h2⟩:=h 87 (by decide +kernel);rw [h1];exact congrArg some h2
   clear h hsz hdf
   go_wp2
   exact ⟨_,rfl,(by first | rfl | (simp;done) | (simp;omega)),Ext.refl _⟩
  ·
   intro ac wx hE hF hsz hdf h
   have e0:ac.tmps[0]?=some (.string ⟨(92 :: c :: a :: b :: r:List UInt8).toArray⟩):=by obtain ⟨v,h1,h2⟩:=h 0 (by decide +kernel);exact h1.trans (h2.symm.trans rfl)
   clear h hsz hdf
   go_wp2
   exact ⟨_,rfl,rfl,Ext.refl _⟩
  ·
   intro ac wx hE hF hsz hdf h
   have e89:ac.tmps[89]?=some (.string ⟨(92 :: c :: a :: b :: r:List UInt8).toArray⟩):=by obtain ⟨v,h1,h2⟩:=h 89 (by decide +kernel);rw [h1];exact congrArg some h2
   clear h hsz hdf
   go_wp2
   exact ⟨_,rfl,(by first | rfl | (simp;done)),Ext.refl _⟩
  ·
   intro ac wx hE hF hsz hdf h
   have e90:ac.tmps[90]?=some (.int .u8 a.toNat):=by obtain ⟨v,h1,h2⟩:=h 90 (by decide +kernel);rw [h1];exact congrArg some h2
   clear h hsz hdf
   go_wp2_with ((go_at_call 52;refine (refDigit a.toNat (UInt8.toNat_lt a) _).mono ?_;rintro e9 w9 ⟨rfl,rfl⟩;rw [HDA.out]))
   exact ⟨_,rfl,rfl,Ext.refl _⟩
  ·
   intro ac wx hE hF hsz hdf h
   have e91:ac.tmps[91]?=some (.int .i64 d):=by obtain ⟨v,h1,h2⟩:=h 91 (by decide +kernel);rw [h1];exact congrArg some h2
   clear h hsz hdf
   go_wp2
   exact ⟨_,rfl,(by first | rfl | (simp;done) | (simp;omega)),Ext.refl _⟩
  ·
   intro ac wx hE hF hsz hdf h
   have e0:ac.tmps[0]?=some (.string ⟨(92 :: c :: a :: b :: r:List UInt8).toArray⟩):=by obtain ⟨v,h1,h2⟩:=h 0 (by decide +kernel);exact h1.trans (h2.symm.trans rfl)
   clear h hsz hdf
   go_wp2
   exact ⟨_,rfl,rfl,Ext.refl _⟩
  ·
   intro ac wx hE hF hsz hdf h
   have e93:ac.tmps[93]?=some (.string ⟨(92 :: c :: a :: b :: r:List UInt8).toArray⟩):=by obtain ⟨v,h1,h2⟩:=h 93 (by decide +kernel);rw [h1];exact congrArg some h2
   clear h hsz hdf
   go_wp2
   exact ⟨_,rfl,(by first | rfl | (simp;done)),Ext.refl _⟩
  ·
   intro ac wx hE hF hsz hdf h
   have e94:ac.tmps[94]?=some (.int .u8 b.toNat):=by obtain ⟨v,h1,h2⟩:=h 94 (by decide +kernel);rw [h1];exact congrArg some h2
   clear h hsz hdf
   go_wp2_with ((go_at_call 52;refine (refDigit b.toNat (UInt8.toNat_lt b) _).mono ?_;rintro e9 w9 ⟨rfl,rfl⟩;rw [HDB.out]))
   exact ⟨_,rfl,rfl,Ext.refl _⟩
  ·
   intro ac wx hE hF hsz hdf h
   have e92:ac.tmps[92]?=some (.int .i64 (16*(d:Int))):=by obtain ⟨v,h1,h2⟩:=h 92 (by decide +kernel);rw [h1];exact congrArg some h2
   have e95:ac.tmps[95]?=some (.int .i64 e):=by obtain ⟨v,h1,h2⟩:=h 95 (by decide +kernel);rw [h1];exact congrArg some h2
   clear h hsz hdf
   go_wp2
   exact ⟨_,rfl,(by first | rfl | (simp;done) | (simp;omega)),Ext.refl _⟩
  ·
   intro ac wx hE hF hsz hdf h
   have e88:ac.tmps[88]?=some (.int .i64 (16*(d:Int)+(e:Int))):=by obtain ⟨v,h1,h2⟩:=h 88 (by decide +kernel);rw [h1];exact congrArg some h2
   have e96:ac.tmps[96]?=some (.int .i64 (16*(d:Int)+(e:Int))):=by obtain ⟨v,h1,h2⟩:=h 96 (by decide +kernel);rw [h1];exact congrArg some h2
   clear h hsz hdf
   rw [HM.out] at e88 e96
   go_wp2_with ((go_at_call 27;refine (refFromS m m (isM m) hm6 hm6 (fun c _=>by unfold isM;rw [Bool.eq_iff_iff];simp only [Bool.and_eq_true,decide_eq_true_eq,beq_iff_eq];omega) _).mono ?_;rintro e9 w9 ⟨rfl,hb9⟩))
   exact ⟨_,rfl,rfl,hb9⟩
  ·
   intro ac wx hE hF hsz hdf h
   have e2:ac.tmps[2]?=some (.pointer (some ⟨gq,0,none⟩)):=by obtain ⟨v,h1,h2⟩:=h 2 (by decide +kernel);exact h1.trans (h2.symm.trans rfl)
   have e97:ac.tmps[97]?=some (.agg (bcs (isM m))):=by obtain ⟨v,h1,h2⟩:=h 97 (by decide +kernel);rw [h1];exact congrArg some h2
   have hB9:=HN6.out.s.keep (hF (.inl rfl))
   clear h hsz hdf
   refine store_set rfl (.tmp 2) (.tmp 97) rfl (g:=gq) (q:=isM m) ?_ ?_ hB9 ?_
   ·simp [Act.eval,e2]
   ·simp [Act.eval,e97]
   ·go_wp2;exact ⟨hB9.row _,Chg.row _ _ _ (by simp)⟩
  ·
   intro ac wx hE hF hsz hdf h
   clear h hsz hdf
   go_wp2
   exact ⟨_,rfl,rfl,Ext.refl _⟩
  ·
   intro ac wx hE hF hsz hdf h
   clear h hsz hdf
   go_wp2
   exact ⟨_,rfl,rfl,Ext.refl _⟩
  ·
   intro ac wx hE hF hsz hdf h
   clear h hsz hdf
   go_wp2
   exact ⟨_,rfl,rfl,Ext.refl _⟩
  ·intro ac w9 hE hsz hdf h hrest
   obtain ⟨v0,s0,g0⟩:=h 0 _ rfl
   have e0:=g0 81 rfl
   obtain rfl:v0=.string ⟨(92 :: c :: a :: b :: r:List UInt8).toArray⟩:=s0
   obtain ⟨v1,s1,g1⟩:=h 1 _ rfl
   have e1:=g1 82 rfl
   obtain rfl:v1=.int .u8 a.toNat:=s1
   obtain ⟨v2,s2,g2⟩:=h 2 _ rfl
   have e2:=g2 83 rfl
   obtain rfl:v2=.int .i64 d:=s2
   obtain ⟨v3,s3,g3⟩:=h 3 _ rfl
   have e3:=g3 84 rfl
   obtain rfl:v3=.int .i64 (16*(d:Int)):=s3
   obtain ⟨v4,s4,g4⟩:=h 4 _ rfl
   have e4:=g4 85 rfl
   obtain rfl:v4=.string ⟨(92 :: c :: a :: b :: r:List UInt8).toArray⟩:=s4
   obtain ⟨v5,s5,g5⟩:=h 5 _ rfl
   have e5:=g5 86 rfl
   obtain rfl:v5=.int .u8 b.toNat:=s5
   obtain ⟨v6,s6,g6⟩:=h 6 _ rfl
   have e6:=g6 87 rfl
   obtain rfl:v6=.int .i64 e:=s6
   obtain ⟨v7,s7,g7⟩:=h 7 _ rfl
   have e7:=g7 88 rfl
   obtain rfl:v7=.int .i64 (16*(d:Int)+(e:Int)):=s7
   obtain ⟨v8,s8,g8⟩:=h 8 _ rfl
   have e8:=g8 89 rfl
   obtain rfl:v8=.string ⟨(92 :: c :: a :: b :: r:List UInt8).toArray⟩:=s8
   obtain ⟨v9,s9,g9⟩:=h 9 _ rfl
   have e9:=g9 90 rfl
   obtain rfl:v9=.int .u8 a.toNat:=s9
   obtain ⟨v10,s10,g10⟩:=h 10 _ rfl
   have e10:=g10 91 rfl
   obtain rfl:v10=.int .i64 d:=s10
   obtain ⟨v11,s11,g11⟩:=h 11 _ rfl
   have e11:=g11 92 rfl
   obtain rfl:v11=.int .i64 (16*(d:Int)):=s11
   obtain ⟨v12,s12,g12⟩:=h 12 _ rfl
   have e12:=g12 93 rfl
   obtain rfl:v12=.string ⟨(92 :: c :: a :: b :: r:List UInt8).toArray⟩:=s12
   obtain ⟨v13,s13,g13⟩:=h 13 _ rfl
   have e13:=g13 94 rfl
   obtain rfl:v13=.int .u8 b.toNat:=s13
   obtain ⟨v14,s14,g14⟩:=h 14 _ rfl
   have e14:=g14 95 rfl
   obtain rfl:v14=.int .i64 e:=s14
   obtain ⟨v15,s15,g15⟩:=h 15 _ rfl
   have e15:=g15 96 rfl
   obtain rfl:v15=.int .i64 (16*(d:Int)+(e:Int)):=s15
   obtain ⟨v16,s16,g16⟩:=h 16 _ rfl
   have e16:=g16 97 rfl
   obtain rfl:v16=bp (isM m):=s16
   obtain ⟨v17,s17,-⟩:=h 17 _ rfl
   replace s17:BB w9 gq (isM m):=s17
   obtain ⟨v18,s18,g18⟩:=h 18 _ rfl
   have e18:=g18 3 rfl
   obtain rfl:v18=.bool true:=s18
   obtain ⟨v19,s19,g19⟩:=h 19 _ rfl
   have e19:=g19 4 rfl
   obtain rfl:v19=.int .i64 4:=s19
   obtain ⟨v20,s20,g20⟩:=h 20 _ rfl
   have e20:=g20 5 rfl
   obtain rfl:v20=.int .i64 0:=s20
   have ha:=act_of [(81,.string ⟨(92 :: c :: a :: b :: r:List UInt8).toArray⟩),(82,.int .u8 a.toNat),(83,.int .i64 d),(84,.int .i64 (16*(d:Int))),(85,.string ⟨(92 :: c :: a :: b :: r:List UInt8).toArray⟩),(86,.int .u8 b.toNat),(87,.int .i64 e),(88,.int .i64 (16*(d:Int)+(e:Int))),(89,.string ⟨(92 :: c :: a :: b :: r:List UInt8).toArray⟩),(90,.int .u8 a.toNat),(91,.int .i64 d),(92,.int .i64 (16*(d:Int))),(93,.string ⟨(92 :: c :: a :: b :: r:List UInt8).toArray⟩),(94,.int .u8 b.toNat),(95,.int .i64 e),(96,.int .i64 (16*(d:Int)+(e:Int))),(97,bp (isM m)),(3,.bool true),(4,.int .i64 4),(5,.int .i64 0)] rfl hsz hdf (by intro p hp;simp only [List.mem_cons,List.not_mem_nil,or_false] at hp;rcases hp with rfl | rfl | rfl | rfl | rfl | rfl | rfl | rfl | rfl | rfl | rfl | rfl | rfl | rfl | rfl | rfl | rfl | rfl | rfl | rfl <;> first | exact e0 | exact e1 | exact e2 | exact e3 | exact e4 | exact e5 | exact e6 | exact e7 | exact e8 | exact e9 | exact e10 | exact e11 | exact e12 | exact e13 | exact e14 | exact e15 | exact e16 | exact e18 | exact e19 | exact e20) hrest
   clear h hrest hsz hdf e0 e1 e2 e3 e4 e5 e6 e7 e8 e9 e10 e11 e12 e13 e14 e15 e16 e18 e19 e20 g0 g1 g2 g3 g4 g5 g6 g7 g8 g9 g10 g11 g12 g13 g14 g15 g16 g18 g19 g20
   subst ha
   simp only [List.foldl_cons,List.foldl_nil,Act.put,List.setIfInBounds_toArray,List.set_cons_succ,List.set_cons_zero]
   go_wp2
   exact bodyPost_ret (v:=.tuple #[bp (isM m),.bool true,.int .i64 4,.int .i64 0]) (results_bp4 rfl rfl s17 rfl rfl rfl) rfl ⟨by rw [HR.out,HM2.out];unfold isM;rfl,hE.below HN6.out.x HN6.out.x.size (by intro x hx;simp at hx;rw [hx,HG.out];exact Nat.le_refl _)⟩
 have d120:((c.toNat:Int) == 120)=false:=by simp;omega
 have n120:¬ c.toNat=120:=hk
 clear hk
 have HR:Hid (escS (92 :: c :: r)=if isLet c.toNat || isFig c.toNat then .bad 5 else .byte c.toNat 2):=Lib.hid (by unfold escS escC;simp [n110,n114,n116,n100,n119,n115,n120])
 clear n110 n114 n116 n100 n119 n115 n120
 cases hl:isLet c.toNat
 ·cases hf:isFig c.toNat
  ·have HR2:=Lib.hid (HR.out.trans (show _=Sg.byte c.toNat 2 by rw [hl,hf];rfl))
   have hcl:=HN6.out.l.cell hc6
   have hcf:=HN6.out.f.cell hc6
   rw [hl] at hcl
   rw [hf] at hcf
   clear HR
   have HR:=HR2
   clear hl hf
   go_wp2_with (refine store_set rfl (.tmp 7) (.tmp 29) rfl (g:=w5.heap.size) rfl rfl (BB.zero rfl) ?_;generalize (w5.alloc (.cells Tryz.zeroCells35 35)).setRow w5.heap.size (bcs isLet)=w6 at *;generalize w5.heap.size=gl at *)
   go_at_call 25
   refine (refInS [c] (isM c.toNat) (by simp) (in_isM c) _).mono ?_
   rintro e w7 ⟨rfl,hx7⟩
   unfold bp
   have hS9:=HN6.out.s.keep hx7
   have HX9:=Lib.hid (HN6.out.x.trans hx7)
   go_wp2_with (refine store_set rfl (.tmp 2) (.tmp 111) rfl (g:=gq) rfl rfl hS9 ?_)
   exact bodyPost_ret (v:=.tuple #[bp (isM c.toNat),.bool true,.int .i64 2,.int .i64 0]) (results_bp4 rfl rfl (hS9.row _) rfl rfl rfl) rfl ⟨by rw [HR.out];unfold isM;rfl,HX9.out.row _ _ (by rw [HG.out];exact Nat.le_refl _)⟩
  ·have HR2:=Lib.hid (HR.out.trans (show _=Sg.bad 5 by rw [hl,hf];rfl))
   have hcl:=HN6.out.l.cell hc6
   have hcf:=HN6.out.f.cell hc6
   rw [hl] at hcl
   rw [hf] at hcf
   clear hl hf HR
   have HR:=HR2
   go_wp2_with (first | (refine store_set rfl (.tmp 7) (.tmp 29) rfl (g:=w5.heap.size) rfl rfl (BB.zero rfl) ?_;generalize (w5.alloc (.cells Tryz.zeroCells35 35)).setRow w5.heap.size (bcs isLet)=w6 at *;generalize w5.heap.size=gl at *) | (refine store_set rfl (.tmp 2) (.tmp 108) rfl (g:=gq) (q:=fun _=>false) rfl (by rw [← zero28];rfl) HN6.out.s ?_))
   exact bodyPost_ret (v:=.tuple #[bp (fun _=>false),.bool false,.int .i64 0,.int .i64 5]) (results_bp4 rfl rfl (HN6.out.s.row _) rfl rfl rfl) rfl ⟨by rw [HR.out];rfl,HN6.out.x.row _ _ (by rw [HG.out];exact Nat.le_refl _)⟩
 ·have HR2:=Lib.hid (HR.out.trans (show _=Sg.bad 5 by rw [hl];rfl))
  have hcl:=HN6.out.l.cell hc6
  rw [hl] at hcl
  clear hl HR
  have HR:=HR2
  go_wp2_with (first | (refine store_set rfl (.tmp 7) (.tmp 29) rfl (g:=w5.heap.size) rfl rfl (BB.zero rfl) ?_;generalize (w5.alloc (.cells Tryz.zeroCells35 35)).setRow w5.heap.size (bcs isLet)=w6 at *;generalize w5.heap.size=gl at *) | (refine store_set rfl (.tmp 2) (.tmp 108) rfl (g:=gq) (q:=fun _=>false) rfl (by rw [← zero28];rfl) HN6.out.s ?_))
  exact bodyPost_ret (v:=.tuple #[bp (fun _=>false),.bool false,.int .i64 0,.int .i64 5]) (results_bp4 rfl rfl (HN6.out.s.row _) rfl rfl rfl) rfl ⟨by rw [HR.out];rfl,HN6.out.x.row _ _ (by rw [HG.out];exact Nat.le_refl _)⟩
end Go.Proofs.YtigmdlchbjanoaaGreatDoor
