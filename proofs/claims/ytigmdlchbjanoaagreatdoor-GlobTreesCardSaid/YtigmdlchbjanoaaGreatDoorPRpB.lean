/- Put together: Cl32, Cl33. -/
import Derived.Test.YtigmdlchbjanoaaGreatDoorPRpA
import Derived.Test.YtigmdlchbjanoaaGreatDoorPTgK
import Derived.Deep.DeepCutAuto
import Derived.Deep.LoopGhost
import Derived.BigQuiet
import Derived.WalkSmall
namespace Go.Proofs.YtigmdlchbjanoaaGreatDoor
open Go Go.RowKit
set_option maxHeartbeats 4000000 in
set_option maxRecDepth 20000 in
theorem refEscape (l:List UInt8) (hlen:l.length≤10000) (w:World) :
  Calls Tryz.prog 29 #[.string ⟨l.toArray⟩] w fun e w'=>e=.returned (sgB (escS l))∧Ext w w':=by
 have hS0:=BB.zero (w:=w) rfl
 have hx0:=Ext.new1 w (.cells Tryz.zeroCells35 35)
 have HS0:=Lib.hid hS0
 have HX0:=Lib.hid hx0
 clear hS0 hx0
 rcases l with _ | ⟨a,r⟩
 focus
  go_enter Tryz.func29,Tryz.ntmps29
  go_wp2_with (refine store_set rfl (.tmp 2) (.tmp 21) rfl (g:=w.heap.size) (q:=fun _=>false) rfl (by rw [← zero28];rfl) HS0.out ?_)
  exact bodyPost_ret (v:=.tuple #[bp (fun _=>false),.bool false,.int .i64 0,.int .i64 3]) (results_bp4 rfl rfl (HS0.out.row _) rfl rfl rfl) rfl ⟨by rfl,HX0.out.row _ _ (Nat.le_refl _)⟩
 by_cases ha:a.toNat=92
 ·rcases r with _ | ⟨c,r⟩
  focus
   have HR:=Lib.hid (show escS [a]=.bad 3 by unfold escS;simp [ha])
   have haa:((a.toNat:Int) == 92)=true:=by simp [ha]
   have HA:=Lib.hid ha
   clear ha
   go_enter Tryz.func29,Tryz.ntmps29
   go_wp2_with (refine store_set rfl (.tmp 2) (.tmp 21) rfl (g:=w.heap.size) (q:=fun _=>false) rfl (by rw [← zero28];rfl) HS0.out ?_)
   exact bodyPost_ret (v:=.tuple #[bp (fun _=>false),.bool false,.int .i64 0,.int .i64 3]) (results_bp4 rfl rfl (HS0.out.row _) rfl rfl rfl) rfl ⟨by rw [HR.out];rfl,HX0.out.row _ _ (Nat.le_refl _)⟩
  obtain rfl:a=92:=UInt8.toNat_inj.1 ha
  exact refEscape2 c r hlen w
 ·have HR:=Lib.hid (show escS (a :: r)=.bad 5 by unfold escS;simp [ha])
  have haa:((a.toNat:Int) == 92)=false:=by simp;omega
  have hn0:((r.length:Int)+1 == 0)=false:=by simp;omega
  clear ha
  go_enter Tryz.func29,Tryz.ntmps29
  go_wp2_with (refine store_set rfl (.tmp 2) (.tmp 25) rfl (g:=w.heap.size) (q:=fun _=>false) rfl (by rw [← zero28];rfl) HS0.out ?_)
  exact bodyPost_ret (v:=.tuple #[bp (fun _=>false),.bool false,.int .i64 0,.int .i64 5]) (results_bp4 rfl rfl (HS0.out.row _) rfl rfl rfl) rfl ⟨by rw [HR.out];rfl,HX0.out.row _ _ (Nat.le_refl _)⟩
set_option maxHeartbeats 4000000 in
set_option maxRecDepth 20000 in
theorem refSgn (l:List UInt8) (hlen:l.length≤10000) (w:World) :
  Calls Tryz.prog 49 #[.string ⟨l.toArray⟩] w fun e w'=>e=.returned (sgB (signS l))∧Ext w w':=by
 have hS0:=BB.zero (w:=w) rfl
 have hx0:=Ext.new1 w (.cells Tryz.zeroCells35 35)
 have HS0:=Lib.hid hS0
 have HX0:=Lib.hid hx0
 clear hS0 hx0
 rcases l with _ | ⟨a,r⟩
 focus
  go_enter Tryz.func49,Tryz.ntmps49
  go_wp2_with (refine store_set rfl (.tmp 2) (.tmp 9) rfl (g:=w.heap.size) (q:=fun _=>false) rfl (by rw [← zero28];rfl) HS0.out ?_)
  exact bodyPost_ret (v:=.tuple #[bp (fun _=>false),.bool false,.int .i64 0,.int .i64 3]) (results_bp4 rfl rfl (HS0.out.row _) rfl rfl rfl) rfl ⟨by rfl,HX0.out.row _ _ (Nat.le_refl _)⟩
 have hn0:((r.length:Int)+1 == 0)=false:=by simp;omega
 by_cases h93:a.toNat=93
 focus
  have HR:=Lib.hid (show signS (a :: r)=.bad 5 by unfold signS;simp [h93])
  have haa:((a.toNat:Int) == 93)=true:=by simp [h93]
  have HA:=Lib.hid h93
  clear h93
  go_enter Tryz.func49,Tryz.ntmps49
  go_wp2_with (refine store_set rfl (.tmp 2) (.tmp 18) rfl (g:=w.heap.size) (q:=fun _=>false) rfl (by rw [← zero28];rfl) HS0.out ?_)
  exact bodyPost_ret (v:=.tuple #[bp (fun _=>false),.bool false,.int .i64 0,.int .i64 5]) (results_bp4 rfl rfl (HS0.out.row _) rfl rfl rfl) rfl ⟨by rw [HR.out];rfl,HX0.out.row _ _ (Nat.le_refl _)⟩
 have d93:((a.toNat:Int) == 93)=false:=by simp;omega
 by_cases h45:a.toNat=45
 focus
  have HR:=Lib.hid (show signS (a :: r)=.bad 5 by unfold signS;simp [h45])
  have haa:((a.toNat:Int) == 45)=true:=by simp [h45]
  have HA:=Lib.hid h45
  clear h45 h93
  go_enter Tryz.func49,Tryz.ntmps49
  go_wp2_with (refine store_set rfl (.tmp 2) (.tmp 18) rfl (g:=w.heap.size) (q:=fun _=>false) rfl (by rw [← zero28];rfl) HS0.out ?_)
  exact bodyPost_ret (v:=.tuple #[bp (fun _=>false),.bool false,.int .i64 0,.int .i64 5]) (results_bp4 rfl rfl (HS0.out.row _) rfl rfl rfl) rfl ⟨by rw [HR.out];rfl,HX0.out.row _ _ (Nat.le_refl _)⟩
 have d45:((a.toNat:Int) == 45)=false:=by simp;omega
 by_cases h92:a.toNat=92
 focus
  have HR:=Lib.hid (show signS (a :: r)=escS (a :: r) by unfold signS;simp [h92])
  have haa:((a.toNat:Int) == 92)=true:=by simp [h92]
  have HA:=Lib.hid h92
  have HL:=Lib.hid hlen
  clear h45 h93 h92 hlen
  go_enter Tryz.func49,Tryz.ntmps49
  go_wp2_with (first
   | (go_at_call 29;refine (refEscape (a :: r) HL.out _).mono ?_;rintro e w1 ⟨rfl,hx1⟩;unfold sgB bp)
   | (refine store_set rfl (.tmp 2) (.tmp 24) rfl (g:=w.heap.size) rfl rfl (HS0.out.keep hx1) ?_))
  exact bodyPost_ret (v:=sgB (escS (a :: r))) (results_bp4 rfl rfl ((HS0.out.keep hx1).row _) rfl rfl rfl) rfl ⟨by rw [HR.out],(Ext.trans HX0.out hx1).row _ _ (Nat.le_refl _)⟩
 have d92:((a.toNat:Int) == 92)=false:=by simp;omega
 have HR:=Lib.hid (show signS (a :: r)=.byte a.toNat 1 by unfold signS;simp [h92,h93,h45])
 clear h45 h93 h92
 go_enter Tryz.func49,Tryz.ntmps49
 go_wp2_with (first
   | (go_at_call 25;refine (refInS [a] (isM a.toNat) (by simp) (in_isM a) _).mono ?_;rintro e w1 ⟨rfl,hx1⟩;unfold bp)
   | (refine store_set rfl (.tmp 2) (.tmp 30) rfl (g:=w.heap.size) rfl rfl (HS0.out.keep hx1) ?_))
 exact bodyPost_ret (v:=.tuple #[bp (isM a.toNat),.bool true,.int .i64 1,.int .i64 0]) (results_bp4 rfl rfl ((HS0.out.keep hx1).row _) rfl rfl rfl) rfl ⟨by rw [HR.out];rfl,(Ext.trans HX0.out hx1).row _ _ (Nat.le_refl _)⟩
end Go.Proofs.YtigmdlchbjanoaaGreatDoor
namespace Go.Proofs.YtigmdlchbjanoaaGreatDoor
open Go Go.RowKit
theorem results_bp3 {fn:Func} {p a b:Tmp} (h:fn.results=#[.cell p 35,.tmp a,.tmp b]) {tmps:Array Value} {w:World} {g:Nat} {q:Nat→Bool} {va vb:Value}
  (hp:tmps.getD p undef=.pointer (some ⟨g,0,none⟩)) (hg:BB w g q) (ha:tmps.getD a undef=va) (hb:tmps.getD b undef=vb):(results fn tmps).run Tryz.prog w=.ok (.tuple #[bp q,va,vb]) w:=by
 have hp':tmps[p]?.getD undef=.pointer (some ⟨g,0,none⟩):=by simpa using hp
 have hl:(loadVar 35 ⟨g,0,none⟩).run Tryz.prog w=.ok (bp q) w:=
  run_loadVar_row w g _ _ (bcs q) (0,0) _ hg Tryz.underlying35 rfl (by rw [bcs_size];exact set_size)
 subst ha hb
 simp [results,h,hp',asAddr,hl]
def parseB (r:(Nat→Bool) × Nat × Nat):Value:=.tuple #[bp r.1,.int .i64 (r.2.1:Nat),.int .i64 (r.2.2:Nat)]
theorem load_setH {w:World} {ops:Array Oper} {rest:List Oper} {o:Oper} {a:Act} {Q:Exit→Act→World→Prop} {j:Nat} {b:Bool} {d:Nat} (hgd:o.guard=some (j,b)) (hj:(ops[j]?).bind (·.dst)=some d) (hd:a.tmps[d]?=some (.bool b))
  (x:Operand) (ho:o.op=.load 35 x) {g:Nat} {p:Nat→Bool} (hx:a.eval x=.pointer (some ⟨g,0,none⟩)) (hg:BB w g p) (h:wpList Tryz.prog ops Q rest (a.put o.dst (.agg (bcs p))) w):wpList Tryz.prog ops Q (o :: rest) a w:=
 wpList_step fun K hK=>by
  rw [if_pos (by simp [Region.wanted,hgd,yielded,hj,hd])]
  exact wp_load_row _ x ho g hx _ (bcs p) _ _ hg Tryz.underlying35 rfl (by rw [bcs_size];exact set_size) (hK _ _ h)
theorem refLeast1 (m:Nat) (hm:m<256) (w:World):Calls Tryz.prog 50 #[bp (fun j=>j == m)] w fun e w'=>e=.returned (.int .i64 (m:Nat))∧Ext w w':=
 refLeast _ m hm (by simp) (fun j hj=>by simp;omega) w
section
variable {d:List UInt8}
theorem item_bad {k:Nat} (h:signS d=.bad k):itemS d=(fun _=>false,0,k):=by unfold itemS;rw [h]
theorem item_cls {p:Nat→Bool} {n:Nat} (h:signS d=.cls p n):itemS d=(p,n,0):=by unfold itemS;rw [h]
theorem item_byte {m n:Nat} (h:signS d=.byte m n) (h45:¬ d[n]?=some 45):itemS d=(fun j=>j == m,n,0):=by unfold itemS;rw [h];simp only [if_neg h45]
theorem item_rbad {m n k:Nat} (h:signS d=.byte m n) (h45:d[n]?=some 45) (h2:signS (d.drop (n+1))=.bad k):itemS d=(fun _=>false,0,k):=by unfold itemS;rw [h];simp only [if_pos h45,h2]
theorem item_rcls {m n k:Nat} {p:Nat→Bool} (h:signS d=.byte m n) (h45:d[n]?=some 45) (h2:signS (d.drop (n+1))=.cls p k):itemS d=(fun _=>false,0,5):=by unfold itemS;rw [h];simp only [if_pos h45,h2]
theorem item_rlt {m n m' k:Nat} (h:signS d=.byte m n) (h45:d[n]?=some 45) (h2:signS (d.drop (n+1))=.byte m' k) (hm:m' < m):itemS d=(fun _=>false,0,5):=by unfold itemS;rw [h];simp only [if_pos h45,h2,if_pos hm]
theorem item_range {m n m' k:Nat} (h:signS d=.byte m n) (h45:d[n]?=some 45) (h2:signS (d.drop (n+1))=.byte m' k) (hm:¬ m' < m):itemS d=(fun j=>decide (m≤j) && decide (j≤m'),n+1+k,0):=by unfold itemS;rw [h];simp only [if_pos h45,h2,if_neg hm]
end
set_option maxHeartbeats 8000000 in
set_option maxRecDepth 20000 in
theorem refParse91 (t:List UInt8) (hlen:(91 :: t:List UInt8).length≤10000) (w:World) :
  Calls Tryz.prog 28 #[.string ⟨(91 :: t:List UInt8).toArray⟩] w fun e w'=>e=.returned (parseB (parseS (91 :: t)))∧Ext w w':=by
 obtain ⟨b,hb⟩:∃ b,decide ((91 :: t:List UInt8)[1]?=some 94)=b:=⟨_,rfl⟩
 obtain ⟨l,hl⟩:∃ l:List UInt8,91 :: t=l:=⟨_,rfl⟩
 obtain ⟨bg,hbg⟩:∃ bg:Nat,(if b then 2 else 1)=bg:=⟨_,rfl⟩
 obtain ⟨R,hRR⟩:∃ R,goS l bg (l.length+1) bg (fun _=>false)=R:=⟨_,rfl⟩
 have hres:=parse_some t b hb R (by rw [hl,hbg];exact hRR)
 have hl0:0<l.length:=by rw [← hl];simp
 have hl91:l[0]'hl0=91:=by simp only [← hl];rfl
 rw [hl] at hlen hres hb ⊢
 have hbk:1≤bg∧bg≤l.length:=by
  cases b
  ·simp at hbg;omega
  ·have:=(List.getElem?_eq_some_iff.1 (of_decide_eq_true hb)).1
   simp at hbg;omega
 have hz0:((l.length:Int) == 0)=false:=by rw [beq_eq_false_iff_ne];omega
 have HRES:=Lib.hid hres
 have HB:=Lib.hid hb
 have HBG:=Lib.hid hbg
 have HRR:=Lib.hid hRR
 clear hres hl hb hbg hRR
 have hS0:=Lib.hid (BB.zero (w:=w) rfl)
 have hx0:=Lib.hid (Ext.new1 w (.cells Tryz.zeroCells35 35))
 have hG0:=Lib.hid (Nat.le_refl w.heap.size)
 go_enter Tryz.func28,Tryz.ntmps28
 go_upto_region 6 with fail
 generalize hgw:w.heap.size=gq at *
 generalize w.alloc (.cells Tryz.zeroCells35 35)=w0 at *
 have HG:=Lib.hid hgw
 clear hgw hz0
 go_cut [6] (fun v wx=>v=.bool b∧wx=w0)
 case first =>
  by_cases h1:1<l.length
  ·have h1':(1:Int)<(l.length:Int):=by omega
   obtain ⟨c,hc⟩:∃ c,l[1]'h1=c:=⟨_,rfl⟩
   have hc94:((c.toNat:Int) == 94)=b:=by
    rw [← HB.out,List.getElem?_eq_getElem h1,hc,Bool.eq_iff_iff]
    simp only [beq_iff_eq,decide_eq_true_eq,Option.some.injEq]
    constructor
    ·intro h;exact UInt8.toNat_inj.1 (by show c.toNat=94;omega)
    ·intro h;rw [h];rfl
   cases b <;> (go_wp2_with fail;go_meet;exact ⟨rfl,rfl⟩)
  ·have h1':¬ (1:Int)<(l.length:Int):=by omega
   have hbf:b=false:=by rw [← HB.out,List.getElem?_eq_none (by omega)];rfl
   subst hbf
   go_wp2_with fail
   go_meet
   exact ⟨rfl,rfl⟩
 case rest =>
  obtain ⟨rfl,rfl⟩:=hcut
  go_upto_if 33 with fail
  generalize wc=w0 at *
  go_cut [5] (fun v wx=>v=.int .i64 (bg:Nat)∧wx=w0)
  case first =>
   have HBG':=HBG.out
   cases b
   ·have hb2:(1:Int)=(bg:Int):=by simp at HBG';omega
    clear HBG'
    go_wp2_with fail
    go_meet
    exact ⟨by rw [← hb2],rfl⟩
   ·have hb2:(2:Int)=(bg:Int):=by simp at HBG';omega
    clear HBG'
    go_wp2_with fail
    go_meet
    exact ⟨by rw [← hb2],rfl⟩
  case rest =>
   obtain ⟨rfl,rfl⟩:=hcut
   generalize wc=w0 at *
   go_wp2_with (refine store_set rfl (.tmp 7) (.tmp 34) rfl (g:=w0.heap.size) (q:=fun _=>false) rfl (by rw [← zero28];rfl) (BB.zero rfl) ?_)
   have hO:=(made w0 (fun _=>false)).1
   have hxO:=(made w0 (fun _=>false)).2
   have hS1:=hS0.out.keep hxO
   have hx1:=Ext.trans hx0.out hxO
   generalize (w0.alloc (.cells Tryz.zeroCells35 35)).setRow w0.heap.size (bcs fun _=>false)=w1 at *
   generalize hgo:w0.heap.size=go at *
   have hgq:gq<go:=by rw [← hgo];exact hS0.out.lt
   have HS1:=Lib.hid hS1
   have HX1:=Lib.hid hx1
   have HO1:=Lib.hid hO
   clear hS0 hx0 hO hS1 hx1 hxO hgo
   go_loopg [5,8] (l.length+1-bg) (fun g av iv wr=>∃ (k f it:Nat) (x:Nat→Bool),bg≤k∧k≤l.length∧g=l.length+1-k∧l.length+1≤f+k∧goS l bg f k x=R∧av=.int .i64 (k:Nat)∧iv=.int .i64 (it:Nat)∧(it=0↔k=bg)∧it≤k∧BB wr go x∧BB wr gq (fun _=>false)∧Ext w wr)
   case atStart=>exact ⟨bg,l.length+1,0,fun _=>false,Nat.le_refl _,hbk.2,rfl,by omega,HRR.out,rfl,rfl,by simp,by omega,HO1.out,HS1.out,HX1.out⟩
   case round =>
    obtain ⟨k,f,it,x,hk1,hk2,rfl,hf,hg,rfl,rfl,hit,hitk,hO,hS,hx⟩:=hrel
    obtain ⟨f',rfl⟩:∃ f',f=f' + 1:=⟨f-1,by omega⟩
    rw [goS_at] at hg
    have HO:=Lib.hid hO
    have HS:=Lib.hid hS
    have HX:=Lib.hid hx
    clear hO hS hx HO1 HS1 HX1
    by_cases hend:k ≠ bg∧l[k]?=some 93
    ·rw [if_pos hend] at hg
     have hkl:=(List.getElem?_eq_some_iff.1 hend.2).1
     have hkl':(k:Int)<(l.length:Int):=by omega
     have hcc:(((l[k]'hkl).toNat:Int) == 93)=true:=by rw [(List.getElem?_eq_some_iff.1 hend.2).2];rfl
     have hit0:(0:Int)<(it:Int):=by
      have:it ≠ 0:=fun e=>hend.1 (hit.1 e)
      omega
     have HR:Hid (parseB (parseS l)=.tuple #[bp (notP b x),.int .i64 ((k:Int)+1),.int .i64 0]):=Lib.hid (by rw [HRES.out,← hg];rfl)
     have hw1:IntKind.i64.wrap ((k:Int)+1)=(k:Int)+1:=wrap_id (by omega) (by omega)
     clear hg hend hit hitk hf
     cases b
     ·go_wp2_with (first | (refine load_set rfl (.tmp 7) rfl (g:=go) rfl HO.out ?_) | (refine store_set rfl (.tmp 2) (.tmp 52) rfl (g:=gq) rfl rfl HS.out ?_))
      exact bodyPost_ret (v:=.tuple #[bp x,.int .i64 ((k:Int)+1),.int .i64 0]) (results_bp3 rfl rfl (HS.out.row _) rfl rfl) rfl ⟨by rw [HR.out];rfl,HX.out.row _ _ (by rw [HG.out];exact Nat.le_refl _)⟩
     ·go_wp2_with (first
       | (go_at_call 48;refine (refNot x _).mono ?_;rintro e w2 ⟨rfl,hx2⟩;unfold bp)
       | (have:=hx2;refine load_set rfl (.tmp 7) rfl (g:=go) rfl ((HO.out.keep hx2).row _) ?_)
       | (refine load_set rfl (.tmp 7) rfl (g:=go) rfl HO.out ?_)
       | (refine store_set rfl (.tmp 7) (.tmp 51) rfl (g:=go) rfl rfl (HO.out.keep hx2) ?_)
       | (refine store_set rfl (.tmp 2) (.tmp 52) rfl (g:=gq) rfl rfl ((HS.out.keep hx2).rowFar _ (by omega)) ?_))
      exact bodyPost_ret (v:=.tuple #[bp (notP true x),.int .i64 ((k:Int)+1),.int .i64 0]) (results_bp3 rfl rfl (((HS.out.keep hx2).rowFar _ (by omega)).row _) rfl rfl) rfl ⟨by rw [HR.out],((Ext.trans HX.out hx2).row _ _ (by rw [HG.out];omega)).row _ _ (by rw [HG.out];exact Nat.le_refl _)⟩
    rw [if_neg hend] at hg
    go_upto_region 10 with fail
    go_cut [48] (fun v wx=>v=.bool false∧wx=wr)
    case first =>
     by_cases h1:k<l.length
     ·have h1':(k:Int)<(l.length:Int):=by omega
      by_cases h2:l[k]'h1=93
      ·have hcc:(((l[k]'h1).toNat:Int) == 93)=true:=by rw [h2];rfl
       have hit0:it=0:=hit.2 (by
        by_cases e:k=bg
        ·exact e
        ·exact absurd ⟨e,by rw [List.getElem?_eq_getElem h1,h2]⟩ hend)
       subst hit0
       clear hg hend hit hitk
       go_wp2_with fail
       go_meet
       exact ⟨rfl,rfl⟩
      ·have hcc:(((l[k]'h1).toNat:Int) == 93)=false:=by
        rw [beq_eq_false_iff_ne]
        intro e
        exact h2 (UInt8.toNat_inj.1 (by show (l[k]'h1).toNat=93;omega))
       clear hg hend hit hitk
       go_wp2_with fail
       go_meet
       exact ⟨rfl,rfl⟩
     ·have h1':¬ (k:Int)<(l.length:Int):=by omega
      clear hg hend hit hitk
      go_wp2_with fail
      go_meet
      exact ⟨rfl,rfl⟩
    case rest =>
     obtain ⟨rfl,rfl⟩:=hcut
     generalize wc=wr at *
     clear hend
     have hkn:l.length-k≤10000:=by omega
     have hk2':(k:Int)≤(l.length:Int):=by omega
     have HGo:=Lib.hid hg
     have HIT:=Lib.hid hit
     clear hg hit
     have hfit:=sign_fits (l.drop k)
     rcases hsg:signS (l.drop k) with k1 | ⟨m,n⟩ | ⟨p,n⟩
     ·rw [hsg] at hfit
      have hfit:k1=3∨k1=5:=hfit
      have hR:R=(fun _=>false,0,k1):=by
       rw [← HGo.out,item_bad hsg]
       exact if_pos (by show k1 ≠ 0;omega)
      have HR:=Lib.hid (show parseB (parseS l)=.tuple #[bp (fun _=>false),.int .i64 0,.int .i64 (k1:Nat)] by
       rw [HRES.out,hR,if_neg (by show ¬ k1=0;omega)];rfl)
      have hk0:((k1:Int) != 0)=true:=by simp;omega
      have HSG:=Lib.hid hsg
      clear hR hfit hsg HGo
      go_wp2_with (first
       | (go_at_call 49;refine (refSgn (l.drop k) (by rw [List.length_drop];exact hkn) _).mono ?_;rintro e w2 ⟨rfl,hx2⟩;rw [HSG.out];simp only [sgB,Sg.set,Sg.one,Sg.size,Sg.err,bp])
       | (have:=hS3;refine store_set rfl (.tmp 2) (.tmp 66) rfl (g:=gq) (q:=fun _=>false) rfl (by rw [← zero28];rfl) hS3.out ?_)
       | (refine store_set rfl (.tmp 9) (.tmp 60) rfl (g:=w2.heap.size) rfl rfl (BB.zero rfl) ?_;have hS3:=Lib.hid ((HS.out.keep hx2).keep (made w2 (fun _=>false)).2);have hX3:=Lib.hid (Ext.trans (Ext.trans HX.out hx2) (made w2 (fun _=>false)).2);generalize (w2.alloc (.cells Tryz.zeroCells35 35)).setRow w2.heap.size (bcs fun _=>false)=w3 at *;generalize w2.heap.size=gx at *))
      exact bodyPost_ret (v:=.tuple #[bp (fun _=>false),.int .i64 0,.int .i64 (k1:Nat)]) (results_bp3 rfl rfl (hS3.out.row _) rfl rfl) rfl ⟨by rw [HR.out],hX3.out.row _ _ (by rw [HG.out];exact Nat.le_refl _)⟩
     ·rw [hsg] at hfit
      have hfit:m<256∧1≤n∧n≤(l.drop k).length:=hfit
      rw [List.length_drop] at hfit
      obtain ⟨hm6,hn1,hn2⟩:=hfit
      obtain ⟨kn,hkn2⟩:∃ kn,k+n=kn:=⟨_,rfl⟩
      obtain ⟨c45,hc45⟩:∃ c,decide (l[kn]?=some 45)=c:=⟨_,rfl⟩
      have hk0:(((0:Nat):Int) != 0)=false:=rfl
      have HSG:=Lib.hid hsg
      have hw1:IntKind.i64.wrap ((k:Int)+(n:Int))=(k:Int)+(n:Int):=wrap_id (by omega) (by omega)
      have hw2:IntKind.i64.wrap ((it:Int)+1)=(it:Int)+1:=wrap_id (by omega) (by omega)
      have HC:=Lib.hid hc45
      have HKN:=Lib.hid hkn2
      clear hsg hc45 hkn2
      go_upto_region 19 with (first | (go_at_call 49;refine (refSgn (l.drop k) (by rw [List.length_drop];exact hkn) _).mono ?_;rintro e w2 ⟨rfl,hx2⟩;rw [HSG.out];simp only [sgB,Sg.set,Sg.one,Sg.size,Sg.err,bp]) | (refine store_set rfl (.tmp 9) (.tmp 60) rfl (g:=w2.heap.size) rfl rfl (BB.zero rfl) ?_;have hP3:=Lib.hid (made w2 (fun j=>j == m)).1;have hO3:=Lib.hid ((HO.out.keep hx2).keep (made w2 (fun j=>j == m)).2);have hS3:=Lib.hid ((HS.out.keep hx2).keep (made w2 (fun j=>j == m)).2);have hX3:=Lib.hid (Ext.trans (Ext.trans HX.out hx2) (made w2 (fun j=>j == m)).2);have hgx:=Lib.hid (Nat.lt_of_lt_of_le HO.out.lt hx2.size);generalize (w2.alloc (.cells Tryz.zeroCells35 35)).setRow w2.heap.size (bcs fun j=>j == m)=w3 at *;generalize w2.heap.size=gx at *))
      go_cut [5,85] (fun v5 v wx=>v5=.int .i64 (kn:Nat)∧v=.bool c45∧wx=w3)
      case first =>
       have hkn3:=HKN.out
       have hkc:(k:Int)+(n:Int)=((kn:Nat):Int):=by omega
       by_cases h1:k+n<l.length
       ·have h1':(k:Int)+(n:Int)<(l.length:Int):=by omega
        have hcc:(((l[k+n]'h1).toNat:Int) == 45)=c45:=by
         have h2:=HC.out
         rw [← hkn3,List.getElem?_eq_getElem h1] at h2
         rw [← h2,Bool.eq_iff_iff]
         simp only [beq_iff_eq,decide_eq_true_eq,Option.some.injEq]
         constructor
         ·intro h;exact UInt8.toNat_inj.1 (by show (l[k+n]'h1).toNat=45;omega)
         ·intro h;rw [h];rfl
        have HKC:=Lib.hid hkc
        clear hkn3 hkc
        cases c45 <;> (go_wp2_with fail;go_meet;exact ⟨by rw [HKC.out],rfl,rfl⟩)
       ·have h1':¬ (k:Int)+(n:Int)<(l.length:Int):=by omega
        have hcf:c45=false:=by rw [← HC.out,List.getElem?_eq_none (by omega)];rfl
        subst hcf
        have HKC:=Lib.hid hkc
        clear hkn3 hkc
        go_wp2_with fail
        go_meet
        exact ⟨by rw [HKC.out],rfl,rfl⟩
      case rest =>
       obtain ⟨rfl,rfl,hwc⟩:=hcut
       obtain rfl:w3=wc:=hwc.symm
       clear hwc
       have hkn3:=HKN.out
       cases c45
       ·have HGn:Hid (goS l bg f' kn (fun j=>x j || j == m)=R):=Lib.hid (by
         rw [← HGo.out,item_byte HSG.out (by rw [List.getElem?_drop,HKN.out];exact of_decide_eq_false HC.out),← HKN.out]
         exact (if_neg (by simp)).symm)
        clear HGo hfit hw1 hkn3
        go_wp2_with (first
         | (have:=hxo;refine store_set rfl (.tmp 7) (.tmp 121) rfl (g:=go) rfl rfl (hO3.out.keep hxo) ?_)
         | (go_at_call 51;refine (refOr x (fun j=>j == m) _).mono ?_;rintro e wo ⟨rfl,hxo⟩;unfold bp)
         | (refine load_set rfl (.tmp 7) rfl (g:=go) rfl hO3.out ?_)
         | (refine load_set rfl (.tmp 9) rfl (g:=gx) rfl hP3.out ?_))
        have hkn3:=HKN.out
        go_roundg (l.length+1-kn)
        case measure=>omega
        case rel=>exact ⟨kn,f',it+1,fun j=>x j || j == m,by omega,by omega,rfl,by omega,HGn.out,by go_num,by go_num,by have:=HIT.out;omega,by omega,(hO3.out.keep hxo).row _,(hS3.out.keep hxo).rowFar _ (by omega),(Ext.trans hX3.out hxo).row _ _ (by rw [HG.out];omega)⟩
       ·have h45:(l.drop k)[n]?=some 45:=by rw [List.getElem?_drop,HKN.out];exact of_decide_eq_true HC.out
        have hkl:=(List.getElem?_eq_some_iff.1 (of_decide_eq_true HC.out)).1
        have hkl':(kn:Int)+1≤(l.length:Int):=by omega
        have hw3:IntKind.i64.wrap ((kn:Int)+1)=((kn:Nat):Int)+1:=wrap_id (by omega) (by omega)
        have hdd:(l.drop k).drop (n+1)=l.drop (kn+1):=by rw [List.drop_drop,← hkn3];rfl
        have hfit2:=sign_fits (l.drop (kn+1))
        have H45:=Lib.hid h45
        have HDD:=Lib.hid hdd
        clear h45 hdd hkn3 hw1 hfit
        rcases hsg2:signS (l.drop (kn+1)) with k2 | ⟨m2,n2⟩ | ⟨p2,n2⟩
        ·rw [hsg2] at hfit2
         have hfit2:k2=3∨k2=5:=hfit2
         have hR:R=(fun _=>false,0,k2):=by
          rw [← HGo.out,item_rbad HSG.out H45.out (by rw [HDD.out];exact hsg2)]
          exact if_pos (by show k2 ≠ 0;omega)
         have HR:=Lib.hid (show parseB (parseS l)=.tuple #[bp (fun _=>false),.int .i64 0,.int .i64 (k2:Nat)] by
          rw [HRES.out,hR,if_neg (by show ¬ k2=0;omega)];rfl)
         have hk2z:((k2:Int) != 0)=true:=by simp;omega
         have HS2:=Lib.hid hsg2
         clear hR hfit2 hsg2 HGo
         go_wp2_with (first | (go_at_call 49;refine (refSgn (l.drop (kn+1)) (by rw [List.length_drop];omega) _).mono ?_;rintro e w4 ⟨rfl,hx4⟩;rw [HS2.out];simp only [sgB,Sg.set,Sg.one,Sg.size,Sg.err,bp]) | (have:=hS5;refine store_set rfl (.tmp 2) (.tmp 98) rfl (g:=gq) (q:=fun _=>false) rfl (by rw [← zero28];rfl) hS5.out ?_) | (refine store_set rfl (.tmp 13) (.tmp 92) rfl (g:=w4.heap.size) rfl rfl (BB.zero rfl) ?_;have hO5:=Lib.hid ((hO3.out.keep hx4).keep (made w4 (fun _=>false)).2);have hS5:=Lib.hid ((hS3.out.keep hx4).keep (made w4 (fun _=>false)).2);have hP5:=Lib.hid ((hP3.out.keep hx4).keep (made w4 (fun _=>false)).2);have hX5:=Lib.hid (Ext.trans (Ext.trans hX3.out hx4) (made w4 (fun _=>false)).2);have hY5:=Lib.hid (made w4 (fun _=>false)).1;have hgy:=Lib.hid (Nat.lt_of_lt_of_le hP3.out.lt hx4.size);generalize (w4.alloc (.cells Tryz.zeroCells35 35)).setRow w4.heap.size (bcs (fun _=>false))=w5 at *;generalize w4.heap.size=gy at *))
         exact bodyPost_ret (v:=.tuple #[bp (fun _=>false),.int .i64 0,.int .i64 (k2:Nat)]) (results_bp3 rfl rfl (hS5.out.row _) rfl rfl) rfl ⟨by rw [HR.out],hX5.out.row _ _ (by rw [HG.out];exact Nat.le_refl _)⟩
        ·rw [hsg2] at hfit2
         have hfit2:m2<256∧1≤n2∧n2≤(l.drop (kn+1)).length:=hfit2
         rw [List.length_drop] at hfit2
         obtain ⟨hm26,hn21,hn22⟩:=hfit2
         have HS2:=Lib.hid hsg2
         have hk2z:(((0:Nat):Int) != 0)=false:=rfl
         go_upto_region 23 with (first | (go_at_call 49;refine (refSgn (l.drop (kn+1)) (by rw [List.length_drop];omega) _).mono ?_;rintro e w4 ⟨rfl,hx4⟩;rw [HS2.out];simp only [sgB,Sg.set,Sg.one,Sg.size,Sg.err,bp]) | (refine store_set rfl (.tmp 13) (.tmp 92) rfl (g:=w4.heap.size) rfl rfl (BB.zero rfl) ?_;have hO5:=Lib.hid ((hO3.out.keep hx4).keep (made w4 (fun j=>j == m2)).2);have hS5:=Lib.hid ((hS3.out.keep hx4).keep (made w4 (fun j=>j == m2)).2);have hP5:=Lib.hid ((hP3.out.keep hx4).keep (made w4 (fun j=>j == m2)).2);have hX5:=Lib.hid (Ext.trans (Ext.trans hX3.out hx4) (made w4 (fun j=>j == m2)).2);have hY5:=Lib.hid (made w4 (fun j=>j == m2)).1;have hgy:=Lib.hid (Nat.lt_of_lt_of_le hP3.out.lt hx4.size);generalize (w4.alloc (.cells Tryz.zeroCells35 35)).setRow w4.heap.size (bcs (fun j=>j == m2))=w5 at *;generalize w4.heap.size=gy at *))
         refine wp_region_dag (E:=Ext) (w0:=w5) (Φ:=fun i v w=>match i with | 0=>(v=.bool true) | 1=>(v=.bool false) | 2=>(v=.bool false) | 3=>(v=bp (fun j=>j == m2)) | 4=>(v=.int .i64 (m2:Nat)) | 5=>(v=bp (fun j=>j == m)) | 6=>(v=.int .i64 (m:Nat)) | 7=>(v=.bool (decide (m2<m))) | 8=>(v=.bool (decide (m2<m))) | _=>True) (show Tryz.prog.follows .mixedOrders=true from Checked.mixed Tryz.checked) 122 rfl (by decide +kernel) ?_ ((Below.refl _ _).drew) ?_ ⟨?_,?_,?_,?_,?_,?_,?_,?_,?_,trivial⟩ ?_
         ·intro i v w w' h hE
          match i,h with
          | 0,h=>exact h
          | 1,h=>exact h
          | 2,h=>exact h
          | 3,h=>exact h
          | 4,h=>exact h
          | 5,h=>exact h
          | 6,h=>exact h
          | 7,h=>exact h
          | 8,h=>exact h
          | _+9,_=>trivial
         ·exact fun w w' h h'=>h.trans h'
         ·
          intro ac wx hE hsz hdf h
          have e14:ac.tmps[14]?=some (.bool true):=by obtain ⟨v,h1,h2⟩:=h 14 (by decide +kernel);exact h1.trans (h2.symm.trans rfl)
          clear h hsz hdf
          go_wp2
          exact ⟨_,rfl,rfl,Ext.refl _⟩
         ·
          intro ac wx hE hsz hdf h
          have e100:ac.tmps[100]?=some (.bool true):=by obtain ⟨v,h1,h2⟩:=h 100 (by decide +kernel);rw [h1];exact congrArg some h2
          clear h hsz hdf
          go_wp2
          exact ⟨_,rfl,rfl,Ext.refl _⟩
         ·
          intro ac wx hE hsz hdf h
          have e101:ac.tmps[101]?=some (.bool false):=by obtain ⟨v,h1,h2⟩:=h 101 (by decide +kernel);rw [h1];exact congrArg some h2
          clear h hsz hdf
          go_wp2
          exact ⟨_,rfl,rfl,Ext.refl _⟩
         ·
          intro ac wx hE hsz hdf h
          have e13:ac.tmps[13]?=some (.pointer (some ⟨gy,0,none⟩)):=by obtain ⟨v,h1,h2⟩:=h 13 (by decide +kernel);exact h1.trans (h2.symm.trans rfl)
          have e102:ac.tmps[102]?=some (.bool false):=by obtain ⟨v,h1,h2⟩:=h 102 (by decide +kernel);rw [h1];exact congrArg some h2
          clear h hsz hdf
          refine load_setH (j:=2) (b:=false) (d:=102) rfl rfl e102 (.tmp 13) rfl (g:=gy) ?_ (hY5.out.keep hE) ?_
          ·simp [Act.eval,e13]
          ·go_wp2;exact ⟨_,rfl,rfl,Ext.refl _⟩
         ·
          intro ac wx hE hsz hdf h
          have e103:ac.tmps[103]?=some (bp (fun j=>j == m2)):=by obtain ⟨v,h1,h2⟩:=h 103 (by decide +kernel);rw [h1];exact congrArg some h2
          have e102:ac.tmps[102]?=some (.bool false):=by obtain ⟨v,h1,h2⟩:=h 102 (by decide +kernel);rw [h1];exact congrArg some h2
          clear h hsz hdf
          go_wp2_with ((go_at_call 50;refine (refLeast1 m2 hm26 _).mono ?_;rintro e w9 ⟨rfl,hb9⟩))
          exact ⟨_,rfl,rfl,hb9⟩
         ·
          intro ac wx hE hsz hdf h
          have e9:ac.tmps[9]?=some (.pointer (some ⟨gx,0,none⟩)):=by obtain ⟨v,h1,h2⟩:=h 9 (by decide +kernel);exact h1.trans (h2.symm.trans rfl)
          have e102:ac.tmps[102]?=some (.bool false):=by obtain ⟨v,h1,h2⟩:=h 102 (by decide +kernel);rw [h1];exact congrArg some h2
          clear h hsz hdf
          refine load_setH (j:=2) (b:=false) (d:=102) rfl rfl e102 (.tmp 9) rfl (g:=gx) ?_ (hP5.out.keep hE) ?_
          ·simp [Act.eval,e9]
          ·go_wp2;exact ⟨_,rfl,rfl,Ext.refl _⟩
         ·
          intro ac wx hE hsz hdf h
          have e105:ac.tmps[105]?=some (bp (fun j=>j == m)):=by obtain ⟨v,h1,h2⟩:=h 105 (by decide +kernel);rw [h1];exact congrArg some h2
          have e102:ac.tmps[102]?=some (.bool false):=by obtain ⟨v,h1,h2⟩:=h 102 (by decide +kernel);rw [h1];exact congrArg some h2
          clear h hsz hdf
          go_wp2_with ((go_at_call 50;refine (refLeast1 m hm6 _).mono ?_;rintro e w9 ⟨rfl,hb9⟩))
          exact ⟨_,rfl,rfl,hb9⟩
         ·
          intro ac wx hE hsz hdf h
          have e104:ac.tmps[104]?=some (.int .i64 (m2:Nat)):=by obtain ⟨v,h1,h2⟩:=h 104 (by decide +kernel);rw [h1];exact congrArg some h2
          have e106:ac.tmps[106]?=some (.int .i64 (m:Nat)):=by obtain ⟨v,h1,h2⟩:=h 106 (by decide +kernel);rw [h1];exact congrArg some h2
          have e102:ac.tmps[102]?=some (.bool false):=by obtain ⟨v,h1,h2⟩:=h 102 (by decide +kernel);rw [h1];exact congrArg some h2
          clear h hsz hdf
          go_wp2
          exact ⟨_,rfl,(by simp),Ext.refl _⟩
         ·
          intro ac wx hE hsz hdf h
          have e102:ac.tmps[102]?=some (.bool false):=by obtain ⟨v,h1,h2⟩:=h 102 (by decide +kernel);rw [h1];exact congrArg some h2
          have e107:ac.tmps[107]?=some (.bool (decide (m2<m))):=by obtain ⟨v,h1,h2⟩:=h 107 (by decide +kernel);rw [h1];exact congrArg some h2
          clear h hsz hdf
          go_wp2
          exact ⟨_,rfl,(by simp),Ext.refl _⟩
         ·intro ac w9 hE hsz hdf h hrest
          obtain ⟨v0,s0,g0⟩:=h 0 _ rfl
          have e0:=g0 100 rfl
          obtain rfl:v0=.bool true:=s0
          obtain ⟨v1,s1,g1⟩:=h 1 _ rfl
          have e1:=g1 101 rfl
          obtain rfl:v1=.bool false:=s1
          obtain ⟨v2,s2,g2⟩:=h 2 _ rfl
          have e2:=g2 102 rfl
          obtain rfl:v2=.bool false:=s2
          obtain ⟨v3,s3,g3⟩:=h 3 _ rfl
          have e3:=g3 103 rfl
          obtain rfl:v3=bp (fun j=>j == m2):=s3
          obtain ⟨v4,s4,g4⟩:=h 4 _ rfl
          have e4:=g4 104 rfl
          obtain rfl:v4=.int .i64 (m2:Nat):=s4
          obtain ⟨v5,s5,g5⟩:=h 5 _ rfl
          have e5:=g5 105 rfl
          obtain rfl:v5=bp (fun j=>j == m):=s5
          obtain ⟨v6,s6,g6⟩:=h 6 _ rfl
          have e6:=g6 106 rfl
          obtain rfl:v6=.int .i64 (m:Nat):=s6
          obtain ⟨v7,s7,g7⟩:=h 7 _ rfl
          have e7:=g7 107 rfl
          obtain rfl:v7=.bool (decide (m2<m)):=s7
          obtain ⟨v8,s8,g8⟩:=h 8 _ rfl
          have e8:=g8 108 rfl
          obtain rfl:v8=.bool (decide (m2<m)):=s8
          have ha:=act_of [(100,.bool true),(101,.bool false),(102,.bool false),(103,bp (fun j=>j == m2)),(104,.int .i64 (m2:Nat)),(105,bp (fun j=>j == m)),(106,.int .i64 (m:Nat)),(107,.bool (decide (m2<m))),(108,.bool (decide (m2<m)))] rfl hsz hdf (by intro p hp;simp only [List.mem_cons,List.not_mem_nil,or_false] at hp;rcases hp with rfl | rfl | rfl | rfl | rfl | rfl | rfl | rfl | rfl <;> first | exact e0 | exact e1 | exact e2 | exact e3 | exact e4 | exact e5 | exact e6 | exact e7 | exact e8) hrest
          clear h hrest hsz hdf e0 e1 e2 e3 e4 e5 e6 e7 e8 g0 g1 g2 g3 g4 g5 g6 g7 g8
          subst ha
          simp only [List.foldl_cons,List.foldl_nil,Act.put,List.setIfInBounds_toArray,List.set_cons_succ,List.set_cons_zero]
          by_cases hmm:m2<m
          ·have HR:=Lib.hid (show parseB (parseS l)=.tuple #[bp (fun _=>false),.int .i64 0,.int .i64 5] by
            rw [HRES.out,← HGo.out,item_rlt HSG.out H45.out (by rw [HDD.out];exact HS2.out) hmm];rfl)
           have hd:decide (m2<m)=true:=decide_eq_true hmm
           have hS9:=Lib.hid (hS5.out.keep hE)
           have hX9:=Lib.hid (Ext.trans hX5.out hE)
           clear HGo hfit2 hsg2 hmm
           rw [hd]
           go_wp2_with (refine store_set rfl (.tmp 2) (.tmp 109) rfl (g:=gq) (q:=fun _=>false) rfl (by rw [← zero28];rfl) hS9.out ?_)
           exact bodyPost_ret (v:=.tuple #[bp (fun _=>false),.int .i64 0,.int .i64 5]) (results_bp3 rfl rfl (hS9.out.row _) rfl rfl) rfl ⟨by rw [HR.out],hX9.out.row _ _ (by rw [HG.out];exact Nat.le_refl _)⟩
          ·have hd:decide (m2<m)=false:=decide_eq_false hmm
           have HGn:Hid (goS l bg f' (kn+(1+n2)) (fun j=>x j || (decide (m≤j) && decide (j≤m2)))=R):=Lib.hid (by
            rw [← HGo.out,item_range HSG.out H45.out (by rw [HDD.out];exact HS2.out) hmm]
            rw [show k+(n+1+n2)=kn+(1+n2) by have:=HKN.out;omega]
            exact (if_neg (by simp)).symm)
           have hw4:IntKind.i64.wrap (1+(n2:Int))=1+(n2:Int):=wrap_id (by omega) (by omega)
           have hw5:IntKind.i64.wrap ((kn:Int)+(1+(n2:Int)))=(kn:Int)+(1+(n2:Int)):=wrap_id (by omega) (by omega)
           have hO7:=Lib.hid (hO5.out.keep hE)
           have hS7:=Lib.hid (hS5.out.keep hE)
           have hP7:=Lib.hid (hP5.out.keep hE)
           have hY7:=Lib.hid (hY5.out.keep hE)
           have hX7:=Lib.hid (Ext.trans hX5.out hE)
           clear HGo hfit2 hsg2 hmm hE
           rw [hd]
           generalize w9=w7 at *
           go_upto_region 26 with fail
           refine wp_region_dagS (E:=Chg [gx]) (F:=Ext) (z:=5) (late:=[]) (w0:=w7) (Φ:=fun i v w=>match i with | 0=>(v=bp (fun j=>j == m)) | 1=>(v=.int .i64 (m:Nat)) | 2=>(v=bp (fun j=>j == m2)) | 3=>(v=.int .i64 (m2:Nat)) | 4=>(v=bp (fun j=>decide (m≤j) && decide (j≤m2))) | 5=>(BB w gx (fun j=>decide (m≤j) && decide (j≤m2))) | _=>True) (show Tryz.prog.follows .mixedOrders=true from Checked.mixed Tryz.checked) 122 rfl (by decide +kernel) (by decide +kernel) ?_ (by decide +kernel) ?_ ((Below.refl _ _).drew) ((Chg.refl _ _).drew) ?_ ?_ ?_ ⟨?_,?_,?_,?_,?_,?_,trivial⟩ ?_
           ·intro i v w w' h hE
            match i,h with
            | 0,h=>exact h
            | 1,h=>exact h
            | 2,h=>exact h
            | 3,h=>exact h
            | 4,h=>exact h
            | 5,h=>exact BB.keep h hE
            | _+6,_=>trivial
           ·intro i v w w' hiz hla h hE
            match i,hiz,hla,h with
            | 0,_,_,h=>exact h
            | 1,_,_,h=>exact h
            | 2,_,_,h=>exact h
            | 3,_,_,h=>exact h
            | 4,_,_,h=>exact h
            | 5,hiz,_,_=>exact absurd rfl hiz
            | _+6,_,_,_=>trivial
           ·exact fun w w' h h'=>h.trans (.of_ext h')
           ·exact fun w w' h h'=>h.trans h'
           ·exact fun w w' h h'=>(Chg.of_ext h).trans h'
           ·
            intro ac wx hE hF hsz hdf h
            have e9:ac.tmps[9]?=some (.pointer (some ⟨gx,0,none⟩)):=by obtain ⟨v,h1,h2⟩:=h 9 (by decide +kernel);exact h1.trans (h2.symm.trans rfl)
            have hgy':=hgy.out
            clear h hsz hdf
            refine load_set rfl (.tmp 9) rfl (g:=gx) ?_ (hP7.out.keep (hF (.inr (by decide +kernel)))) ?_
            ·simp [Act.eval,e9]
            ·go_wp2;exact ⟨_,rfl,rfl,Ext.refl _⟩
           ·
            intro ac wx hE hF hsz hdf h
            have e114:ac.tmps[114]?=some (bp (fun j=>j == m)):=by obtain ⟨v,h1,h2⟩:=h 114 (by decide +kernel);rw [h1];exact congrArg some h2
            clear h hsz hdf
            go_wp2_with ((go_at_call 50;refine (refLeast1 m hm6 _).mono ?_;rintro e w9 ⟨rfl,hb9⟩))
            exact ⟨_,rfl,rfl,hb9⟩
           ·
            intro ac wx hE hF hsz hdf h
            have e13:ac.tmps[13]?=some (.pointer (some ⟨gy,0,none⟩)):=by obtain ⟨v,h1,h2⟩:=h 13 (by decide +kernel);exact h1.trans (h2.symm.trans rfl)
            have hgy':=hgy.out
            clear h hsz hdf
            refine load_set rfl (.tmp 13) rfl (g:=gy) ?_ (BB.of (Blk.chg hY7.out.blk hE (by simp;omega))) ?_
            ·simp [Act.eval,e13]
            ·go_wp2;exact ⟨_,rfl,rfl,Ext.refl _⟩
           ·
            intro ac wx hE hF hsz hdf h
            have e116:ac.tmps[116]?=some (bp (fun j=>j == m2)):=by obtain ⟨v,h1,h2⟩:=h 116 (by decide +kernel);rw [h1];exact congrArg some h2
            clear h hsz hdf
            go_wp2_with ((go_at_call 50;refine (refLeast1 m2 hm26 _).mono ?_;rintro e w9 ⟨rfl,hb9⟩))
            exact ⟨_,rfl,rfl,hb9⟩
           ·
            intro ac wx hE hF hsz hdf h
            have e115:ac.tmps[115]?=some (.int .i64 (m:Nat)):=by obtain ⟨v,h1,h2⟩:=h 115 (by decide +kernel);rw [h1];exact congrArg some h2
            have e117:ac.tmps[117]?=some (.int .i64 (m2:Nat)):=by obtain ⟨v,h1,h2⟩:=h 117 (by decide +kernel);rw [h1];exact congrArg some h2
            clear h hsz hdf
            go_wp2_with ((go_at_call 27;refine (refFrom m m2 hm6 hm26 _).mono ?_;rintro e w9 ⟨rfl,hb9⟩))
            exact ⟨_,rfl,rfl,hb9⟩
           ·
            intro ac wx hE hF hsz hdf h
            have e9:ac.tmps[9]?=some (.pointer (some ⟨gx,0,none⟩)):=by obtain ⟨v,h1,h2⟩:=h 9 (by decide +kernel);exact h1.trans (h2.symm.trans rfl)
            have e118:ac.tmps[118]?=some (.agg (bcs (fun j=>decide (m≤j) && decide (j≤m2)))):=by obtain ⟨v,h1,h2⟩:=h 118 (by decide +kernel);rw [h1];exact congrArg some h2
            have hB9:=hP7.out.keep (hF (.inl rfl))
            clear h hsz hdf
            refine store_set rfl (.tmp 9) (.tmp 118) rfl (g:=gx) (q:=(fun j=>decide (m≤j) && decide (j≤m2))) ?_ ?_ hB9 ?_
            ·simp [Act.eval,e9]
            ·simp [Act.eval,e118]
            ·go_wp2;exact ⟨hB9.row _,Chg.row _ _ _ (by simp)⟩
           ·intro ac w9 hE hsz hdf h hrest
            obtain ⟨v0,s0,g0⟩:=h 0 _ rfl
            have e0:=g0 114 rfl
            obtain rfl:v0=bp (fun j=>j == m):=s0
            obtain ⟨v1,s1,g1⟩:=h 1 _ rfl
            have e1:=g1 115 rfl
            obtain rfl:v1=.int .i64 (m:Nat):=s1
            obtain ⟨v2,s2,g2⟩:=h 2 _ rfl
            have e2:=g2 116 rfl
            obtain rfl:v2=bp (fun j=>j == m2):=s2
            obtain ⟨v3,s3,g3⟩:=h 3 _ rfl
            have e3:=g3 117 rfl
            obtain rfl:v3=.int .i64 (m2:Nat):=s3
            obtain ⟨v4,s4,g4⟩:=h 4 _ rfl
            have e4:=g4 118 rfl
            obtain rfl:v4=bp (fun j=>decide (m≤j) && decide (j≤m2)):=s4
            obtain ⟨v5,s5,-⟩:=h 5 _ rfl
            replace s5:BB w9 gx (fun j=>decide (m≤j) && decide (j≤m2)):=s5
            have ha:=act_of [(114,bp (fun j=>j == m)),(115,.int .i64 (m:Nat)),(116,bp (fun j=>j == m2)),(117,.int .i64 (m2:Nat)),(118,bp (fun j=>decide (m≤j) && decide (j≤m2)))] rfl hsz hdf (by intro p hp;simp only [List.mem_cons,List.not_mem_nil,or_false] at hp;rcases hp with rfl | rfl | rfl | rfl | rfl <;> first | exact e0 | exact e1 | exact e2 | exact e3 | exact e4) hrest
            clear h hrest hsz hdf e0 e1 e2 e3 e4 g0 g1 g2 g3 g4
            subst ha
            simp only [List.foldl_cons,List.foldl_nil,Act.put,List.setIfInBounds_toArray,List.set_cons_succ,List.set_cons_zero]
            have hgy':=hgy.out
            have hgx':=hgx.out
            have hR9:=Lib.hid s5
            have hO9:=Lib.hid (BB.of (Blk.chg hO7.out.blk hE (by simp;omega)))
            have hS9:=Lib.hid (BB.of (Blk.chg hS7.out.blk hE (by simp;omega)))
            have hX9:Hid (Ext w w9):=Lib.hid (hE.below hX7.out hX7.out.size (by intro y hy;simp at hy;rw [hy,HG.out];omega))
            clear s5 hE hgy' hgx'
            go_wp2_with (first
            | (have:=hxo;refine store_set rfl (.tmp 7) (.tmp 121) rfl (g:=go) rfl rfl (hO9.out.keep hxo) ?_)
            | (go_at_call 51;refine (refOr x (fun j=>decide (m≤j) && decide (j≤m2)) _).mono ?_;rintro e wo ⟨rfl,hxo⟩;unfold bp)
            | (refine load_set rfl (.tmp 7) rfl (g:=go) rfl hO9.out ?_)
            | (refine load_set rfl (.tmp 9) rfl (g:=gx) rfl hR9.out ?_))
            have hkn3:=HKN.out
            go_roundg (l.length+1-(kn+(1+n2)))
            case measure=>omega
            case rel=>exact ⟨kn+(1+n2),f',it+1,fun j=>x j || (decide (m≤j) && decide (j≤m2)),by omega,by omega,rfl,by omega,HGn.out,by go_num,by go_num,by have:=HIT.out;omega,by omega,(hO9.out.keep hxo).row _,(hS9.out.keep hxo).rowFar _ (by omega),(Ext.trans hX9.out hxo).row _ _ (by rw [HG.out];omega)⟩
        ·have HR:=Lib.hid (show parseB (parseS l)=.tuple #[bp (fun _=>false),.int .i64 0,.int .i64 5] by
          rw [HRES.out,← HGo.out,item_rcls HSG.out H45.out (by rw [HDD.out];exact hsg2)];rfl)
         have HS2:=Lib.hid hsg2
         have hk2z:(((0:Nat):Int) != 0)=false:=rfl
         clear hfit2 hsg2 HGo
         go_upto_region 23 with (first | (go_at_call 49;refine (refSgn (l.drop (kn+1)) (by rw [List.length_drop];omega) _).mono ?_;rintro e w4 ⟨rfl,hx4⟩;rw [HS2.out];simp only [sgB,Sg.set,Sg.one,Sg.size,Sg.err,bp]) | (refine store_set rfl (.tmp 13) (.tmp 92) rfl (g:=w4.heap.size) rfl rfl (BB.zero rfl) ?_;have hO5:=Lib.hid ((hO3.out.keep hx4).keep (made w4 (p2)).2);have hS5:=Lib.hid ((hS3.out.keep hx4).keep (made w4 (p2)).2);have hP5:=Lib.hid ((hP3.out.keep hx4).keep (made w4 (p2)).2);have hX5:=Lib.hid (Ext.trans (Ext.trans hX3.out hx4) (made w4 (p2)).2);have hY5:=Lib.hid (made w4 (p2)).1;have hgy:=Lib.hid (Nat.lt_of_lt_of_le hP3.out.lt hx4.size);generalize (w4.alloc (.cells Tryz.zeroCells35 35)).setRow w4.heap.size (bcs (p2))=w5 at *;generalize w4.heap.size=gy at *))
         go_quiet (fail)
         go_wp2_with (refine store_set rfl (.tmp 2) (.tmp 109) rfl (g:=gq) (q:=fun _=>false) rfl (by rw [← zero28];rfl) hS5.out ?_)
         exact bodyPost_ret (v:=.tuple #[bp (fun _=>false),.int .i64 0,.int .i64 5]) (results_bp3 rfl rfl (BB.row (w:=w5.drewN nq) hS5.out _) rfl rfl) rfl ⟨by rw [HR.out],Ext.row (below_drewN hX5.out nq) _ _ (by rw [HG.out];exact Nat.le_refl _)⟩
     ·rw [hsg] at hfit
      have hfit:1≤n∧n≤(l.drop k).length:=hfit
      rw [List.length_drop] at hfit
      have HGn:Hid (goS l bg f' (k+n) (fun j=>x j || p j)=R):=Lib.hid (by
       rw [← HGo.out,item_cls hsg]
       exact (if_neg (by simp)).symm)
      have hk0:(((0:Nat):Int) != 0)=false:=rfl
      have HSG:=Lib.hid hsg
      have hw1:IntKind.i64.wrap ((k:Int)+(n:Int))=(k:Int)+(n:Int):=wrap_id (by omega) (by omega)
      have hw2:IntKind.i64.wrap ((it:Int)+1)=(it:Int)+1:=wrap_id (by omega) (by omega)
      clear hsg HGo
      go_wp2_with (first
       | (have:=hx4;refine store_set rfl (.tmp 7) (.tmp 121) rfl (g:=go) rfl rfl (hO3.out.keep hx4) ?_)
       | (have:=hO3;go_at_call 51;refine (refOr x p _).mono ?_;rintro e w4 ⟨rfl,hx4⟩;unfold bp)
       | (have:=hO3;refine load_set rfl (.tmp 7) rfl (g:=go) rfl hO3.out ?_)
       | (have:=hP3;refine load_set rfl (.tmp 9) rfl (g:=gx) rfl hP3.out ?_)
       | (refine store_set rfl (.tmp 9) (.tmp 60) rfl (g:=w2.heap.size) rfl rfl (BB.zero rfl) ?_;have hP3:=Lib.hid (made w2 p).1;have hO3:=Lib.hid ((HO.out.keep hx2).keep (made w2 p).2);have hS3:=Lib.hid ((HS.out.keep hx2).keep (made w2 p).2);have hX3:=Lib.hid (Ext.trans (Ext.trans HX.out hx2) (made w2 p).2);generalize (w2.alloc (.cells Tryz.zeroCells35 35)).setRow w2.heap.size (bcs p)=w3 at *;generalize w2.heap.size=gx at *)
       | (go_at_call 49;refine (refSgn (l.drop k) (by rw [List.length_drop];exact hkn) _).mono ?_;rintro e w2 ⟨rfl,hx2⟩;rw [HSG.out];simp only [sgB,Sg.set,Sg.one,Sg.size,Sg.err,bp]))
      go_roundg (l.length+1-(k+n))
      case measure=>omega
      case rel=>exact ⟨k+n,f',it+1,fun j=>x j || p j,by omega,by omega,rfl,by omega,HGn.out,by go_num,by go_num,by have:=HIT.out;omega,by omega,(hO3.out.keep hx4).row _,(hS3.out.keep hx4).rowFar _ (by omega),(Ext.trans hX3.out hx4).row _ _ (by rw [HG.out];omega)⟩
end Go.Proofs.YtigmdlchbjanoaaGreatDoor
