/- Put together: Rx11, Rx12, Rx13, Rx14. -/
import Derived.Test.YtigmdlchbjanoaaGreatDoorPTgL
import Derived.Test.YtigmdlchbjanoaaGreatDoorPTgM
import Derived.Test.YtigmdlchbjanoaaGreatDoorPTgK
import Derived.Deep.DeepCutAuto
import Derived.BigRegion
import Derived.Test.YtigmdlchbjanoaaGreatDoorPTgA
namespace Go.Proofs.YtigmdlchbjanoaaGreatDoor
open Go Go.RowKit
attribute [local irreducible] wd
def PS (w:World) (p:Nat) (l:List UInt8) (i ne gr:Nat):Prop:=Blk w p 90 [.string ⟨l.toArray⟩,.int .i64 (i:Nat),.int .i64 (ne:Nat),.int .i64 (gr:Nat)]
section
variable {w w':World} {p:Nat} {l:List UInt8} {i ne gr:Nat}
theorem PS.lt (h:PS w p l i ne gr):p<w.heap.size:=Blk.lt h
theorem PS.keep (h:PS w p l i ne gr) (hx:Ext w w'):PS w' p l i ne gr:=Blk.keep h hx
theorem PS.chg {X:List Nat} (h:PS w p l i ne gr) (hx:Chg X w w') (hp:p ∉ X):PS w' p l i ne gr:=Blk.chg h hx hp
theorem PS.cells (h:PS w p l i ne gr):w.cell? ⟨p,0,none⟩=some (.string ⟨l.toArray⟩)∧w.cell? ⟨p,1,none⟩=some (.int .i64 (i:Nat))∧w.cell? ⟨p,2,none⟩=some (.int .i64 (ne:Nat))∧w.cell? ⟨p,3,none⟩=some (.int .i64 (gr:Nat)):=
 ⟨Blk.cell h 0,Blk.cell h 1,Blk.cell h 2,Blk.cell h 3⟩
theorem PS.frozen (h:PS w p l i ne gr) (j:Nat):w.frozen? ⟨p,j,none⟩=false:=Blk.frozen h j
theorem PS.at_ (h:PS w p l i ne gr) {x:Int} {i':Nat} (hx:x=(i':Nat)):PS (w.setCell ⟨p,1,none⟩ (.int .i64 x)) p l i' ne gr:=by subst hx;exact Blk.set_ h 1 _
theorem PS.nest (h:PS w p l i ne gr) {x:Int} {n':Nat} (hx:x=(n':Nat)):PS (w.setCell ⟨p,2,none⟩ (.int .i64 x)) p l i n' gr:=by subst hx;exact Blk.set_ h 2 _
theorem PS.grp (h:PS w p l i ne gr) {x:Int} {g':Nat} (hx:x=(g':Nat)):PS (w.setCell ⟨p,3,none⟩ (.int .i64 x)) p l i ne g':=by subst hx;exact Blk.set_ h 3 _
theorem PS.rowFar (h:PS w p l i ne gr) {g:Nat} (c:Array Value) (hp:p ≠ g):PS (w.setRow g c) p l i ne gr:=(setRow_other w g p c hp).trans h
end
def zN:List Value:=[.int .i64 0,.int .i64 0,.bool false,.int .u64 0,.int .u64 0,.int .u64 0,.int .u64 0,.slice none 0 0]
theorem nd_size:(Tryz.prog.info? 28).map (·.size)=some 8:=by kernel_rfl
theorem store_nd {w:World} {ops:Array Oper} {rest:List Oper} {o:Oper} {a:Act} {Q:Exit→Act→World→Prop} (hgd:o.guard=none) (x y:Operand) (ho:o.op=.store 28 x y)
  {g:Nat} {old:List Value} (new:List Value) (hx:a.eval x=.pointer (some ⟨g,0,none⟩)) (hy:a.eval y=.agg new.toArray) (hg:Blk w g 28 old) (h8:old.length=8) (n8:new.length=8) (h1:new.all (·.oneCell')=true)
  (h:wpList Tryz.prog ops Q rest (a.put o.dst undef) (w.setRow g new.toArray)):wpList Tryz.prog ops Q (o :: rest) a w:=
 wpList_store_row hgd _ x y ho g new.toArray hx hy _ old.toArray hg (by rw [List.size_toArray,n8];exact nd_size) (by rw [List.size_toArray,List.size_toArray,h8,n8]) (by simpa using h1) h
theorem Blk.row {w:World} {g:Nat} {e:TypeId} {old:List Value} (h:Blk w g e old) (new:List Value):Blk (w.setRow g new.toArray) g e new:=setRow_heap w g _ _ _ _ h
theorem results_nd2 {fn:Func} {p a:Tmp} (h:fn.results=#[.cell p 28,.tmp a]) {tmps:Array Value} {w:World} {g:Nat} {cs:List Value} {va:Value}
  (hp:tmps.getD p undef=.pointer (some ⟨g,0,none⟩)) (hg:Blk w g 28 cs) (h8:cs.length=8) (ha:tmps.getD a undef=va):(results fn tmps).run Tryz.prog w=.ok (.tuple #[.agg cs.toArray,va]) w:=by
 have hp':tmps[p]?.getD undef=.pointer (some ⟨g,0,none⟩):=by simpa using hp
 have hl:(loadVar 28 ⟨g,0,none⟩).run Tryz.prog w=.ok (.agg cs.toArray) w:=
  run_loadVar_row w g _ _ cs.toArray (0,0) _ hg Tryz.underlying28 rfl (by rw [List.size_toArray,h8];exact nd_size)
 subst ha
 simp [results,h,hp',asAddr,hl]
theorem Ext.rowX {w w':World} (h:Ext w w') (g:Nat) (cs:List Value) (hg:w.heap.size≤g):Ext w (w'.setRow g cs.toArray):=h.row g _ hg
theorem Chg.rowX {X:List Nat} {w w':World} (h:Chg X w w') (g:Nat) (cs:Array Value) (hg:w.heap.size≤g):Chg X w (w'.setRow g cs):=
 ⟨h.os,h.tape,h.output,by rw [setRow_size];exact h.size,fun k hk hx=>(setRow_other w' g k cs (by omega)).trans (h.block k hk hx)⟩
def PRes (E:Nat→Addr) (p:Nat) (l:List UInt8) (ne:Nat) (w:World) (r:PR) (e:Ending) (w':World):Prop:=
 Chg [p] w w' ∧ match r with
  | .out=>True
  | .err k=>e=.returned (.tuple #[.agg zN.toArray,ev E k])∧(k=2∨k=3∨k=5∨k=11∨k=15)
  | .ok t i gr=>∃ v,e=.returned (.tuple #[.agg v.toArray,.nilIface])∧NodeV (fun b=>w.heap.size≤b) w' t v∧PS w' p l i ne gr∧gr≤9
def pkV (l:List UInt8) (i:Nat):Int:=match l[i]? with
 | none=>-1
 | some c=>c.toNat
set_option maxHeartbeats 1000000 in
set_option maxRecDepth 20000 in
theorem rxPeek {p:Nat} {l:List UInt8} {i ne gr:Nat} (hi:i≤l.length) (w:World) (h:PS w p l i ne gr) :
  Calls Tryz.prog 71 #[.pointer (some ⟨p,0,none⟩)] w fun e w'=>e=.returned (.int .i64 (pkV l i))∧Ext w w':=by
 obtain ⟨c0,c1,c2,c3⟩:=h.cells
 by_cases hlt:i<l.length
 ·have hv:pkV l i=((l[i]'hlt).toNat:Int):=by unfold pkV;rw [List.getElem?_eq_getElem hlt]
  have HV:=Lib.hid hv
  have hlt':(i:Int)<(l.length:Int):=by omega
  have hge:decide ((l.length:Int)≤(i:Int))=false:=by simp;omega
  clear hv h
  go_enter Tryz.func71,Tryz.ntmps71
  go_wp2_with fail
  go_quiet (fail)
  go_wp2_with fail
  go_quiet (fail)
  go_wp2
  go_ret
  have h6:=UInt8.toNat_lt (l[i]'hlt)
  exact ⟨by rw [HV.out];simp;exact Go.IntWalk.wrap64_in _ (by omega),below_drewN (below_drewN (Below.refl _ _) _) _⟩
 ·have hv:pkV l i=-1:=by unfold pkV;rw [List.getElem?_eq_none (by omega)]
  have HV:=Lib.hid hv
  have hge:decide ((l.length:Int)≤(i:Int))=true:=by simp;omega
  clear hv h
  go_enter Tryz.func71,Tryz.ntmps71
  go_wp2_with fail
  go_quiet (fail)
  go_wp2
  go_ret
  exact ⟨by rw [HV.out];rfl,below_drewN (Below.refl _ _) _⟩
set_option maxHeartbeats 2000000 in
set_option maxRecDepth 20000 in
theorem rxSet (E:Nat→Addr) {p:Nat} {l:List UInt8} {i ne gr:Nat} (q:Nat→Bool) (n k:Nat) (hi:i+n≤100000) (hk:k=0∨k=3∨k=5) (hg9:gr≤9) (w:World) (h:PS w p l i ne gr) :
  Calls Tryz.prog 90 #[.pointer (some ⟨p,0,none⟩),sp q,.int .i64 (n:Nat),ev E k] w fun e w'=>PRes E p l ne w (setP q n k i gr) e w':=by
 have hpl:=h.lt
 rcases k with _ | k
 ·have HP:=Lib.hid (h.keep (Ext.trans (Ext.new1 w (.cells #[.int .u64 (wd q 0:Nat),.int .u64 (wd q 1:Nat),.int .u64 (wd q 2:Nat),.int .u64 (wd q 3:Nat)] 25)) (Ext.new1 _ (.cells zN.toArray 28))))
  have HX:=Lib.hid (Ext.trans (Ext.new1 w (.cells #[.int .u64 (wd q 0:Nat),.int .u64 (wd q 1:Nat),.int .u64 (wd q 2:Nat),.int .u64 (wd q 3:Nat)] 25)) (Ext.new1 _ (.cells zN.toArray 28)))
  have HN:=Lib.hid (Blk.newA (w:=w.alloc (.cells #[.int .u64 (wd q 0:Nat),.int .u64 (wd q 1:Nat),.int .u64 (wd q 2:Nat),.int .u64 (wd q 3:Nat)] 25)) (g:=w.heap.size+1) (by simp) 28 zN)
  have HS:=Lib.hid ((SB.new (w:=w) rfl q).keep (Ext.new1 _ (.cells zN.toArray 28)))
  clear h hk
  unfold zN at HP HX HN HS
  show Calls _ _ #[_,sp q,_,.nilIface] _ _
  unfold sp
  go_enter Tryz.func90,Tryz.ntmps90
  obtain ⟨c0,c1,c2,c3⟩:=HP.out.cells
  have f1:=HP.out.frozen 1
  go_upto_region 3 with fail
  have HG:=Lib.hid (Nat.le_refl w.heap.size)
  generalize (w.alloc (.cells #[.int .u64 (wd q 0:Nat),.int .u64 (wd q 1:Nat),.int .u64 (wd q 2:Nat),.int .u64 (wd q 3:Nat)] 25)).alloc (.cells #[.int .i64 0,.int .i64 0,.bool false,.int .u64 0,.int .u64 0,.int .u64 0,.int .u64 0,.slice none 0 0] 28)=w2 at *
  have hn1:¬ w.heap.size=p:=by omega
  have hn2:¬ w.heap.size+1=p:=by omega
  have hn3:¬ p=w.heap.size:=by omega
  have hn4:¬ p=w.heap.size+1:=by omega
  have hw:IntKind.i64.wrap ((i:Int)+(n:Int))=(i:Int)+(n:Int):=wrap_id (by omega) (by omega)
  go_upto_region 4 with fail
  have HP3:=Lib.hid (HP.out.at_ (x:=(i:Int)+(n:Int)) (i':=i+n) (by omega))
  have HN3:=Lib.hid (Blk.far HN.out (p:=⟨p,1,none⟩) hn2 (.int .i64 ((i:Int)+(n:Int))))
  have HS3:=Lib.hid (SB.far HS.out (a:=⟨p,1,none⟩) hn1 (.int .i64 ((i:Int)+(n:Int))))
  have HC3:=Lib.hid (Chg.setCell (Chg.of_ext (X:=[p]) HX.out) (p:=⟨p,1,none⟩) (by simp) (.int .i64 ((i:Int)+(n:Int))))
  generalize w2.setCell ⟨p,1,none⟩ (.int .i64 ((i:Int)+(n:Int)))=w3 at *
  obtain ⟨y0,y1,y2,y3⟩:=HS3.out.cells
  clear c0 c1 c2 c3 f1
  go_wp2_with (refine store_nd rfl (.tmp 8) (.tmp 23) rfl (g:=w.heap.size+1) (nodeC 2 0 false q none 0 0) rfl rfl HN3.out rfl rfl rfl ?_)
  refine bodyPost_ret (v:=.tuple #[.agg (nodeC 2 0 false q none 0 0).toArray,.nilIface]) (results_nd2 rfl rfl (Blk.row HN3.out _) rfl rfl) rfl ⟨HC3.out.rowX _ _ (by omega),?_⟩
  show ∃ v,_
  refine ⟨nodeC 2 0 false q none 0 0,rfl,?_,HP3.out.rowFar _ hn4,hg9⟩
  unfold NodeV
  exact ⟨none,0,[],rfl,Nat.le_refl _,by unfold maxLen;omega,Rd.nil,fun _ _ _ e=>by (cases e),by unfold KidsV;rfl⟩
 ·have HP:=Lib.hid (h.keep (Ext.trans (Ext.new1 w (.cells #[.int .u64 (wd q 0:Nat),.int .u64 (wd q 1:Nat),.int .u64 (wd q 2:Nat),.int .u64 (wd q 3:Nat)] 25)) (Ext.new1 _ (.cells zN.toArray 28))))
  have HX:=Lib.hid (Ext.trans (Ext.new1 w (.cells #[.int .u64 (wd q 0:Nat),.int .u64 (wd q 1:Nat),.int .u64 (wd q 2:Nat),.int .u64 (wd q 3:Nat)] 25)) (Ext.new1 _ (.cells zN.toArray 28)))
  have HN:=Lib.hid (Blk.newA (w:=w.alloc (.cells #[.int .u64 (wd q 0:Nat),.int .u64 (wd q 1:Nat),.int .u64 (wd q 2:Nat),.int .u64 (wd q 3:Nat)] 25)) (g:=w.heap.size+1) (by simp) 28 zN)
  have hn:=fun w=>run_eql_iface_nil (P:=Tryz.prog) (w:=w) 30 (by kernel_rfl) 151 (.pointer (some (E k)))
  have hR:setP q n (k+1) i gr=.err (k+1):=by unfold setP;rw [if_neg (by omega)]
  rw [hR]
  clear h hR
  unfold zN at HX HN
  show Calls _ _ #[_,sp q,_,errV E k] _ _
  unfold sp errV
  go_enter Tryz.func90,Tryz.ntmps90
  go_wp2_with (refine store_nd rfl (.tmp 8) (.tmp 12) rfl (g:=w.heap.size+1) zN rfl rfl HN.out rfl rfl rfl ?_)
  exact bodyPost_ret (v:=.tuple #[.agg zN.toArray,ev E (k+1)]) (results_nd2 rfl rfl (Blk.row HN.out _) rfl rfl) rfl ⟨Chg.of_ext (HX.out.rowX _ _ (by omega)),rfl,by omega⟩
end Go.Proofs.YtigmdlchbjanoaaGreatDoor
namespace Go.Proofs.YtigmdlchbjanoaaGreatDoor
open Go Go.RowKit
attribute [local irreducible] wd
structure Env (E:Nat→Addr) (w:World):Prop where
 e:ErrC [1,2,3,4,10,14] w E
 t:Tab w
theorem Env.keep {E:Nat→Addr} {w w':World} (h:Env E w) (hx:Ext w w'):Env E w':=⟨h.e.keep hx,h.t.keep hx⟩
theorem Env.ne {E:Nat→Addr} {w:World} (h:Env E w) {p:Nat} {l:List UInt8} {i ne gr:Nat} (hp:PS w p l i ne gr) :
  (∀ j g,j ∈ ([1,2,3,4,10,14]:List Nat)→errGs[j]?=some g→g ≠ p)∧19 ≠ p:=by
 have c0:=hp.cells.1
 refine ⟨fun j g hj hg e=>?_,fun e=>?_⟩
 ·have:=h.e.cell hj hg
  rw [e,c0] at this
  simp [errV] at this
 ·have:=h.t 0 (by decide)
  rw [e,c0] at this
  simp at this
theorem Env.chg {E:Nat→Addr} {w w':World} (h:Env E w) {p:Nat} {l:List UInt8} {i ne gr:Nat} (hp:PS w p l i ne gr) (hx:Chg [p] w w'):Env E w':=by
 obtain ⟨h1,h2⟩:=h.ne hp
 refine ⟨⟨fun {j} {g} hj hg=>?_⟩,fun j hj=>?_⟩
 ·exact hx.cell (h.e.cell hj hg) (by simp;exact h1 j g hj hg)
 ·exact hx.cell (h.t j hj) (by simp;exact h2)
theorem Env.facts {E:Nat→Addr} {w:World} (h:Env E w):w.cell? ⟨6,0,none⟩=some (errV E 1)∧w.cell? ⟨7,0,none⟩=some (errV E 2)∧w.cell? ⟨3,0,none⟩=some (errV E 3) ∧
  w.cell? ⟨4,0,none⟩=some (errV E 4)∧w.cell? ⟨12,0,none⟩=some (errV E 10)∧w.cell? ⟨1,0,none⟩=some (errV E 14):=
 ⟨h.e.cell (i:=1) (by simp) rfl,h.e.cell (i:=2) (by simp) rfl,h.e.cell (i:=3) (by simp) rfl,h.e.cell (i:=4) (by simp) rfl,h.e.cell (i:=10) (by simp) rfl,h.e.cell (i:=14) (by simp) rfl⟩
inductive KR where
 | err (k:Nat)
 | ok (num i gr:Nat)
def kindP (l:List UInt8) (i gr:Nat):KR:=
 if l[i]?=some 63 then
  match l[i+1]? with
  | none=>.err 3
  | some c=>if c=58 then .ok 0 (i+2) gr else .err 5
 else if gr=9 then .err 2 else .ok (gr+1) i (gr+1)
def KRes (E:Nat→Addr) (p:Nat) (l:List UInt8) (ne:Nat) (w:World) (r:KR) (e:Ending) (w':World):Prop:=
 Chg [p] w w' ∧ match r with
  | .err k=>e=.returned (.tuple #[.int .i64 0,ev E k])∧(k=2∨k=3∨k=5)
  | .ok num i gr=>e=.returned (.tuple #[.int .i64 (num:Nat),.nilIface])∧PS w' p l i ne gr∧gr≤9
theorem KRes.err_ {E:Nat→Addr} {p:Nat} {l:List UInt8} {ne:Nat} {w w':World} {r:KR} {e:Ending} {k:Nat} (hr:r=.err k) (hc:Chg [p] w w') (he:e=.returned (.tuple #[.int .i64 0,ev E k])) (hk:k=2∨k=3∨k=5):KRes E p l ne w r e w':=by
 subst hr;exact ⟨hc,he,hk⟩
theorem KRes.ok_ {E:Nat→Addr} {p:Nat} {l:List UInt8} {ne:Nat} {w w':World} {r:KR} {e:Ending} {num i gr:Nat} (hr:r=.ok num i gr) (hc:Chg [p] w w') (he:e=.returned (.tuple #[.int .i64 (num:Nat),.nilIface])) (hp:PS w' p l i ne gr) (h9:gr≤9):KRes E p l ne w r e w':=by
 subst hr;exact ⟨hc,he,hp,h9⟩
theorem pk_some {l:List UInt8} {i:Nat} {c:UInt8} (h:l[i]?=some c):pkV l i=c.toNat:=by unfold pkV;rw [h]
theorem pk_none {l:List UInt8} {i:Nat} (h:l[i]?=none):pkV l i=-1:=by unfold pkV;rw [h]
theorem pk_is {l:List UInt8} {i:Nat} (c:UInt8) (h:l[i]?=some c) (n:Nat) (hn:c.toNat=n):pkV l i=n:=by rw [pk_some h,hn]
theorem pk_not {l:List UInt8} {i:Nat} (c:UInt8) (h:¬ l[i]?=some c):(pkV l i == (c.toNat:Int))=false:=by
 rw [beq_eq_false_iff_ne]
 unfold pkV
 cases h0:l[i]? with
 | none=>simp
 | some a =>
  rw [h0] at h
  intro e
  exact h (by rw [UInt8.toNat_inj.1 (show a.toNat=c.toNat by have e2:(a.toNat:Int)=c.toNat:=e;omega)])
set_option maxHeartbeats 4000000 in
set_option maxRecDepth 20000 in
theorem rxKind (E:Nat→Addr) {p:Nat} {l:List UInt8} {i ne gr:Nat} (hl:l.length≤10000) (hi:i≤l.length) (hgr:gr≤9) (w:World) (hE:Env E w) (h:PS w p l i ne gr) :
  Calls Tryz.prog 92 #[.pointer (some ⟨p,0,none⟩)] w fun e w'=>KRes E p l ne w (kindP l i gr) e w':=by
 have HP:=Lib.hid h
 have HE:=Lib.hid hE
 clear h hE
 by_cases hq:l[i]?=some 63
 ·have hi1:=(List.getElem?_eq_some_iff.1 hq).1
  have HPK:=Lib.hid (pk_is 63 hq 63 rfl)
  have hw1:IntKind.i64.wrap ((i:Int)+1)=(i:Int)+1:=wrap_id (by omega) (by omega)
  go_enter Tryz.func92,Tryz.ntmps92
  go_upto_region 6 with (go_at_call 71;refine (rxPeek (Nat.le_of_lt hi1) _ HP.out).mono ?_;rintro e w1 ⟨rfl,hx1⟩;rw [HPK.out])
  have HP1:=Lib.hid (HP.out.keep hx1)
  obtain ⟨c0,c1,c2,c3⟩:=HP1.out.cells
  have f1:=HP1.out.frozen 1
  go_upto_region 7 with fail
  have HP2:=Lib.hid (HP1.out.at_ (x:=(i:Int)+1) (i':=i+1) (by omega))
  have HC2:=Lib.hid (Chg.setCell (Chg.of_ext (X:=[p]) hx1) (p:=⟨p,1,none⟩) (by simp) (.int .i64 ((i:Int)+1)))
  have HE2:=Lib.hid (HE.out.chg HP.out HC2.out)
  clear c0 c1 c2 c3 f1
  generalize w1.setCell ⟨p,1,none⟩ (.int .i64 ((i:Int)+1))=w2 at *
  clear hx1 HP1
  cases hc:l[i+1]? with
  | none =>
   have hK:kindP l i gr=.err 3:=by unfold kindP;rw [if_pos hq,hc]
   have HK:=Lib.hid hK
   have HPK2:=Lib.hid (pk_none hc)
   clear hc hq hK
   go_upto_region 9 with (go_at_call 71;refine (rxPeek (i:=i+1) (by omega) _ HP2.out).mono ?_;rintro e w3 ⟨rfl,hx3⟩;rw [HPK2.out])
   obtain ⟨e1,e2,e3,e4,e5,e6⟩:=(HE2.out.keep hx3).facts
   go_quiet (fail)
   go_wp2
   go_ret2
   exact .err_ HK.out ((HC2.out.trans (.of_ext hx3)).trans (.of_ext (below_drewN (Below.refl _ _) _))) rfl (by omega)
  | some c =>
   have hi2:=(List.getElem?_eq_some_iff.1 hc).1
   by_cases h58:c=58
   ·subst h58
    have hK:kindP l i gr=.ok 0 (i+2) gr:=by unfold kindP;rw [if_pos hq,hc];rfl
    have HK:=Lib.hid hK
    have HPK2:=Lib.hid (pk_is 58 hc 58 rfl)
    have hw2:IntKind.i64.wrap ((i:Int)+1+1)=(i:Int)+1+1:=wrap_id (by omega) (by omega)
    clear hc hq hK
    go_upto_region 11 with (go_at_call 71;refine (rxPeek (i:=i+1) (by omega) _ HP2.out).mono ?_;rintro e w3 ⟨rfl,hx3⟩;rw [HPK2.out])
    have HP3:=Lib.hid (HP2.out.keep hx3)
    obtain ⟨c0,c1,c2,c3⟩:=HP3.out.cells
    simp only [Int.natCast_add,Int.cast_ofNat_Int] at c1
    have f1:=HP3.out.frozen 1
    go_wp2
    go_ret2
    exact .ok_ HK.out ((HC2.out.trans (.of_ext hx3)).setCell (by simp) _) rfl (HP3.out.at_ (by omega)) hgr
   ·have hK:kindP l i gr=.err 5:=by unfold kindP;rw [if_pos hq,hc];simp only [if_neg h58]
    have HK:=Lib.hid hK
    have HPK2:=Lib.hid (pk_some hc)
    have hm1:((c.toNat:Int) == -1)=false:=by rw [beq_eq_false_iff_ne];omega
    have h58b:((c.toNat:Int) == 58)=false:=by
     rw [beq_eq_false_iff_ne]
     intro e
     exact h58 (UInt8.toNat_inj.1 (show c.toNat=58 by omega))
    clear hc hq hK h58
    go_upto_region 13 with (go_at_call 71;refine (rxPeek (i:=i+1) (by omega) _ HP2.out).mono ?_;rintro e w3 ⟨rfl,hx3⟩;rw [HPK2.out])
    obtain ⟨e1,e2,e3,e4,e5,e6⟩:=(HE2.out.keep hx3).facts
    go_quiet (fail)
    go_wp2
    go_ret2
    exact .err_ HK.out ((HC2.out.trans (.of_ext hx3)).trans (.of_ext (below_drewN (Below.refl _ _) _))) rfl (by omega)
 ·have hpk:=pk_not (i:=i) 63 hq
  obtain ⟨v,hv⟩:∃ v,pkV l i=v:=⟨_,rfl⟩
  rw [hv] at hpk
  have HPK:=Lib.hid hv
  have hpk2:(v != 63)=true:=by simp [bne,show (v == 63)=false from hpk]
  clear hv hpk
  by_cases h9:gr=9
  ·subst h9
   have HK:=Lib.hid (show kindP l i 9=.err 2 by unfold kindP;rw [if_neg hq,if_pos rfl])
   clear hq
   go_enter Tryz.func92,Tryz.ntmps92
   go_upto_region 3 with (go_at_call 71;refine (rxPeek hi _ HP.out).mono ?_;rintro e w1 ⟨rfl,hx1⟩;rw [HPK.out];obtain ⟨c0,c1,c2,c3⟩:=(HP.out.keep hx1).cells)
   obtain ⟨e1,e2,e3,e4,e5,e6⟩:=(HE.out.keep hx1).facts
   go_quiet (fail)
   go_wp2
   go_ret2
   exact .err_ HK.out ((Chg.of_ext hx1).trans (.of_ext (below_drewN (Below.refl _ _) _))) rfl (by omega)
  ·have HK:=Lib.hid (show kindP l i gr=.ok (gr+1) i (gr+1) by unfold kindP;rw [if_neg hq,if_neg h9])
   have h9b:((gr:Int) == 9)=false:=by rw [beq_eq_false_iff_ne];omega
   have hw3:IntKind.i64.wrap ((gr:Int)+1)=(gr:Int)+1:=wrap_id (by omega) (by omega)
   have H9:=Lib.hid (show gr+1≤9 by omega)
   clear hq h9
   go_enter Tryz.func92,Tryz.ntmps92
   go_upto_region 4 with (go_at_call 71;refine (rxPeek hi _ HP.out).mono ?_;rintro e w1 ⟨rfl,hx1⟩;rw [HPK.out];obtain ⟨c0,c1,c2,c3⟩:=(HP.out.keep hx1).cells;have f3:=(HP.out.keep hx1).frozen 3)
   go_wp2
   go_ret2
   exact .ok_ HK.out ((Chg.of_ext hx1).setCell (by simp) _) (by simp) ((HP.out.keep hx1).grp (by omega)) H9.out
end Go.Proofs.YtigmdlchbjanoaaGreatDoor
namespace Go.Proofs.YtigmdlchbjanoaaGreatDoor
open Go Go.RowKit
attribute [local irreducible] wd
theorem nodeV_one {S:Nat→Prop} {w:World} {t:T} {v:List Value} (h:NodeV S w t v):v.all (·.oneCell')=true:=by
 obtain ⟨k,m,z,p,B,n,c,rfl⟩:=nodeV_form h
 rfl
theorem rowChg {X:List Nat} (w:World) (g:Nat) (cs:Array Value) (hg:g ∈ X):Chg X w (w.setRow g cs):=
 ⟨rfl,rfl,rfl,by rw [setRow_size];exact Nat.le_refl _,fun k _ hx=>setRow_other w g k cs fun e=>hx (e ▸ hg)⟩
theorem Chg.trans' {X:List Nat} {w0 w w':World} {g:Nat} (h:Chg X w0 w) (h2:Chg [g] w w') (hg:w0.heap.size≤g):Chg X w0 w':=
 ⟨h2.os.trans h.os,h2.tape.trans h.tape,h2.output.trans h.output,Nat.le_trans h.size h2.size,fun k hk hx=>(h2.block k (Nat.lt_of_lt_of_le hk h.size) (by simp;omega)).trans (h.block k hk hx)⟩
theorem PRes.err_ {E:Nat→Addr} {p:Nat} {l:List UInt8} {ne:Nat} {w w':World} {r:PR} {e:Ending} {k:Nat} (hr:r=.err k) (hc:Chg [p] w w') (he:e=.returned (.tuple #[.agg zN.toArray,ev E k])) (hk:k=2∨k=3∨k=5∨k=11∨k=15):PRes E p l ne w r e w':=by
 subst hr;exact ⟨hc,he,hk⟩
theorem PRes.pass {E:Nat→Addr} {p:Nat} {l:List UInt8} {ne:Nat} {w wc w5:World} {r:PR} {e:Ending} (h:PRes E p l ne wc r e w5) (hr:r ≠ .out) (hc:Chg [p] w wc) {g:Nat} (hg:w.heap.size≤g) (hgc:g<wc.heap.size) (hpg:p ≠ g) {old:List Value} (hB:Blk wc g 28 old) :
  ∃ (cells:List Value) (va:Value),e=.returned (.tuple #[.agg cells.toArray,va])∧cells.length=8∧cells.all (·.oneCell')=true∧Blk w5 g 28 old∧PRes E p l ne w r (.returned (.tuple #[.agg cells.toArray,va])) (w5.setRow g cells.toArray):=by
 obtain ⟨h1,h2⟩:=h
 have hB5:Blk w5 g 28 old:=hB.chg h1 (by simp;exact fun e=>hpg e.symm)
 cases r with
 | out=>exact absurd rfl hr
 | err k=>exact ⟨zN,ev E k,h2.1,rfl,rfl,hB5,(hc.trans h1).rowX _ _ hg,rfl,h2.2⟩
 | ok t i gr =>
  obtain ⟨v,he,hv,hp,h9⟩:=h2
  refine ⟨v,.nilIface,he,nodeV_len hv,nodeV_one hv,hB5,(hc.trans h1).rowX _ _ hg,v,rfl,?_,hp.rowFar _ hpg,h9⟩
  have h3:NodeV (fun b=>wc.heap.size≤b) (w5.setRow g v.toArray) t v:=
   hv.chg (X:=[g]) ⟨rfl,rfl,rfl,by rw [setRow_size];exact Nat.le_refl _,fun k _ hx=>setRow_other w5 g k _ (by simpa using hx)⟩ (by intro x hx;simp at hx;omega)
  exact h3.mono (fun b _ hb=>by have:=hc.size;omega)
theorem parse_err' (l:List UInt8):(parseS l).2.2=0∨(parseS l).2.2=3∨(parseS l).2.2=5:=by
 rcases l with _ | ⟨a,t⟩
 ·exact .inr (.inl rfl)
 ·by_cases ha:a.toNat=91
  ·obtain rfl:a=91:=UInt8.toNat_inj.1 ha
   obtain ⟨b,hb⟩:∃ b,decide ((91 :: t:List UInt8)[1]?=some 94)=b:=⟨_,rfl⟩
   obtain ⟨R,hR⟩:∃ R,goS (91 :: t) (if b then 2 else 1) ((91 :: t:List UInt8).length+1) (if b then 2 else 1) (fun _=>false)=R:=⟨_,rfl⟩
   rw [parse_form t b hb R hR]
   by_cases h2:R.2.2=0
   ·rw [if_pos h2];exact .inl h2
   ·rw [if_neg h2,← hR];exact goS_ok _ _ _ _ _
  ·have:parseS (a :: t)=(fun _=>false,0,5):=by unfold parseS;simp [ha]
   rw [this]
   exact .inr (.inr rfl)
theorem goS_bad (l:List UInt8) (b:Nat):∀ f k x,(goS l b f k x).2.2 ≠ 0→(goS l b f k x).2.1=0:=by
 intro f
 induction f with
 | zero=>intro k x _;rfl
 | succ f ih =>
  intro k x h
  rw [goS_step] at h ⊢
  split at h
  ·exact absurd rfl h
  ·rename_i h1
   rw [if_neg h1]
   split at h
   ·rename_i h2;rw [if_pos h2]
   ·rename_i h2;rw [if_neg h2];exact ih _ _ h
theorem parse_len (l:List UInt8):(parseS l).2.1≤l.length:=by
 by_cases h:(parseS l).2.2=0
 ·exact (parse_bound h).2
 ·rcases l with _ | ⟨a,t⟩
  ·simp [parseS]
  ·by_cases ha:a.toNat=91
   ·obtain rfl:a=91:=UInt8.toNat_inj.1 ha
    obtain ⟨b,hb⟩:∃ b,decide ((91 :: t:List UInt8)[1]?=some 94)=b:=⟨_,rfl⟩
    obtain ⟨R,hR⟩:∃ R,goS (91 :: t) (if b then 2 else 1) ((91 :: t:List UInt8).length+1) (if b then 2 else 1) (fun _=>false)=R:=⟨_,rfl⟩
    have hf:=parse_form t b hb R hR
    by_cases h2:R.2.2=0
    ·rw [if_pos h2] at hf
     rw [hf] at h
     exact absurd h2 h
    ·rw [if_neg h2] at hf
     rw [hf,← hR]
     rw [goS_bad _ _ _ _ _ (by rw [hR];exact h2)]
     omega
   ·have:parseS (a :: t)=(fun _=>false,0,5):=by unfold parseS;simp [ha]
    rw [this]
    exact Nat.zero_le _
theorem esc_err (l:List UInt8):(escS l).err=0∨(escS l).err=3∨(escS l).err=5:=by
 have hef:=esc_fits l
 cases h:escS l with
 | bad k=>rw [h] at hef;exact .inr hef
 | byte m n=>exact .inl rfl
 | cls p n=>exact .inl rfl
theorem esc_len (l:List UInt8):(escS l).size≤l.length:=by
 have hef:=esc_fits l
 cases h:escS l with
 | bad k=>exact Nat.zero_le _
 | byte m n=>rw [h] at hef;exact hef.2.2
 | cls p n=>rw [h] at hef;exact hef.2
def BracketOK (E:Nat→Addr) (l:List UInt8) (f:Nat):Prop:=
 ∀ (p ne i gr:Nat) (w:World),bracketP l f ne i gr ≠ .out→i<l.length→ne≤8→gr≤9→PS w p l i ne gr→Env E w→Calls Tryz.prog 89 #[.pointer (some ⟨p,0,none⟩)] w fun e w'=>PRes E p l ne w (bracketP l f ne i gr) e w'
def AtomOK (E:Nat→Addr) (l:List UInt8) (f:Nat):Prop:=
 ∀ (p ne i gr:Nat) (w:World),atomP l f ne i gr ≠ .out→i<l.length→ne≤8→gr≤9→PS w p l i ne gr→Env E w→Calls Tryz.prog 84 #[.pointer (some ⟨p,0,none⟩)] w fun e w'=>PRes E p l ne w (atomP l f ne i gr) e w'
set_option maxHeartbeats 8000000 in
set_option maxRecDepth 20000 in
theorem rxAtom (E:Nat→Addr) (l:List UInt8) (hl:l.length≤10000) (f:Nat) (hB:BracketOK E l f):AtomOK E l (f+1):=by
 intro p ne i gr w hno hi hne hgr hP hE
 obtain ⟨c,hc⟩:∃ c,l[i]'hi=c:=⟨_,rfl⟩
 have hci:l[i]?=some c:=by rw [List.getElem?_eq_getElem hi,hc]
 have hpl:=hP.lt
 have hG:=Lib.hid (Nat.le_refl w.heap.size)
 have hN0:=Lib.hid (Blk.newA (w:=w) (g:=w.heap.size) rfl 28 zN)
 have hx0:=Lib.hid (Ext.new1 w (.cells zN.toArray 28))
 have hi':(i:Int)≤(l.length:Int):=by omega
 have hi2:(i:Int)<(l.length:Int):=by omega
 have HP:=Lib.hid hP
 have HE:=Lib.hid hE
 have HNO:=Lib.hid hno
 have HCI:=Lib.hid hci
 clear hP hE hno hci
 unfold zN at hN0 hx0
 go_enter Tryz.func84,Tryz.ntmps84
 go_upto_region 1 with fail
 generalize w.alloc (.cells #[.int .i64 0,.int .i64 0,.bool false,.int .u64 0,.int .u64 0,.int .u64 0,.int .u64 0,.slice none 0 0] 28)=wa at *
 obtain ⟨c0,c1,c2,c3⟩:=(HP.out.keep hx0.out).cells
 go_quiet (fail)
 have hxb:=Lib.hid (show Ext w (wa.drewN nq) from below_drewN hx0.out nq)
 have hNb:=Lib.hid (show Blk (wa.drewN nq) w.heap.size 28 zN from hN0.out)
 generalize wa.drewN nq=wb at *
 clear c0 c1 c2 c3 hN0 hx0
 obtain ⟨c0,c1,c2,c3⟩:=(HP.out.keep hxb.out).cells
 go_upto_region 2 with fail
 go_quiet (fail)
 have hxc:=Lib.hid (show Ext w (wb.drewN nq) from below_drewN hxb.out nq)
 have hNc:=Lib.hid (show Blk (wb.drewN nq) w.heap.size 28 zN from hNb.out)
 generalize wb.drewN nq=wc at *
 clear c0 c1 c2 c3 hNb hxb
 have HPc:=Lib.hid (HP.out.keep hxc.out)
 have HEc:=Lib.hid (HE.out.keep hxc.out)
 have hgc:=Lib.hid (Blk.lt hNc.out)
 have hpg:=Lib.hid (show p ≠ w.heap.size by omega)
 have hc6:=UInt8.toNat_lt c
 have HCC:=Lib.hid hc
 have HI1:=Lib.hid (show i+1≤100000 by omega)
 have hdl:(l.drop i).length≤10000:=by rw [List.length_drop];omega
 clear hc
 by_cases hk:c=40
 focus
  subst hk
  have HR:=Lib.hid (show atomP l (f+1) ne i gr=bracketP l f ne i gr by unfold atomP;rw [HCI.out];rfl)
  have HN2:=Lib.hid (show bracketP l f ne i gr ≠ .out from by rw [← HR.out];exact HNO.out)
  go_wp2_with (first | (have:=hR2;refine store_nd rfl (.tmp 2) (.tmp 39) rfl (g:=w.heap.size) cells rfl rfl hB5 rfl h8 h1 ?_) | (go_at_call 89;refine (hB p ne i gr _ HN2.out hi hne hgr HPc.out HEc.out).mono ?_;rintro e w5 hR;obtain ⟨cells,va,rfl,h8,h1,hB5,hR2⟩:=PRes.pass hR HN2.out (.of_ext hxc.out) (Nat.le_refl _) hgc.out hpg.out hNc.out))
  exact bodyPost_ret (v:=.tuple #[.agg cells.toArray,va]) (results_nd2 rfl rfl (Blk.row hB5 _) h8 rfl) rfl (by rw [HR.out];exact hR2)
 have n40:¬ c=40:=hk
 have d40:((c.toNat:Int) == 40)=false:=by rw [beq_eq_false_iff_ne];intro e;exact hk (UInt8.toNat_inj.1 (show c.toNat=40 by omega))
 clear hk
 by_cases hk:c=91
 focus
  subst hk
  have HR:=Lib.hid (show atomP l (f+1) ne i gr=setP (parseS (l.drop i)).1 (parseS (l.drop i)).2.1 (parseS (l.drop i)).2.2 i gr by unfold atomP;rw [HCI.out];rfl)
  have HPE:=Lib.hid (parse_err' (l.drop i))
  have HPN:=Lib.hid (parse_len (l.drop i))
  obtain ⟨q,n,k,hq⟩:∃ q n k,parseS (l.drop i)=(q,n,k):=⟨_,_,_,rfl⟩
  rw [hq] at HR HPE HPN
  have HLN:=Lib.hid (show i+n≤100000 by have:=HPN.out;rw [List.length_drop] at this;dsimp only at this;omega)
  have HQ:=Lib.hid hq
  clear hq
  have HN2:=Lib.hid (show setP q n k i gr ≠ .out from by rw [← HR.out];exact HNO.out)
  go_wp2_with (first | (have:=hR2;refine store_nd rfl (.tmp 2) (.tmp 50) rfl (g:=w.heap.size) cells rfl rfl hB5 rfl h8 h1 ?_) | (have:=hx4;go_at_call 90;refine (rxSet E q n k HLN.out HPE.out hgr _ (HPc.out.keep hx4)).mono ?_;rintro e w5 hR;obtain ⟨cells,va,rfl,h8,h1,hB5,hR2⟩:=PRes.pass hR HN2.out (.of_ext (Ext.trans hxc.out hx4)) (Nat.le_refl _) (Nat.lt_of_lt_of_le hgc.out hx4.size) hpg.out (hNc.out.keep hx4)) | (go_at_call 43;refine (clParse E (l.drop i) hdl _ (HEc.out.e.sub (by decide)) HEc.out.t).mono ?_;rintro e w4 ⟨rfl,hx4⟩;rw [HQ.out];unfold parseV))
  exact bodyPost_ret (v:=.tuple #[.agg cells.toArray,va]) (results_nd2 rfl rfl (Blk.row hB5 _) h8 rfl) rfl (by rw [HR.out];exact hR2)
 have n91:¬ c=91:=hk
 have d91:((c.toNat:Int) == 91)=false:=by rw [beq_eq_false_iff_ne];intro e;exact hk (UInt8.toNat_inj.1 (show c.toNat=91 by omega))
 clear hk
 by_cases hk:c=92
 focus
  subst hk
  have HR:=Lib.hid (show atomP l (f+1) ne i gr=setP (escS (l.drop i)).set (escS (l.drop i)).size (escS (l.drop i)).err i gr by unfold atomP;rw [HCI.out];rfl)
  have HPE:=Lib.hid (esc_err (l.drop i))
  have HPN:=Lib.hid (esc_len (l.drop i))
  obtain ⟨q,hq1⟩:∃ q,(escS (l.drop i)).set=q:=⟨_,rfl⟩
  obtain ⟨n,hq2⟩:∃ n,(escS (l.drop i)).size=n:=⟨_,rfl⟩
  obtain ⟨k,hq3⟩:∃ k,(escS (l.drop i)).err=k:=⟨_,rfl⟩
  rw [hq1,hq2,hq3] at HR
  rw [hq3] at HPE
  rw [hq2] at HPN
  have HLN:=Lib.hid (show i+n≤100000 by have:=HPN.out;rw [List.length_drop] at this;omega)
  have HQ:=Lib.hid (show sgV E (escS (l.drop i))=.tuple #[sp q,.bool (escS (l.drop i)).one,.int .i64 (n:Nat),ev E k] by unfold sgV;rw [hq1,hq2,hq3])
  clear hq1 hq2 hq3
  have HN2:=Lib.hid (show setP q n k i gr ≠ .out from by rw [← HR.out];exact HNO.out)
  go_upto_region 11 with (go_at_call 44;refine (clEscape E (l.drop i) hdl _ (HEc.out.e.sub (by decide))).mono ?_;rintro e w4 ⟨rfl,hx4⟩;rw [HQ.out];unfold sp)
  have hx5:=Lib.hid (Ext.trans hx4 (Ext.new1 w4 (.cells #[.int .u64 (wd q 0:Nat),.int .u64 (wd q 1:Nat),.int .u64 (wd q 2:Nat),.int .u64 (wd q 3:Nat)] 25)))
  have hS5:=Lib.hid (SB.new (w:=w4) rfl q)
  generalize w4.alloc (.cells #[.int .u64 (wd q 0:Nat),.int .u64 (wd q 1:Nat),.int .u64 (wd q 2:Nat),.int .u64 (wd q 3:Nat)] 25)=w6 at *
  generalize w4.heap.size=gs at *
  obtain ⟨y0,y1,y2,y3⟩:=hS5.out.cells
  go_wp2_with (first | (have:=hR2;refine store_nd rfl (.tmp 2) (.tmp 66) rfl (g:=w.heap.size) cells rfl rfl hB5 rfl h8 h1 ?_) | (go_at_call 90;refine (rxSet E q n k HLN.out HPE.out hgr _ (HPc.out.keep hx5.out)).mono ?_;rintro e w5 hR;obtain ⟨cells,va,rfl,h8,h1,hB5,hR2⟩:=PRes.pass hR HN2.out (.of_ext (Ext.trans hxc.out hx5.out)) (Nat.le_refl _) (Nat.lt_of_lt_of_le hgc.out hx5.out.size) hpg.out (hNc.out.keep hx5.out)))
  exact bodyPost_ret (v:=.tuple #[.agg cells.toArray,va]) (results_nd2 rfl rfl (Blk.row hB5 _) h8 rfl) rfl (by rw [HR.out];exact hR2)
 have n92:¬ c=92:=hk
 have d92:((c.toNat:Int) == 92)=false:=by rw [beq_eq_false_iff_ne];intro e;exact hk (UInt8.toNat_inj.1 (show c.toNat=92 by omega))
 clear hk
 by_cases hk:c=46
 focus
  subst hk
  have HR:=Lib.hid (show atomP l (f+1) ne i gr=setP allP 1 0 i gr by unfold atomP;rw [HCI.out];rfl)
  have HN2:=Lib.hid (show setP allP 1 0 i gr ≠ .out from by rw [← HR.out];exact HNO.out)
  go_wp2_with (first | (have:=hR2;refine store_nd rfl (.tmp 2) (.tmp 73) rfl (g:=w.heap.size) cells rfl rfl hB5 rfl h8 h1 ?_) | (have:=hx4;go_at_call 90;refine (rxSet E allP 1 0 HI1.out (.inl rfl) hgr _ (HPc.out.keep hx4)).mono ?_;rintro e w5 hR;obtain ⟨cells,va,rfl,h8,h1,hB5,hR2⟩:=PRes.pass hR HN2.out (.of_ext (Ext.trans hxc.out hx4)) (Nat.le_refl _) (Nat.lt_of_lt_of_le hgc.out hx4.size) hpg.out (hNc.out.keep hx4)) | (go_at_call 41;refine (setAll _).mono ?_;rintro e w4 ⟨rfl,hx4⟩))
  exact bodyPost_ret (v:=.tuple #[.agg cells.toArray,va]) (results_nd2 rfl rfl (Blk.row hB5 _) h8 rfl) rfl (by rw [HR.out];exact hR2)
 have n46:¬ c=46:=hk
 have d46:((c.toNat:Int) == 46)=false:=by rw [beq_eq_false_iff_ne];intro e;exact hk (UInt8.toNat_inj.1 (show c.toNat=46 by omega))
 clear hk
 by_cases hk:c=42
 focus
  subst hk
  have HR:=Lib.hid (show atomP l (f+1) ne i gr=.err 5 by unfold atomP;rw [HCI.out];rfl)
  obtain ⟨e1,e2,e3,e4,e5,e6⟩:=HEc.out.facts
  have hne1:¬ w.heap.size=4:=by intro e;have:=hNc.out.cell 0;rw [e,e4] at this;simp [errV,zN] at this
  go_upto_region 17 with fail
  have hNz:=hNc
  have HGW:=Lib.hid (Nat.le_refl w.heap.size)
  generalize hgz:w.heap.size=gz at *
  have hne2:¬ 4=gz:=fun e=>hne1 e.symm
  refine wp_region_dagS (E:=Chg [gz]) (F:=Ext) (z:=2) (late:=[]) (w0:=wc) (Φ:=fun i v w=>match i with | 0=>(v=.agg zN.toArray) | 1=>(v=errV E 4) | 2=>(Blk w gz 28 zN) | 3=>(v=errV E 4) | _=>True) (show Tryz.prog.follows .mixedOrders=true from Checked.mixed Tryz.checked) 81 rfl (by decide +kernel) (by decide +kernel) ?_ (by decide +kernel) ?_ ((Below.refl _ _).drew) ((Chg.refl _ _).drew) ?_ ?_ ?_ ⟨?_,?_,?_,?_,trivial⟩ ?_
  ·intro i v w w' h hE
   match i,h with
   | 0,h=>exact h
   | 1,h=>exact h
   | 2,h=>exact Blk.keep h hE
   | 3,h=>exact h
   | _+4,_=>trivial
  ·intro i v w w' hiz hla h hE
   match i,hiz,hla,h with
   | 0,_,_,h=>exact h
   | 1,_,_,h=>exact h
   | 2,hiz,_,_=>exact absurd rfl hiz
   | 3,_,_,h=>exact h
   | _+4,_,_,_=>trivial
  ·exact fun w w' h h'=>h.trans (.of_ext h')
  ·exact fun w w' h h'=>h.trans h'
  ·exact fun w w' h h'=>(Chg.of_ext h).trans h'
  ·
   intro ac wx hE hF hsz hdf h
   clear h hsz hdf
   go_wp2
   exact ⟨_,rfl,rfl,Ext.refl _⟩
  ·
   intro ac wx hE hF hsz hdf h
   clear h hsz hdf
   have e9:=hE.cell e4 (by simp;exact hne2)
   go_wp2
   exact ⟨_,rfl,rfl,Ext.refl _⟩
  ·
   intro ac wx hE hF hsz hdf h
   have e2:ac.tmps[2]?=some (.pointer (some ⟨gz,0,none⟩)):=by obtain ⟨v,h1,h2⟩:=h 2 (by decide +kernel);exact h1.trans (h2.symm.trans rfl)
   have e79:ac.tmps[79]?=some (.agg zN.toArray):=by obtain ⟨v,h1,h2⟩:=h 79 (by decide +kernel);rw [h1];exact congrArg some h2
   have hB9:=hNz.out.keep (hF (.inl rfl))
   clear h hsz hdf
   refine store_nd rfl (.tmp 2) (.tmp 79) rfl (g:=gz) zN ?_ ?_ hB9 rfl rfl rfl ?_
   ·simp [Act.eval,e2]
   ·simp [Act.eval,e79]
   ·go_wp2;exact ⟨Blk.row hB9 _,rowChg _ _ _ (by simp)⟩
  ·
   intro ac wx hE hF hsz hdf h
   have e80:ac.tmps[80]?=some (errV E 4):=by obtain ⟨v,h1,h2⟩:=h 80 (by decide +kernel);rw [h1];exact congrArg some h2
   clear h hsz hdf
   go_wp2
   exact ⟨_,rfl,rfl,Ext.refl _⟩
  ·intro ac w9 hE hsz hdf h hrest
   obtain ⟨v0,s0,g0⟩:=h 0 _ rfl
   have e0:=g0 79 rfl
   obtain rfl:v0=.agg zN.toArray:=s0
   obtain ⟨v1,s1,g1⟩:=h 1 _ rfl
   have e1:=g1 80 rfl
   obtain rfl:v1=errV E 4:=s1
   obtain ⟨v2,s2,-⟩:=h 2 _ rfl
   replace s2:Blk w9 gz 28 zN:=s2
   obtain ⟨v3,s3,g3⟩:=h 3 _ rfl
   have e3:=g3 3 rfl
   obtain rfl:v3=errV E 4:=s3
   have ha:=act_of [(79,.agg zN.toArray),(80,errV E 4),(3,errV E 4)] rfl hsz hdf (by intro p hp;simp only [List.mem_cons,List.not_mem_nil,or_false] at hp;rcases hp with rfl | rfl | rfl <;> first | exact e0 | exact e1 | exact e3) hrest
   clear h hrest hsz hdf e0 e1 e3 g0 g1 g3
   subst ha
   simp only [List.foldl_cons,List.foldl_nil,Act.put,List.setIfInBounds_toArray,List.set_cons_succ,List.set_cons_zero]
   go_wp2
   exact bodyPost_ret (v:=.tuple #[.agg zN.toArray,ev E 5]) (results_nd2 rfl rfl s2 rfl rfl) rfl (.err_ HR.out ((Chg.of_ext (X:=[p]) hxc.out).trans' hE (by rw [hgz];exact Nat.le_refl _)) rfl (by omega))
 have n42:¬ c=42:=hk
 have d42:((c.toNat:Int) == 42)=false:=by rw [beq_eq_false_iff_ne];intro e;exact hk (UInt8.toNat_inj.1 (show c.toNat=42 by omega))
 clear hk
 by_cases hk:c=43
 focus
  subst hk
  have HR:=Lib.hid (show atomP l (f+1) ne i gr=.err 5 by unfold atomP;rw [HCI.out];rfl)
  obtain ⟨e1,e2,e3,e4,e5,e6⟩:=HEc.out.facts
  have hne1:¬ w.heap.size=4:=by intro e;have:=hNc.out.cell 0;rw [e,e4] at this;simp [errV,zN] at this
  go_upto_region 17 with fail
  have hNz:=hNc
  have HGW:=Lib.hid (Nat.le_refl w.heap.size)
  generalize hgz:w.heap.size=gz at *
  have hne2:¬ 4=gz:=fun e=>hne1 e.symm
  refine wp_region_dagS (E:=Chg [gz]) (F:=Ext) (z:=2) (late:=[]) (w0:=wc) (Φ:=fun i v w=>match i with | 0=>(v=.agg zN.toArray) | 1=>(v=errV E 4) | 2=>(Blk w gz 28 zN) | 3=>(v=errV E 4) | _=>True) (show Tryz.prog.follows .mixedOrders=true from Checked.mixed Tryz.checked) 81 rfl (by decide +kernel) (by decide +kernel) ?_ (by decide +kernel) ?_ ((Below.refl _ _).drew) ((Chg.refl _ _).drew) ?_ ?_ ?_ ⟨?_,?_,?_,?_,trivial⟩ ?_
  ·intro i v w w' h hE
   match i,h with
   | 0,h=>exact h
   | 1,h=>exact h
   | 2,h=>exact Blk.keep h hE
   | 3,h=>exact h
   | _+4,_=>trivial
  ·intro i v w w' hiz hla h hE
   match i,hiz,hla,h with
   | 0,_,_,h=>exact h
   | 1,_,_,h=>exact h
   | 2,hiz,_,_=>exact absurd rfl hiz
   | 3,_,_,h=>exact h
   | _+4,_,_,_=>trivial
  ·exact fun w w' h h'=>h.trans (.of_ext h')
  ·exact fun w w' h h'=>h.trans h'
  ·exact fun w w' h h'=>(Chg.of_ext h).trans h'
  ·
   intro ac wx hE hF hsz hdf h
   clear h hsz hdf
   go_wp2
   exact ⟨_,rfl,rfl,Ext.refl _⟩
  ·
   intro ac wx hE hF hsz hdf h
   clear h hsz hdf
   have e9:=hE.cell e4 (by simp;exact hne2)
   go_wp2
   exact ⟨_,rfl,rfl,Ext.refl _⟩
  ·
   intro ac wx hE hF hsz hdf h
   have e2:ac.tmps[2]?=some (.pointer (some ⟨gz,0,none⟩)):=by obtain ⟨v,h1,h2⟩:=h 2 (by decide +kernel);exact h1.trans (h2.symm.trans rfl)
   have e79:ac.tmps[79]?=some (.agg zN.toArray):=by obtain ⟨v,h1,h2⟩:=h 79 (by decide +kernel);rw [h1];exact congrArg some h2
   have hB9:=hNz.out.keep (hF (.inl rfl))
   clear h hsz hdf
   refine store_nd rfl (.tmp 2) (.tmp 79) rfl (g:=gz) zN ?_ ?_ hB9 rfl rfl rfl ?_
   ·simp [Act.eval,e2]
   ·simp [Act.eval,e79]
   ·go_wp2;exact ⟨Blk.row hB9 _,rowChg _ _ _ (by simp)⟩
  ·
   intro ac wx hE hF hsz hdf h
   have e80:ac.tmps[80]?=some (errV E 4):=by obtain ⟨v,h1,h2⟩:=h 80 (by decide +kernel);rw [h1];exact congrArg some h2
   clear h hsz hdf
   go_wp2
   exact ⟨_,rfl,rfl,Ext.refl _⟩
  ·intro ac w9 hE hsz hdf h hrest
   obtain ⟨v0,s0,g0⟩:=h 0 _ rfl
   have e0:=g0 79 rfl
   obtain rfl:v0=.agg zN.toArray:=s0
   obtain ⟨v1,s1,g1⟩:=h 1 _ rfl
   have e1:=g1 80 rfl
   obtain rfl:v1=errV E 4:=s1
   obtain ⟨v2,s2,-⟩:=h 2 _ rfl
   replace s2:Blk w9 gz 28 zN:=s2
   obtain ⟨v3,s3,g3⟩:=h 3 _ rfl
   have e3:=g3 3 rfl
   obtain rfl:v3=errV E 4:=s3
   have ha:=act_of [(79,.agg zN.toArray),(80,errV E 4),(3,errV E 4)] rfl hsz hdf (by intro p hp;simp only [List.mem_cons,List.not_mem_nil,or_false] at hp;rcases hp with rfl | rfl | rfl <;> first | exact e0 | exact e1 | exact e3) hrest
   clear h hrest hsz hdf e0 e1 e3 g0 g1 g3
   subst ha
   simp only [List.foldl_cons,List.foldl_nil,Act.put,List.setIfInBounds_toArray,List.set_cons_succ,List.set_cons_zero]
   go_wp2
   exact bodyPost_ret (v:=.tuple #[.agg zN.toArray,ev E 5]) (results_nd2 rfl rfl s2 rfl rfl) rfl (.err_ HR.out ((Chg.of_ext (X:=[p]) hxc.out).trans' hE (by rw [hgz];exact Nat.le_refl _)) rfl (by omega))
 have n43:¬ c=43:=hk
 have d43:((c.toNat:Int) == 43)=false:=by rw [beq_eq_false_iff_ne];intro e;exact hk (UInt8.toNat_inj.1 (show c.toNat=43 by omega))
 clear hk
 by_cases hk:c=63
 focus
  subst hk
  have HR:=Lib.hid (show atomP l (f+1) ne i gr=.err 5 by unfold atomP;rw [HCI.out];rfl)
  obtain ⟨e1,e2,e3,e4,e5,e6⟩:=HEc.out.facts
  have hne1:¬ w.heap.size=4:=by intro e;have:=hNc.out.cell 0;rw [e,e4] at this;simp [errV,zN] at this
  go_upto_region 17 with fail
  have hNz:=hNc
  have HGW:=Lib.hid (Nat.le_refl w.heap.size)
  generalize hgz:w.heap.size=gz at *
  have hne2:¬ 4=gz:=fun e=>hne1 e.symm
  refine wp_region_dagS (E:=Chg [gz]) (F:=Ext) (z:=2) (late:=[]) (w0:=wc) (Φ:=fun i v w=>match i with | 0=>(v=.agg zN.toArray) | 1=>(v=errV E 4) | 2=>(Blk w gz 28 zN) | 3=>(v=errV E 4) | _=>True) (show Tryz.prog.follows .mixedOrders=true from Checked.mixed Tryz.checked) 81 rfl (by decide +kernel) (by decide +kernel) ?_ (by decide +kernel) ?_ ((Below.refl _ _).drew) ((Chg.refl _ _).drew) ?_ ?_ ?_ ⟨?_,?_,?_,?_,trivial⟩ ?_
  ·intro i v w w' h hE
   match i,h with
   | 0,h=>exact h
   | 1,h=>exact h
   | 2,h=>exact Blk.keep h hE
   | 3,h=>exact h
   | _+4,_=>trivial
  ·intro i v w w' hiz hla h hE
   match i,hiz,hla,h with
   | 0,_,_,h=>exact h
   | 1,_,_,h=>exact h
   | 2,hiz,_,_=>exact absurd rfl hiz
   | 3,_,_,h=>exact h
   | _+4,_,_,_=>trivial
  ·exact fun w w' h h'=>h.trans (.of_ext h')
  ·exact fun w w' h h'=>h.trans h'
  ·exact fun w w' h h'=>(Chg.of_ext h).trans h'
  ·
   intro ac wx hE hF hsz hdf h
   clear h hsz hdf
   go_wp2
   exact ⟨_,rfl,rfl,Ext.refl _⟩
  ·
   intro ac wx hE hF hsz hdf h
   clear h hsz hdf
   have e9:=hE.cell e4 (by simp;exact hne2)
   go_wp2
   exact ⟨_,rfl,rfl,Ext.refl _⟩
  ·
   intro ac wx hE hF hsz hdf h
   have e2:ac.tmps[2]?=some (.pointer (some ⟨gz,0,none⟩)):=by obtain ⟨v,h1,h2⟩:=h 2 (by decide +kernel);exact h1.trans (h2.symm.trans rfl)
   have e79:ac.tmps[79]?=some (.agg zN.toArray):=by obtain ⟨v,h1,h2⟩:=h 79 (by decide +kernel);rw [h1];exact congrArg some h2
   have hB9:=hNz.out.keep (hF (.inl rfl))
   clear h hsz hdf
   refine store_nd rfl (.tmp 2) (.tmp 79) rfl (g:=gz) zN ?_ ?_ hB9 rfl rfl rfl ?_
   ·simp [Act.eval,e2]
   ·simp [Act.eval,e79]
   ·go_wp2;exact ⟨Blk.row hB9 _,rowChg _ _ _ (by simp)⟩
  ·
   intro ac wx hE hF hsz hdf h
   have e80:ac.tmps[80]?=some (errV E 4):=by obtain ⟨v,h1,h2⟩:=h 80 (by decide +kernel);rw [h1];exact congrArg some h2
   clear h hsz hdf
   go_wp2
   exact ⟨_,rfl,rfl,Ext.refl _⟩
  ·intro ac w9 hE hsz hdf h hrest
   obtain ⟨v0,s0,g0⟩:=h 0 _ rfl
   have e0:=g0 79 rfl
   obtain rfl:v0=.agg zN.toArray:=s0
   obtain ⟨v1,s1,g1⟩:=h 1 _ rfl
   have e1:=g1 80 rfl
   obtain rfl:v1=errV E 4:=s1
   obtain ⟨v2,s2,-⟩:=h 2 _ rfl
   replace s2:Blk w9 gz 28 zN:=s2
   obtain ⟨v3,s3,g3⟩:=h 3 _ rfl
   have e3:=g3 3 rfl
   obtain rfl:v3=errV E 4:=s3
   have ha:=act_of [(79,.agg zN.toArray),(80,errV E 4),(3,errV E 4)] rfl hsz hdf (by intro p hp;simp only [List.mem_cons,List.not_mem_nil,or_false] at hp;rcases hp with rfl | rfl | rfl <;> first | exact e0 | exact e1 | exact e3) hrest
   clear h hrest hsz hdf e0 e1 e3 g0 g1 g3
   subst ha
   simp only [List.foldl_cons,List.foldl_nil,Act.put,List.setIfInBounds_toArray,List.set_cons_succ,List.set_cons_zero]
   go_wp2
   exact bodyPost_ret (v:=.tuple #[.agg zN.toArray,ev E 5]) (results_nd2 rfl rfl s2 rfl rfl) rfl (.err_ HR.out ((Chg.of_ext (X:=[p]) hxc.out).trans' hE (by rw [hgz];exact Nat.le_refl _)) rfl (by omega))
 have n63:¬ c=63:=hk
 have d63:((c.toNat:Int) == 63)=false:=by rw [beq_eq_false_iff_ne];intro e;exact hk (UInt8.toNat_inj.1 (show c.toNat=63 by omega))
 clear hk
 have HR:=Lib.hid (show atomP l (f+1) ne i gr=setP (fun j=>j == c.toNat) 1 0 i gr by unfold atomP;rw [HCI.out];simp only [n40,n91,n92,n46,n42,n43,n63,if_false,or_self])
 have HN2:=Lib.hid (show setP (fun j=>j == c.toNat) 1 0 i gr ≠ .out from by rw [← HR.out];exact HNO.out)
 clear n40 n91 n92 n46 n42 n43 n63
 go_wp2_with (first | (have:=hR2;refine store_nd rfl (.tmp 2) (.tmp 33) rfl (g:=w.heap.size) cells rfl rfl hB5 rfl h8 h1 ?_) | (have:=hx4;go_at_call 90;refine (rxSet E (fun j=>j == c.toNat) 1 0 HI1.out (.inl rfl) hgr _ (HPc.out.keep hx4)).mono ?_;rintro e w5 hR;obtain ⟨cells,va,rfl,h8,h1,hB5,hR2⟩:=PRes.pass hR HN2.out (.of_ext (Ext.trans hxc.out hx4)) (Nat.le_refl _) (Nat.lt_of_lt_of_le hgc.out hx4.size) hpg.out (hNc.out.keep hx4)) | (go_at_call 20;refine (setOne c.toNat hc6 _).mono ?_;rintro e w4 ⟨rfl,hx4⟩))
 exact bodyPost_ret (v:=.tuple #[.agg cells.toArray,va]) (results_nd2 rfl rfl (Blk.row hB5 _) h8 rfl) rfl (by rw [HR.out];exact hR2)
end Go.Proofs.YtigmdlchbjanoaaGreatDoor
namespace Go.Proofs.YtigmdlchbjanoaaGreatDoor
open Go Go.RowKit
attribute [local irreducible] wd
def ItemOK (E:Nat→Addr) (l:List UInt8) (f:Nat):Prop:=
 ∀ (p ne i gr:Nat) (w:World),itemP l f ne i gr ≠ .out→i<l.length→ne≤8→gr≤9→PS w p l i ne gr→Env E w→Calls Tryz.prog 80 #[.pointer (some ⟨p,0,none⟩)] w fun e w'=>PRes E p l ne w (itemP l f ne i gr) e w'
theorem PRes.ok_ {E:Nat→Addr} {p:Nat} {l:List UInt8} {ne:Nat} {w w':World} {r:PR} {e:Ending} {t:T} {i gr:Nat} {v:List Value} (hr:r=.ok t i gr) (hc:Chg [p] w w') (he:e=.returned (.tuple #[.agg v.toArray,.nilIface])) (hv:NodeV (fun b=>w.heap.size≤b) w' t v) (hp:PS w' p l i ne gr) (h9:gr≤9):PRes E p l ne w r e w':=by
 subst hr;exact ⟨hc,v,he,hv,hp,h9⟩
structure ItNow (E:Nat→Addr) (p:Nat) (l:List UInt8) (ne i gr:Nat) (w0:World) (gz gb:Nat) (t:T) (k m:Int) (z:Bool) (q:Nat→Bool) (B:Option Addr) (n c:Nat) (w:World):Prop where
 ps:PS w p l i ne gr
 ch:Chg [p] w0 w
 en:Env E w
 ze:Blk w gz 28 zN
 bo:NodeB w gb k m z q B n c
 vv:NodeV (fun b=>gz<b∧b ≠ gb) w t (nodeC k m z q B n c)
theorem ItNow.keep {E:Nat→Addr} {p:Nat} {l:List UInt8} {ne i gr:Nat} {w0:World} {gz gb:Nat} {t:T} {k m:Int} {z:Bool} {q:Nat→Bool} {B:Option Addr} {n c:Nat} {w w':World} (h:ItNow E p l ne i gr w0 gz gb t k m z q B n c w) (hx:Ext w w'):ItNow E p l ne i gr w0 gz gb t k m z q B n c w':=
 ⟨h.ps.keep hx,h.ch.trans (.of_ext hx),h.en.keep hx,h.ze.keep hx,h.bo.keep hx,h.vv.keep hx⟩
theorem ItNow.at_ {E:Nat→Addr} {p:Nat} {l:List UInt8} {ne i gr:Nat} {w0:World} {gz gb:Nat} {t:T} {k m:Int} {z:Bool} {q:Nat→Bool} {B:Option Addr} {n c:Nat} {w:World} (h:ItNow E p l ne i gr w0 gz gb t k m z q B n c w) (hpz:p<gz) (hpb:p<gb) {x:Int} {i':Nat} (hx:x=(i':Nat)) :
  ItNow E p l ne i' gr w0 gz gb t k m z q B n c (w.setCell ⟨p,1,none⟩ (.int .i64 x)):=
 ⟨h.ps.at_ hx,h.ch.setCell (by simp) _,h.en.chg h.ps ((Chg.refl _ _).setCell (by simp) _),Blk.far h.ze (by simp;omega) _,Blk.far h.bo (by simp;omega) _,h.vv.chg ((Chg.refl [p] _).setCell (by simp) _) (by intro y hy;simp at hy;omega)⟩
theorem node0 (k m:Int) (z:Bool) (A:Option Addr) (n c:Nat):nodeC k m z noP A n c=[.int .i64 k,.int .i64 m,.bool z,.int .u64 0,.int .u64 0,.int .u64 0,.int .u64 0,.slice A n c]:=by
 unfold nodeC
 have e:∀ j,wd noP j=0:=fun j=>wd_none j
 rw [e,e,e,e]
 rfl
theorem one_kid {S S':Nat→Prop} {w:World} {t:T} {cs:List Value} (h:NodeV S w t cs) (kd m:Int) (z:Bool) (hS:∀ b,b<w.heap.size→S b→S' b) (hn:S' w.heap.size) :
  NodeV S' (w.alloc (.cells cs.toArray 28)) (.node kd m z noP [t]) [.int .i64 kd,.int .i64 m,.bool z,.int .u64 0,.int .u64 0,.int .u64 0,.int .u64 0,.slice (some ⟨w.heap.size,0,none⟩) 1 1]:=by
 have h8:=nodeV_len h
 unfold NodeV
 refine ⟨some ⟨w.heap.size,0,none⟩,1,cs,(node0 _ _ _ _ _ _).symm,Nat.le_refl _,by unfold maxLen;omega,?_,fun b o x e _=>by cases e;exact hn,kidsV_one ((h.mono hS).keep (Ext.new1 _ _))⟩
 have:=Blk.rd (n:=1) (size:=8) (Blk.newA (w:=w) rfl 28 cs) 0 (by omega)
 rw [List.drop_zero,List.take_of_length_le (by omega)] at this
 exact this
set_option maxHeartbeats 8000000 in
set_option maxRecDepth 20000 in
theorem rxItem (E:Nat→Addr) (l:List UInt8) (hl:l.length≤10000) (f:Nat) (hA:AtomOK E l f):ItemOK E l (f+1):=by
 intro p ne i gr w hno hi hne hgr hP hE
 have hpl:=hP.lt
 have hN0:=Lib.hid (Blk.newA (w:=w) (g:=w.heap.size) rfl 28 zN)
 have hx0:=Lib.hid (Ext.new1 w (.cells zN.toArray 28))
 have HP:=Lib.hid hP
 have HE:=Lib.hid hE
 have HPG:=Lib.hid (show p ≠ w.heap.size by omega)
 obtain ⟨r1,hr1⟩:∃ r1,atomP l f ne i gr=r1:=⟨_,rfl⟩
 have hno1:atomP l f ne i gr ≠ .out:=fun e=>hno (by unfold itemP;rw [e])
 have HNO1:=Lib.hid hno1
 clear hP hE hno1
 unfold zN at hN0 hx0
 cases r1 with
 | out=>exact absurd hr1 HNO1.out
 | err k =>
  have HR:=Lib.hid (show itemP l (f+1) ne i gr=.err k by unfold itemP;rw [hr1])
  have HR1:=Lib.hid hr1
  clear hr1 hno
  go_enter Tryz.func80,Tryz.ntmps80
  go_wp2_with fail
  go_at_call 84
  refine (hA p ne i gr _ HNO1.out hi hne hgr (HP.out.keep hx0.out) (HE.out.keep hx0.out)).mono ?_
  rintro e w5 hR
  rw [HR1.out] at hR
  obtain ⟨hC5,rfl,hk⟩:=hR
  obtain ⟨k,rfl⟩:∃ k',k=k' + 1:=⟨k-1,by omega⟩
  have hB5:=Lib.hid (hN0.out.chg hC5 (by simp;exact fun e=>HPG.out e.symm))
  have hC:=Lib.hid ((Chg.of_ext (X:=[p]) hx0.out).trans hC5)
  have hn:=fun w=>run_eql_iface_nil (P:=Tryz.prog) (w:=w) 30 (by kernel_rfl) 151 (.pointer (some (E k)))
  have HK:=Lib.hid hk
  clear hk hC5
  unfold ev errV zN
  go_wp2_with (refine store_nd rfl (.tmp 2) (.tmp 15) rfl (g:=w.heap.size) zN rfl rfl (hB5.out.alloc _) rfl rfl rfl ?_)
  exact bodyPost_ret (v:=.tuple #[.agg zN.toArray,ev E (k+1)]) (results_nd2 rfl rfl (Blk.row (hB5.out.alloc _) _) rfl rfl) rfl (.err_ HR.out (Chg.rowX (hC.out.trans (.of_ext (Ext.new1 _ _))) _ _ (Nat.le_refl _)) rfl HK.out)
 | ok t i1 gr1 =>
  have hb1:=(bounds_all l f).atom ne i gr t i1 gr1 hr1
  have hrep:itemP l (f+1) ne i gr=repP l t i1 gr1:=by unfold itemP;rw [hr1]
  have HR1:=Lib.hid hr1
  have HREP:=Lib.hid hrep
  have HB1:=Lib.hid (show i<i1∧i1≤l.length from ⟨hb1.1,hb1.2.1⟩)
  clear hr1 hno hb1 hrep
  go_enter Tryz.func80,Tryz.ntmps80
  go_wp2_with fail
  go_at_call 84
  refine (hA p ne i gr _ HNO1.out hi hne hgr (HP.out.keep hx0.out) (HE.out.keep hx0.out)).mono ?_
  rintro e w5 hR
  rw [HR1.out] at hR
  obtain ⟨hC5,v,rfl,hv,hp5,h95⟩:=hR
  obtain ⟨k,m,z,q,B,n,c,rfl⟩:=nodeV_form hv
  have hsz5:=hC5.size
  have hN:ItNow E p l ne i1 gr1 w w.heap.size w5.heap.size t k m z q B n c (w5.alloc (.cells (nodeC k m z q B n c).toArray 28)):=
   ⟨hp5.keep (Ext.new1 _ _),((Chg.of_ext (X:=[p]) hx0.out).trans hC5).trans (.of_ext (Ext.new1 _ _)),((HE.out.keep hx0.out).chg (HP.out.keep hx0.out) hC5).keep (Ext.new1 _ _),(hN0.out.chg hC5 (by simp;exact fun e=>HPG.out e.symm)).keep (Ext.new1 _ _),NodeB.new _ _ _ _ _ _ _ _,
    (hv.mono (fun b hb h=>by simp at h;exact ⟨by omega,by omega⟩)).keep (Ext.new1 _ _)⟩
  have HN:=Lib.hid hN
  have H9:=Lib.hid h95
  have HGG:=Lib.hid (show w.heap.size<w5.heap.size by simp at hsz5;omega)
  clear hN hv hp5 hC5 h95 hsz5 hN0 hx0
  unfold nodeC at HN ⊢
  go_upto_region 5 with fail
  generalize w5.alloc (.cells #[.int .i64 k,.int .i64 m,.bool z,.int .u64 (wd q 0:Nat),.int .u64 (wd q 1:Nat),.int .u64 (wd q 2:Nat),.int .u64 (wd q 3:Nat),.slice B n c] 28)=wb at *
  generalize w5.heap.size=gb at *
  have HPZ:=Lib.hid hpl
  have HPB:=Lib.hid (show p<gb from by have:=HGG.out;omega)
  obtain ⟨pv,hpv⟩:∃ pv,pkV l i1=pv:=⟨_,rfl⟩
  by_cases c42:l[i1]?=some 42
  focus
   have hi1:=(List.getElem?_eq_some_iff.1 c42).1
   have hpv2:pkV l i1=42:=pk_is 42 c42 42 rfl
   have HPK:=Lib.hid hpv2
   have HC:=Lib.hid c42
   have hw1:IntKind.i64.wrap ((i1:Int)+1)=(i1:Int)+1:=wrap_id (by omega) (by omega)
   have hw2:IntKind.i64.wrap ((i1:Int)+1+1)=(i1:Int)+1+1:=wrap_id (by omega) (by omega)
   clear c42 hpv hpv2
   cases hnu:t.nullable
   focus
    have HNU:=Lib.hid hnu
    clear hnu
    go_upto_region 15 with (first | (have:=hx6;go_at_call 24;refine (rxNullableN _ t (Nat.le_refl _) _ _ (nodeC k m z q B n c) (HN.out.keep hx6).vv).mono ?_;rintro e w7 ⟨rfl,hx7⟩;rw [HNU.out]) | (go_at_call 71;refine (rxPeek HB1.out.2 _ HN.out.ps).mono ?_;rintro e w6 ⟨rfl,hx6⟩;rw [HPK.out];obtain ⟨b0,b1,b2,b3,b4,b5,b6,b7⟩:=(HN.out.keep hx6).bo.cells))
    have HN7:=Lib.hid ((HN.out.keep hx6).keep hx7)
    obtain ⟨wc,hwc⟩:∃ wc,w7=wc:=⟨_,rfl⟩
    rw [hwc] at HN7
    subst hwc
    clear b0 b1 b2 b3 b4 b5 b6 b7
    obtain ⟨p0,p1,p2,p3⟩:=HN7.out.ps.cells
    have f1:=HN7.out.ps.frozen 1
    go_upto_region 16 with fail
    have HN8:=Lib.hid (HN7.out.at_ HPZ.out HPB.out (x:=(i1:Int)+1) (i':=i1+1) (by omega))
    clear p0 p1 p2 p3 f1
    generalize (World.setCell _ ⟨p,1,none⟩ (.int .i64 ((i1:Int)+1)))=w8 at *
    obtain ⟨z1,hz1⟩:∃ z1,decide (l[i1+1]?=some 63)=z1:=⟨_,rfl⟩
    have hpv3:(pkV l (i1+1) == 63)=z1:=by
     rw [← hz1]
     by_cases e:l[i1+1]?=some 63
     ·rw [pk_is 63 e 63 rfl];simp [e]
     ·rw [show (pkV l (i1+1) == 63)=false from pk_not 63 e];simp [e]
    have HRP:=Lib.hid (show repP l t i1 gr1=.ok (.node 5 0 z1 noP [t]) (if z1 then i1+2 else i1+1) gr1 by unfold repP;rw [HC.out];simp [hz1,HNU.out])
    obtain ⟨pv2,hpv4⟩:∃ pv2,pkV l (i1+1)=pv2:=⟨_,rfl⟩
    rw [hpv4] at hpv3
    have HPK2:=Lib.hid hpv4
    clear hz1 hpv4
    cases z1
    ·skip
     go_upto_region 19 with (go_at_call 71;refine (rxPeek (i:=i1+1) hi1 _ HN8.out.ps).mono ?_;rintro e w9 ⟨rfl,hx9⟩;rw [HPK2.out])
     have HNF:=Lib.hid (HN8.out.keep hx9)
     generalize w9=wf at *
     obtain ⟨b0,b1,b2,b3,b4,b5,b6,b7⟩:=HNF.out.bo.cells
     have hkid:=one_kid (S':=fun b=>w.heap.size<b) HNF.out.vv 5 0 false (fun b _ h=>h.1) (by have:=HNF.out.ze.lt;exact this)
     have HKID:=Lib.hid hkid
     clear hkid
     go_wp2_with (refine store_nd rfl (.tmp 2) (.tmp 56) rfl (g:=w.heap.size) [.int .i64 5,.int .i64 0,.bool false,.int .u64 0,.int .u64 0,.int .u64 0,.int .u64 0,.slice (some ⟨wf.heap.size,0,none⟩) 1 1] rfl rfl (HNF.out.ze.alloc _) rfl rfl rfl ?_)
     exact bodyPost_ret (v:=.tuple #[.agg ([.int .i64 5,.int .i64 0,.bool false,.int .u64 0,.int .u64 0,.int .u64 0,.int .u64 0,.slice (some ⟨wf.heap.size,0,none⟩) 1 1]:List Value).toArray,.nilIface]) (results_nd2 rfl rfl (Blk.row (HNF.out.ze.alloc _) _) rfl rfl) rfl (.ok_ (by rw [HREP.out,HRP.out];rfl) (Chg.rowX (HNF.out.ch.trans (.of_ext (Ext.new1 _ _))) _ _ (Nat.le_refl _)) rfl ((HKID.out.chg (rowChg _ _ _ (List.mem_singleton.2 rfl)) (by intro y hy;simp at hy;omega)).mono (fun b _ h=>by omega)) ((HNF.out.ps.keep (Ext.new1 _ _)).rowFar _ HPG.out) H9.out)
    ·skip
     go_upto_region 18 with (go_at_call 71;refine (rxPeek (i:=i1+1) hi1 _ HN8.out.ps).mono ?_;rintro e w9 ⟨rfl,hx9⟩;rw [HPK2.out])
     obtain ⟨p0,p1,p2,p3⟩:=(HN8.out.keep hx9).ps.cells
     simp only [Int.natCast_add,Int.cast_ofNat_Int] at p1
     have f1:=(HN8.out.keep hx9).ps.frozen 1
     go_upto_region 19 with fail
     have HNF:=Lib.hid ((HN8.out.keep hx9).at_ HPZ.out HPB.out (x:=(i1:Int)+1+1) (i':=i1+2) (by omega))
     clear p0 p1 p2 p3 f1
     generalize (World.setCell _ ⟨p,1,none⟩ (.int .i64 ((i1:Int)+1+1)))=wf at *
     obtain ⟨b0,b1,b2,b3,b4,b5,b6,b7⟩:=HNF.out.bo.cells
     have hkid:=one_kid (S':=fun b=>w.heap.size<b) HNF.out.vv 5 0 true (fun b _ h=>h.1) (by have:=HNF.out.ze.lt;exact this)
     have HKID:=Lib.hid hkid
     clear hkid
     go_wp2_with (refine store_nd rfl (.tmp 2) (.tmp 56) rfl (g:=w.heap.size) [.int .i64 5,.int .i64 0,.bool true,.int .u64 0,.int .u64 0,.int .u64 0,.int .u64 0,.slice (some ⟨wf.heap.size,0,none⟩) 1 1] rfl rfl (HNF.out.ze.alloc _) rfl rfl rfl ?_)
     exact bodyPost_ret (v:=.tuple #[.agg ([.int .i64 5,.int .i64 0,.bool true,.int .u64 0,.int .u64 0,.int .u64 0,.int .u64 0,.slice (some ⟨wf.heap.size,0,none⟩) 1 1]:List Value).toArray,.nilIface]) (results_nd2 rfl rfl (Blk.row (HNF.out.ze.alloc _) _) rfl rfl) rfl (.ok_ (by rw [HREP.out,HRP.out];rfl) (Chg.rowX (HNF.out.ch.trans (.of_ext (Ext.new1 _ _))) _ _ (Nat.le_refl _)) rfl ((HKID.out.chg (rowChg _ _ _ (List.mem_singleton.2 rfl)) (by intro y hy;simp at hy;omega)).mono (fun b _ h=>by omega)) ((HNF.out.ps.keep (Ext.new1 _ _)).rowFar _ HPG.out) H9.out)
   focus
    have HNU:=Lib.hid hnu
    clear hnu
    have HRP:=Lib.hid (show repP l t i1 gr1=.err 15 by unfold repP;rw [HC.out];simp [HNU.out])
    go_upto_region 14 with (first | (have:=hx6;go_at_call 24;refine (rxNullableN _ t (Nat.le_refl _) _ _ (nodeC k m z q B n c) (HN.out.keep hx6).vv).mono ?_;rintro e w7 ⟨rfl,hx7⟩;rw [HNU.out]) | (go_at_call 71;refine (rxPeek HB1.out.2 _ HN.out.ps).mono ?_;rintro e w6 ⟨rfl,hx6⟩;rw [HPK.out];obtain ⟨b0,b1,b2,b3,b4,b5,b6,b7⟩:=(HN.out.keep hx6).bo.cells))
    have HN7:=Lib.hid ((HN.out.keep hx6).keep hx7)
    obtain ⟨e1,e2,e3,e4,e5,e6⟩:=HN7.out.en.facts
    have hne1:¬ w.heap.size=1:=by intro e;have:=HN7.out.ze.cell 0;rw [e,e6] at this;simp [errV,zN] at this
    have hNz:=Lib.hid HN7.out.ze
    have hCz:=Lib.hid HN7.out.ch
    have HGW:=Lib.hid (Nat.le_refl w.heap.size)
    generalize hgz:w.heap.size=gz at *
    have hne2:¬ 1=gz:=fun e=>hne1 e.symm
    refine wp_region_dagS (E:=Chg [gz]) (F:=Ext) (z:=2) (late:=[]) (w0:=w7) (Φ:=fun i v w=>match i with | 0=>(v=.agg zN.toArray) | 1=>(v=errV E 14) | 2=>(Blk w gz 28 zN) | 3=>(v=errV E 14) | _=>True) (show Tryz.prog.follows .mixedOrders=true from Checked.mixed Tryz.checked) 57 rfl (by decide +kernel) (by decide +kernel) ?_ (by decide +kernel) ?_ ((Below.refl _ _).drew) ((Chg.refl _ _).drew) ?_ ?_ ?_ ⟨?_,?_,?_,?_,trivial⟩ ?_
    ·intro i v w w' h hE
     match i,h with
     | 0,h=>exact h
     | 1,h=>exact h
     | 2,h=>exact Blk.keep h hE
     | 3,h=>exact h
     | _+4,_=>trivial
    ·intro i v w w' hiz hla h hE
     match i,hiz,hla,h with
     | 0,_,_,h=>exact h
     | 1,_,_,h=>exact h
     | 2,hiz,_,_=>exact absurd rfl hiz
     | 3,_,_,h=>exact h
     | _+4,_,_,_=>trivial
    ·exact fun w w' h h'=>h.trans (.of_ext h')
    ·exact fun w w' h h'=>h.trans h'
    ·exact fun w w' h h'=>(Chg.of_ext h).trans h'
    ·
     intro ac wx hE hF hsz hdf h
     clear h hsz hdf
     go_wp2
     exact ⟨_,rfl,rfl,Ext.refl _⟩
    ·
     intro ac wx hE hF hsz hdf h
     clear h hsz hdf
     have e9:=hE.cell e6 (by simp;exact hne2)
     go_wp2
     exact ⟨_,rfl,rfl,Ext.refl _⟩
    ·
     intro ac wx hE hF hsz hdf h
     have e2:ac.tmps[2]?=some (.pointer (some ⟨gz,0,none⟩)):=by obtain ⟨v,h1,h2⟩:=h 2 (by decide +kernel);exact h1.trans (h2.symm.trans rfl)
     have e32:ac.tmps[32]?=some (.agg zN.toArray):=by obtain ⟨v,h1,h2⟩:=h 32 (by decide +kernel);rw [h1];exact congrArg some h2
     have hB9:=hNz.out.keep (hF (.inl rfl))
     clear h hsz hdf
     refine store_nd rfl (.tmp 2) (.tmp 32) rfl (g:=gz) zN ?_ ?_ hB9 rfl rfl rfl ?_
     ·simp [Act.eval,e2]
     ·simp [Act.eval,e32]
     ·go_wp2;exact ⟨Blk.row hB9 _,rowChg _ _ _ (by simp)⟩
    ·
     intro ac wx hE hF hsz hdf h
     have e33:ac.tmps[33]?=some (errV E 14):=by obtain ⟨v,h1,h2⟩:=h 33 (by decide +kernel);rw [h1];exact congrArg some h2
     clear h hsz hdf
     go_wp2
     exact ⟨_,rfl,rfl,Ext.refl _⟩
    ·intro ac w9 hE hsz hdf h hrest
     obtain ⟨v0,s0,g0⟩:=h 0 _ rfl
     have e0:=g0 32 rfl
     obtain rfl:v0=.agg zN.toArray:=s0
     obtain ⟨v1,s1,g1⟩:=h 1 _ rfl
     have e1:=g1 33 rfl
     obtain rfl:v1=errV E 14:=s1
     obtain ⟨v2,s2,-⟩:=h 2 _ rfl
     replace s2:Blk w9 gz 28 zN:=s2
     obtain ⟨v3,s3,g3⟩:=h 3 _ rfl
     have e3:=g3 3 rfl
     obtain rfl:v3=errV E 14:=s3
     have ha:=act_of [(32,.agg zN.toArray),(33,errV E 14),(3,errV E 14)] rfl hsz hdf (by intro p hp;simp only [List.mem_cons,List.not_mem_nil,or_false] at hp;rcases hp with rfl | rfl | rfl <;> first | exact e0 | exact e1 | exact e3) hrest
     clear h hrest hsz hdf e0 e1 e3 g0 g1 g3
     subst ha
     simp only [List.foldl_cons,List.foldl_nil,Act.put,List.setIfInBounds_toArray,List.set_cons_succ,List.set_cons_zero]
     go_wp2
     exact bodyPost_ret (v:=.tuple #[.agg zN.toArray,ev E 15]) (results_nd2 rfl rfl s2 rfl rfl) rfl (.err_ (by rw [HREP.out,HRP.out]) (hCz.out.trans' hE (by rw [hgz];exact Nat.le_refl _)) rfl (by omega))
  by_cases c43:l[i1]?=some 43
  focus
   have hi1:=(List.getElem?_eq_some_iff.1 c43).1
   have hpv2:pkV l i1=43:=pk_is 43 c43 43 rfl
   have HPK:=Lib.hid hpv2
   have HC:=Lib.hid c43
   have hw1:IntKind.i64.wrap ((i1:Int)+1)=(i1:Int)+1:=wrap_id (by omega) (by omega)
   have hw2:IntKind.i64.wrap ((i1:Int)+1+1)=(i1:Int)+1+1:=wrap_id (by omega) (by omega)
   clear c43 hpv hpv2
   cases hnu:t.nullable
   focus
    have HNU:=Lib.hid hnu
    clear hnu
    go_upto_region 15 with (first | (have:=hx6;go_at_call 24;refine (rxNullableN _ t (Nat.le_refl _) _ _ (nodeC k m z q B n c) (HN.out.keep hx6).vv).mono ?_;rintro e w7 ⟨rfl,hx7⟩;rw [HNU.out]) | (go_at_call 71;refine (rxPeek HB1.out.2 _ HN.out.ps).mono ?_;rintro e w6 ⟨rfl,hx6⟩;rw [HPK.out];obtain ⟨b0,b1,b2,b3,b4,b5,b6,b7⟩:=(HN.out.keep hx6).bo.cells))
    have HN7:=Lib.hid ((HN.out.keep hx6).keep hx7)
    obtain ⟨wc,hwc⟩:∃ wc,w7=wc:=⟨_,rfl⟩
    rw [hwc] at HN7
    subst hwc
    clear b0 b1 b2 b3 b4 b5 b6 b7
    obtain ⟨p0,p1,p2,p3⟩:=HN7.out.ps.cells
    have f1:=HN7.out.ps.frozen 1
    go_upto_region 16 with fail
    have HN8:=Lib.hid (HN7.out.at_ HPZ.out HPB.out (x:=(i1:Int)+1) (i':=i1+1) (by omega))
    clear p0 p1 p2 p3 f1
    generalize (World.setCell _ ⟨p,1,none⟩ (.int .i64 ((i1:Int)+1)))=w8 at *
    obtain ⟨z1,hz1⟩:∃ z1,decide (l[i1+1]?=some 63)=z1:=⟨_,rfl⟩
    have hpv3:(pkV l (i1+1) == 63)=z1:=by
     rw [← hz1]
     by_cases e:l[i1+1]?=some 63
     ·rw [pk_is 63 e 63 rfl];simp [e]
     ·rw [show (pkV l (i1+1) == 63)=false from pk_not 63 e];simp [e]
    have HRP:=Lib.hid (show repP l t i1 gr1=.ok (.node 6 0 z1 noP [t]) (if z1 then i1+2 else i1+1) gr1 by unfold repP;rw [HC.out];simp [hz1,HNU.out])
    obtain ⟨pv2,hpv4⟩:∃ pv2,pkV l (i1+1)=pv2:=⟨_,rfl⟩
    rw [hpv4] at hpv3
    have HPK2:=Lib.hid hpv4
    clear hz1 hpv4
    cases z1
    ·skip
     go_upto_region 19 with (go_at_call 71;refine (rxPeek (i:=i1+1) hi1 _ HN8.out.ps).mono ?_;rintro e w9 ⟨rfl,hx9⟩;rw [HPK2.out])
     have HNF:=Lib.hid (HN8.out.keep hx9)
     generalize w9=wf at *
     obtain ⟨b0,b1,b2,b3,b4,b5,b6,b7⟩:=HNF.out.bo.cells
     have hkid:=one_kid (S':=fun b=>w.heap.size<b) HNF.out.vv 6 0 false (fun b _ h=>h.1) (by have:=HNF.out.ze.lt;exact this)
     have HKID:=Lib.hid hkid
     clear hkid
     go_wp2_with (refine store_nd rfl (.tmp 2) (.tmp 56) rfl (g:=w.heap.size) [.int .i64 6,.int .i64 0,.bool false,.int .u64 0,.int .u64 0,.int .u64 0,.int .u64 0,.slice (some ⟨wf.heap.size,0,none⟩) 1 1] rfl rfl (HNF.out.ze.alloc _) rfl rfl rfl ?_)
     exact bodyPost_ret (v:=.tuple #[.agg ([.int .i64 6,.int .i64 0,.bool false,.int .u64 0,.int .u64 0,.int .u64 0,.int .u64 0,.slice (some ⟨wf.heap.size,0,none⟩) 1 1]:List Value).toArray,.nilIface]) (results_nd2 rfl rfl (Blk.row (HNF.out.ze.alloc _) _) rfl rfl) rfl (.ok_ (by rw [HREP.out,HRP.out];rfl) (Chg.rowX (HNF.out.ch.trans (.of_ext (Ext.new1 _ _))) _ _ (Nat.le_refl _)) rfl ((HKID.out.chg (rowChg _ _ _ (List.mem_singleton.2 rfl)) (by intro y hy;simp at hy;omega)).mono (fun b _ h=>by omega)) ((HNF.out.ps.keep (Ext.new1 _ _)).rowFar _ HPG.out) H9.out)
    ·skip
     go_upto_region 18 with (go_at_call 71;refine (rxPeek (i:=i1+1) hi1 _ HN8.out.ps).mono ?_;rintro e w9 ⟨rfl,hx9⟩;rw [HPK2.out])
     obtain ⟨p0,p1,p2,p3⟩:=(HN8.out.keep hx9).ps.cells
     simp only [Int.natCast_add,Int.cast_ofNat_Int] at p1
     have f1:=(HN8.out.keep hx9).ps.frozen 1
     go_upto_region 19 with fail
     have HNF:=Lib.hid ((HN8.out.keep hx9).at_ HPZ.out HPB.out (x:=(i1:Int)+1+1) (i':=i1+2) (by omega))
     clear p0 p1 p2 p3 f1
     generalize (World.setCell _ ⟨p,1,none⟩ (.int .i64 ((i1:Int)+1+1)))=wf at *
     obtain ⟨b0,b1,b2,b3,b4,b5,b6,b7⟩:=HNF.out.bo.cells
     have hkid:=one_kid (S':=fun b=>w.heap.size<b) HNF.out.vv 6 0 true (fun b _ h=>h.1) (by have:=HNF.out.ze.lt;exact this)
     have HKID:=Lib.hid hkid
     clear hkid
     go_wp2_with (refine store_nd rfl (.tmp 2) (.tmp 56) rfl (g:=w.heap.size) [.int .i64 6,.int .i64 0,.bool true,.int .u64 0,.int .u64 0,.int .u64 0,.int .u64 0,.slice (some ⟨wf.heap.size,0,none⟩) 1 1] rfl rfl (HNF.out.ze.alloc _) rfl rfl rfl ?_)
     exact bodyPost_ret (v:=.tuple #[.agg ([.int .i64 6,.int .i64 0,.bool true,.int .u64 0,.int .u64 0,.int .u64 0,.int .u64 0,.slice (some ⟨wf.heap.size,0,none⟩) 1 1]:List Value).toArray,.nilIface]) (results_nd2 rfl rfl (Blk.row (HNF.out.ze.alloc _) _) rfl rfl) rfl (.ok_ (by rw [HREP.out,HRP.out];rfl) (Chg.rowX (HNF.out.ch.trans (.of_ext (Ext.new1 _ _))) _ _ (Nat.le_refl _)) rfl ((HKID.out.chg (rowChg _ _ _ (List.mem_singleton.2 rfl)) (by intro y hy;simp at hy;omega)).mono (fun b _ h=>by omega)) ((HNF.out.ps.keep (Ext.new1 _ _)).rowFar _ HPG.out) H9.out)
   focus
    have HNU:=Lib.hid hnu
    clear hnu
    have HRP:=Lib.hid (show repP l t i1 gr1=.err 15 by unfold repP;rw [HC.out];simp [HNU.out])
    go_upto_region 14 with (first | (have:=hx6;go_at_call 24;refine (rxNullableN _ t (Nat.le_refl _) _ _ (nodeC k m z q B n c) (HN.out.keep hx6).vv).mono ?_;rintro e w7 ⟨rfl,hx7⟩;rw [HNU.out]) | (go_at_call 71;refine (rxPeek HB1.out.2 _ HN.out.ps).mono ?_;rintro e w6 ⟨rfl,hx6⟩;rw [HPK.out];obtain ⟨b0,b1,b2,b3,b4,b5,b6,b7⟩:=(HN.out.keep hx6).bo.cells))
    have HN7:=Lib.hid ((HN.out.keep hx6).keep hx7)
    obtain ⟨e1,e2,e3,e4,e5,e6⟩:=HN7.out.en.facts
    have hne1:¬ w.heap.size=1:=by intro e;have:=HN7.out.ze.cell 0;rw [e,e6] at this;simp [errV,zN] at this
    have hNz:=Lib.hid HN7.out.ze
    have hCz:=Lib.hid HN7.out.ch
    have HGW:=Lib.hid (Nat.le_refl w.heap.size)
    generalize hgz:w.heap.size=gz at *
    have hne2:¬ 1=gz:=fun e=>hne1 e.symm
    refine wp_region_dagS (E:=Chg [gz]) (F:=Ext) (z:=2) (late:=[]) (w0:=w7) (Φ:=fun i v w=>match i with | 0=>(v=.agg zN.toArray) | 1=>(v=errV E 14) | 2=>(Blk w gz 28 zN) | 3=>(v=errV E 14) | _=>True) (show Tryz.prog.follows .mixedOrders=true from Checked.mixed Tryz.checked) 57 rfl (by decide +kernel) (by decide +kernel) ?_ (by decide +kernel) ?_ ((Below.refl _ _).drew) ((Chg.refl _ _).drew) ?_ ?_ ?_ ⟨?_,?_,?_,?_,trivial⟩ ?_
    ·intro i v w w' h hE
     match i,h with
     | 0,h=>exact h
     | 1,h=>exact h
     | 2,h=>exact Blk.keep h hE
     | 3,h=>exact h
     | _+4,_=>trivial
    ·intro i v w w' hiz hla h hE
     match i,hiz,hla,h with
     | 0,_,_,h=>exact h
     | 1,_,_,h=>exact h
     | 2,hiz,_,_=>exact absurd rfl hiz
     | 3,_,_,h=>exact h
     | _+4,_,_,_=>trivial
    ·exact fun w w' h h'=>h.trans (.of_ext h')
    ·exact fun w w' h h'=>h.trans h'
    ·exact fun w w' h h'=>(Chg.of_ext h).trans h'
    ·
     intro ac wx hE hF hsz hdf h
     clear h hsz hdf
     go_wp2
     exact ⟨_,rfl,rfl,Ext.refl _⟩
    ·
     intro ac wx hE hF hsz hdf h
     clear h hsz hdf
     have e9:=hE.cell e6 (by simp;exact hne2)
     go_wp2
     exact ⟨_,rfl,rfl,Ext.refl _⟩
    ·
     intro ac wx hE hF hsz hdf h
     have e2:ac.tmps[2]?=some (.pointer (some ⟨gz,0,none⟩)):=by obtain ⟨v,h1,h2⟩:=h 2 (by decide +kernel);exact h1.trans (h2.symm.trans rfl)
     have e32:ac.tmps[32]?=some (.agg zN.toArray):=by obtain ⟨v,h1,h2⟩:=h 32 (by decide +kernel);rw [h1];exact congrArg some h2
     have hB9:=hNz.out.keep (hF (.inl rfl))
     clear h hsz hdf
     refine store_nd rfl (.tmp 2) (.tmp 32) rfl (g:=gz) zN ?_ ?_ hB9 rfl rfl rfl ?_
     ·simp [Act.eval,e2]
     ·simp [Act.eval,e32]
     ·go_wp2;exact ⟨Blk.row hB9 _,rowChg _ _ _ (by simp)⟩
    ·
     intro ac wx hE hF hsz hdf h
     have e33:ac.tmps[33]?=some (errV E 14):=by obtain ⟨v,h1,h2⟩:=h 33 (by decide +kernel);rw [h1];exact congrArg some h2
     clear h hsz hdf
     go_wp2
     exact ⟨_,rfl,rfl,Ext.refl _⟩
    ·intro ac w9 hE hsz hdf h hrest
     obtain ⟨v0,s0,g0⟩:=h 0 _ rfl
     have e0:=g0 32 rfl
     obtain rfl:v0=.agg zN.toArray:=s0
     obtain ⟨v1,s1,g1⟩:=h 1 _ rfl
     have e1:=g1 33 rfl
     obtain rfl:v1=errV E 14:=s1
     obtain ⟨v2,s2,-⟩:=h 2 _ rfl
     replace s2:Blk w9 gz 28 zN:=s2
     obtain ⟨v3,s3,g3⟩:=h 3 _ rfl
     have e3:=g3 3 rfl
     obtain rfl:v3=errV E 14:=s3
     have ha:=act_of [(32,.agg zN.toArray),(33,errV E 14),(3,errV E 14)] rfl hsz hdf (by intro p hp;simp only [List.mem_cons,List.not_mem_nil,or_false] at hp;rcases hp with rfl | rfl | rfl <;> first | exact e0 | exact e1 | exact e3) hrest
     clear h hrest hsz hdf e0 e1 e3 g0 g1 g3
     subst ha
     simp only [List.foldl_cons,List.foldl_nil,Act.put,List.setIfInBounds_toArray,List.set_cons_succ,List.set_cons_zero]
     go_wp2
     exact bodyPost_ret (v:=.tuple #[.agg zN.toArray,ev E 15]) (results_nd2 rfl rfl s2 rfl rfl) rfl (.err_ (by rw [HREP.out,HRP.out]) (hCz.out.trans' hE (by rw [hgz];exact Nat.le_refl _)) rfl (by omega))
  by_cases c63:l[i1]?=some 63
  focus
   have hi1:=(List.getElem?_eq_some_iff.1 c63).1
   have hpv2:pkV l i1=63:=pk_is 63 c63 63 rfl
   have HPK:=Lib.hid hpv2
   have HC:=Lib.hid c63
   have hw1:IntKind.i64.wrap ((i1:Int)+1)=(i1:Int)+1:=wrap_id (by omega) (by omega)
   have hw2:IntKind.i64.wrap ((i1:Int)+1+1)=(i1:Int)+1+1:=wrap_id (by omega) (by omega)
   clear c63 hpv hpv2
   go_upto_region 15 with (go_at_call 71;refine (rxPeek HB1.out.2 _ HN.out.ps).mono ?_;rintro e w6 ⟨rfl,hx6⟩;rw [HPK.out];obtain ⟨b0,b1,b2,b3,b4,b5,b6,b7⟩:=(HN.out.keep hx6).bo.cells)
   have HN7:=Lib.hid (HN.out.keep hx6)
   obtain ⟨wc,hwc⟩:∃ wc,w6=wc:=⟨_,rfl⟩
   rw [hwc] at HN7
   subst hwc
   clear b0 b1 b2 b3 b4 b5 b6 b7
   obtain ⟨p0,p1,p2,p3⟩:=HN7.out.ps.cells
   have f1:=HN7.out.ps.frozen 1
   go_upto_region 16 with fail
   have HN8:=Lib.hid (HN7.out.at_ HPZ.out HPB.out (x:=(i1:Int)+1) (i':=i1+1) (by omega))
   clear p0 p1 p2 p3 f1
   generalize (World.setCell _ ⟨p,1,none⟩ (.int .i64 ((i1:Int)+1)))=w8 at *
   obtain ⟨z1,hz1⟩:∃ z1,decide (l[i1+1]?=some 63)=z1:=⟨_,rfl⟩
   have hpv3:(pkV l (i1+1) == 63)=z1:=by
    rw [← hz1]
    by_cases e:l[i1+1]?=some 63
    ·rw [pk_is 63 e 63 rfl];simp [e]
    ·rw [show (pkV l (i1+1) == 63)=false from pk_not 63 e];simp [e]
   have HRP:=Lib.hid (show repP l t i1 gr1=.ok (.node 7 0 z1 noP [t]) (if z1 then i1+2 else i1+1) gr1 by unfold repP;rw [HC.out];simp [hz1])
   obtain ⟨pv2,hpv4⟩:∃ pv2,pkV l (i1+1)=pv2:=⟨_,rfl⟩
   rw [hpv4] at hpv3
   have HPK2:=Lib.hid hpv4
   clear hz1 hpv4
   cases z1
   ·skip
    go_upto_region 19 with (go_at_call 71;refine (rxPeek (i:=i1+1) hi1 _ HN8.out.ps).mono ?_;rintro e w9 ⟨rfl,hx9⟩;rw [HPK2.out])
    have HNF:=Lib.hid (HN8.out.keep hx9)
    generalize w9=wf at *
    obtain ⟨b0,b1,b2,b3,b4,b5,b6,b7⟩:=HNF.out.bo.cells
    have hkid:=one_kid (S':=fun b=>w.heap.size<b) HNF.out.vv 7 0 false (fun b _ h=>h.1) (by have:=HNF.out.ze.lt;exact this)
    have HKID:=Lib.hid hkid
    clear hkid
    go_wp2_with (refine store_nd rfl (.tmp 2) (.tmp 56) rfl (g:=w.heap.size) [.int .i64 7,.int .i64 0,.bool false,.int .u64 0,.int .u64 0,.int .u64 0,.int .u64 0,.slice (some ⟨wf.heap.size,0,none⟩) 1 1] rfl rfl (HNF.out.ze.alloc _) rfl rfl rfl ?_)
    exact bodyPost_ret (v:=.tuple #[.agg ([.int .i64 7,.int .i64 0,.bool false,.int .u64 0,.int .u64 0,.int .u64 0,.int .u64 0,.slice (some ⟨wf.heap.size,0,none⟩) 1 1]:List Value).toArray,.nilIface]) (results_nd2 rfl rfl (Blk.row (HNF.out.ze.alloc _) _) rfl rfl) rfl (.ok_ (by rw [HREP.out,HRP.out];rfl) (Chg.rowX (HNF.out.ch.trans (.of_ext (Ext.new1 _ _))) _ _ (Nat.le_refl _)) rfl ((HKID.out.chg (rowChg _ _ _ (List.mem_singleton.2 rfl)) (by intro y hy;simp at hy;omega)).mono (fun b _ h=>by omega)) ((HNF.out.ps.keep (Ext.new1 _ _)).rowFar _ HPG.out) H9.out)
   ·skip
    go_upto_region 18 with (go_at_call 71;refine (rxPeek (i:=i1+1) hi1 _ HN8.out.ps).mono ?_;rintro e w9 ⟨rfl,hx9⟩;rw [HPK2.out])
    obtain ⟨p0,p1,p2,p3⟩:=(HN8.out.keep hx9).ps.cells
    simp only [Int.natCast_add,Int.cast_ofNat_Int] at p1
    have f1:=(HN8.out.keep hx9).ps.frozen 1
    go_upto_region 19 with fail
    have HNF:=Lib.hid ((HN8.out.keep hx9).at_ HPZ.out HPB.out (x:=(i1:Int)+1+1) (i':=i1+2) (by omega))
    clear p0 p1 p2 p3 f1
    generalize (World.setCell _ ⟨p,1,none⟩ (.int .i64 ((i1:Int)+1+1)))=wf at *
    obtain ⟨b0,b1,b2,b3,b4,b5,b6,b7⟩:=HNF.out.bo.cells
    have hkid:=one_kid (S':=fun b=>w.heap.size<b) HNF.out.vv 7 0 true (fun b _ h=>h.1) (by have:=HNF.out.ze.lt;exact this)
    have HKID:=Lib.hid hkid
    clear hkid
    go_wp2_with (refine store_nd rfl (.tmp 2) (.tmp 56) rfl (g:=w.heap.size) [.int .i64 7,.int .i64 0,.bool true,.int .u64 0,.int .u64 0,.int .u64 0,.int .u64 0,.slice (some ⟨wf.heap.size,0,none⟩) 1 1] rfl rfl (HNF.out.ze.alloc _) rfl rfl rfl ?_)
    exact bodyPost_ret (v:=.tuple #[.agg ([.int .i64 7,.int .i64 0,.bool true,.int .u64 0,.int .u64 0,.int .u64 0,.int .u64 0,.slice (some ⟨wf.heap.size,0,none⟩) 1 1]:List Value).toArray,.nilIface]) (results_nd2 rfl rfl (Blk.row (HNF.out.ze.alloc _) _) rfl rfl) rfl (.ok_ (by rw [HREP.out,HRP.out];rfl) (Chg.rowX (HNF.out.ch.trans (.of_ext (Ext.new1 _ _))) _ _ (Nat.le_refl _)) rfl ((HKID.out.chg (rowChg _ _ _ (List.mem_singleton.2 rfl)) (by intro y hy;simp at hy;omega)).mono (fun b _ h=>by omega)) ((HNF.out.ps.keep (Ext.new1 _ _)).rowFar _ HPG.out) H9.out)
  have HRP:=Lib.hid (show repP l t i1 gr1=.ok t i1 gr1 by unfold repP;cases hc:l[i1]? with | none=>rfl | some c0=>dsimp only;rw [if_neg (by rintro (e | e | e) <;> (subst e;first | exact c42 hc | exact c43 hc | exact c63 hc))])
  have d42:=pk_not (i:=i1) 42 c42
  have d43:=pk_not (i:=i1) 43 c43
  have d63:=pk_not (i:=i1) 63 c63
  rw [hpv] at d42 d43 d63
  have d42':(pv == 42)=false:=d42
  have d43':(pv == 43)=false:=d43
  have d63':(pv == 63)=false:=d63
  have HPK:=Lib.hid hpv
  clear c42 c43 c63 d42 d43 d63 hpv
  go_wp2_with (first | (have:=hx6;refine store_nd rfl (.tmp 2) (.tmp 19) rfl (g:=w.heap.size) (nodeC k m z q B n c) rfl rfl (HN.out.keep hx6).ze rfl rfl rfl ?_) | (go_at_call 71;refine (rxPeek HB1.out.2 _ HN.out.ps).mono ?_;rintro e w6 ⟨rfl,hx6⟩;rw [HPK.out];obtain ⟨b0,b1,b2,b3,b4,b5,b6,b7⟩:=(HN.out.keep hx6).bo.cells))
  have HNF:=Lib.hid (HN.out.keep hx6)
  exact bodyPost_ret (v:=.tuple #[.agg (nodeC k m z q B n c).toArray,.nilIface]) (results_nd2 rfl rfl (Blk.row HNF.out.ze _) rfl rfl) rfl (.ok_ (by rw [HREP.out,HRP.out]) (Chg.rowX HNF.out.ch _ _ (Nat.le_refl _)) rfl ((HNF.out.vv.chg (rowChg _ _ _ (List.mem_singleton.2 rfl)) (by intro y hy;simp at hy;omega)).mono (fun b _ h=>by omega)) (HNF.out.ps.rowFar _ HPG.out) H9.out)
end Go.Proofs.YtigmdlchbjanoaaGreatDoor
