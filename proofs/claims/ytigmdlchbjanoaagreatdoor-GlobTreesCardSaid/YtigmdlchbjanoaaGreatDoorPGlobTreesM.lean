/-
 Proved here: 'GlobTreesCardSaid': for every input the law truchmanlaw24.GlobTrees returns true, and its arguments read behind the call as before.
 Conditions: what the row lists of the package's variables, which the card ties to the program's text.
-/
import Derived.Test.YtigmdlchbjanoaaGreatDoorCards
import Derived.Test.YtigmdlchbjanoaaGreatDoorTie
import Derived.Test.YtigmdlchbjanoaaGreatDoorPGvR
import Derived.Test.YtigmdlchbjanoaaGreatDoorPGvS
import Derived.OpenShut
import Derived.Deep.DeepHandedRow
import Derived.Stop.LaidErr
namespace Go.Proofs.YtigmdlchbjanoaaGreatDoor.globTrees
open Go.ChangeShapes Go.WideShapes Go.ChangeAt Go.RowKit
open Go.ChangeMaps (open_string shut_string)
theorem own:ownKnob Tryz.prog.godebug=none:=by kernel_rfl
theorem laidOut:laidOutB Tryz.prog=true:=by kernel_rfl
def sentL:List (String × List UInt8):=[("truchman/api.ErrRange", [97,32,110,117,109,98,101,114,32,105,115,32,111,117,116,32,111,102,32,105,116,115,32,114,97,110,103,101]),("truchman/api.ErrFull", [116,104,101,114,101,32,105,115,32,110,111,32,109,111,114,101,32,114,111,111,109]),("truchman/api.ErrShort", [115,111,109,101,116,104,105,110,103,32,105,115,32,109,105,115,115,105,110,103,32,97,116,32,116,104,101,32,101,110,100]),("truchman/api.ErrLong", [116,104,101,114,101,32,105,115,32,109,111,114,101,32,116,104,97,110,32,109,97,121,32,98,101]),("truchman/api.ErrForm", [105,116,32,105,115,32,110,111,116,32,111,102,32,105,116,115,32,102,111,114,109]),("truchman/api.ErrName", [116,104,101,114,101,32,105,115,32,110,111,32,115,117,99,104,32,110,97,109,101]),("truchman/api.ErrNone", [116,104,101,114,101,32,105,115,32,110,111,110,101]),("truchman/api.ErrDup", [105,116,32,105,115,32,116,104,101,114,101,32,97,108,114,101,97,100,121]),("truchman/api.ErrKind", [105,116,32,105,115,32,111,102,32,97,110,111,116,104,101,114,32,107,105,110,100]),("truchman/api.ErrState", [105,116,32,99,97,110,32,110,111,116,32,98,101,32,100,111,110,101,32,105,110,32,116,104,105,115,32,115,116,97,116,101]),("truchman/api.ErrDepth", [105,116,32,103,111,101,115,32,116,111,111,32,100,101,101,112]),("truchman/api.ErrFuel", [116,104,101,32,102,117,101,108,32,105,115,32,115,112,101,110,116]),("truchman/api.ErrStack", [116,104,101,114,101,32,97,114,101,32,116,111,111,32,109,97,110,121,32,99,97,108,108,115,32,119,105,116,104,105,110,32,111,110,101,32,97,110,111,116,104,101,114]),("truchman/api.ErrClosed", [105,116,32,105,115,32,99,108,111,115,101,100]),("truchman/api.ErrEmpty", [105,116,32,119,111,117,108,100,32,109,97,116,99,104,32,110,111,116,104,105,110,103,32,97,116,32,97,108,108]),("truchman/api.ErrNumber", [116,104,101,32,116,101,120,116,32,105,115,32,110,111,32,110,117,109,98,101,114])]
def sentG:List Nat:=[5,6,7,3,4,8,9,10,0,11,12,13,14,15,1,16]
theorem sents {W:World} (h:laidMet Tryz.prog Rows.globTreesRow.laid W):∃ E,Errs W E∧Tab W∧Words W:=by
 have h':laidMet Tryz.prog (sentL.map fun x=>(x.1,.iface "*errors.errorString" (.ptr (.agg [.lit (.string x.2)])))) W:=laidMet.filter keepI h
 obtain ⟨E,hE⟩:=errs_of sentL sentG h' (by kernel_rfl) (by decide +kernel) rfl
 exact ⟨E,hE,tab_laid h,words_all h (by simp [Rows.globTreesRow])⟩
set_option maxRecDepth 100000 in
theorem contract (H:Type) (enc:TypeId × Value→H) (W:World) (base:Nat) (args:Array Value) (ds gs:List (DataW H)) (before:List MemPlace) (HE0:∃ E,Errs W E∧Tab W∧Words W)
  (hval:∀ (j:Nat) t v,Tryz.f3.params[j]?=some t→args[j]?=some v→Value.okWide Tryz.prog W .any base t v)
  (hW:DataW.Whole enc Tryz.prog Tryz.f3.params.toList Rows.globTreesSpec.vars false W args.toList ds gs before) :
  Calls Tryz.prog 3 args W fun e W'=>∃ v,e=.returned v∧Rows.globTreesSpec.post enc Tryz.prog Tryz.f3 false true false false W args v W':=by
 have hW':=hW
 obtain ⟨p,q,hA0,hV,rfl,hfz,hnd⟩:=hW
 have hA:DataW.TrodAll enc Tryz.prog W 0 (fun _=>true) true Tryz.f3.params.toList args.toList ds p:=hA0
 rw [Tryz.params3] at hA hval
 obtain ⟨v0,vs0,d0,ds0,p0,q0,hargs,rfl,rfl,h0,r0⟩:=trodAll_cons hA
 obtain ⟨v1,vs1,d1,ds1,p1,q1,rfl,rfl,rfl,h1,r1⟩:=trodAll_cons r0
 obtain ⟨v2,vs2,d2,ds2,p2,q2,rfl,rfl,rfl,h2,r2⟩:=trodAll_cons r1
 obtain ⟨rfl,rfl,rfl⟩:=trodAll_nil r2
 obtain rfl:args=#[v0,v1,v2]:=by cases args;simp_all
 obtain ⟨rfl,rfl⟩:=trodVars_none hV
 obtain ⟨n0,rfl,rfl,rfl,ws0⟩:=open_string Tryz.underlying9 (hval 0 9 v0 rfl rfl) h0
 obtain ⟨n1,rfl,rfl,rfl,w1⟩:=open_int Tryz.underlying3 (hval 1 3 v1 rfl rfl) h1
 obtain ⟨n2,rfl,rfl,rfl,ws2⟩:=open_string Tryz.underlying9 (hval 2 9 v2 rfl rfl) h2
 obtain ⟨E,HE,HT,HW⟩:=HE0
 clear hA0
 refine (lawTrees E n0.data.toList n1 n2.data.toList W HE HT HW).mono fun e W' ⟨he,bel⟩=>?_
 subst he
 exact ⟨_,rfl,_,_,_,[],_,[],hW',trodAll_mk1 (shut_bool Tryz.underlying4 _),(trodAll_cons_mk (shut_string Tryz.underlying9 ws0) (trodAll_cons_mk (shut_int Tryz.underlying3 w1) (trodAll_cons_mk (shut_string Tryz.underlying9 ws2) trodAll_mk0))),rfl,bel.frame _,fun h=>by cases h⟩
noncomputable def low:Nat:=(World.holding Tryz.prog default ⟨#[],#[],[]⟩).heap.size
def putS (g i:Nat) (h:Array Obj):Array Obj:=h.modify g fun
   | .cells _ t frozen=>.cells #[.iface 151 (.pointer (some ⟨i,0,none⟩))] t frozen
   | o=>o
def putT (g:Nat) (h:Array Obj):Array Obj:=h.modify g fun
   | .cells _ t frozen=>.cells (Lib.deBruijn64tab.map fun n:Nat=>Value.int .u8 n).toArray t frozen
   | o=>o
def putC (g:Nat) (cs:Array Value) (h:Array Obj):Array Obj:=h.modify g fun
   | .cells _ t frozen=>.cells cs t frozen
   | o=>o
def str (l:List UInt8):Value:=.string ⟨l.toArray⟩
noncomputable def laidWorld (os:Os):World:=
 let w0:=World.holding Tryz.prog os ⟨#[.cells #[.string { data:=#[97,32,110,117,109,98,101,114,32,105,115,32,111,117,116,32,111,102,32,105,116,115,32,114,97,110,103,101] }] 174,.cells #[.string { data:=#[116,104,101,114,101,32,105,115,32,110,111,32,109,111,114,101,32,114,111,111,109] }] 174,.cells #[.string { data:=#[115,111,109,101,116,104,105,110,103,32,105,115,32,109,105,115,115,105,110,103,32,97,116,32,116,104,101,32,101,110,100] }] 174,.cells #[.string { data:=#[116,104,101,114,101,32,105,115,32,109,111,114,101,32,116,104,97,110,32,109,97,121,32,98,101] }] 174,.cells #[.string { data:=#[105,116,32,105,115,32,110,111,116,32,111,102,32,105,116,115,32,102,111,114,109] }] 174,.cells #[.string { data:=#[116,104,101,114,101,32,105,115,32,110,111,32,115,117,99,104,32,110,97,109,101] }] 174,.cells #[.string { data:=#[116,104,101,114,101,32,105,115,32,110,111,110,101] }] 174,.cells #[.string { data:=#[105,116,32,105,115,32,116,104,101,114,101,32,97,108,114,101,97,100,121] }] 174,.cells #[.string { data:=#[105,116,32,105,115,32,111,102,32,97,110,111,116,104,101,114,32,107,105,110,100] }] 174,.cells #[.string { data:=#[105,116,32,99,97,110,32,110,111,116,32,98,101,32,100,111,110,101,32,105,110,32,116,104,105,115,32,115,116,97,116,101] }] 174,.cells #[.string { data:=#[105,116,32,103,111,101,115,32,116,111,111,32,100,101,101,112] }] 174,.cells #[.string { data:=#[116,104,101,32,102,117,101,108,32,105,115,32,115,112,101,110,116] }] 174,.cells #[.string { data:=#[116,104,101,114,101,32,97,114,101,32,116,111,111,32,109,97,110,121,32,99,97,108,108,115,32,119,105,116,104,105,110,32,111,110,101,32,97,110,111,116,104,101,114] }] 174,.cells #[.string { data:=#[105,116,32,105,115,32,99,108,111,115,101,100] }] 174,.cells #[.string { data:=#[105,116,32,119,111,117,108,100,32,109,97,116,99,104,32,110,111,116,104,105,110,103,32,97,116,32,97,108,108] }] 174,.cells #[.string { data:=#[116,104,101,32,116,101,120,116,32,105,115,32,110,111,32,110,117,109,98,101,114] }] 174],#[],[]⟩
 { w0 with heap:=putC 2 #[str [],str [101,120,97,99,116],str [103,108,111,98],str [114,101,103,101,120]] (putC 18 ((List.range 16).flatMap fun i=>[Value.int .u8 (Lib.accLo i),Value.int .u8 (Lib.accHi i)]).toArray (putC 17 (Lib.firstTab.map fun z=>Value.int .u8 z).toArray (putT 19 (putS 16 (low+15) (putS 1 (low+14) (putS 15 (low+13) (putS 14 (low+12) (putS 13 (low+11) (putS 12 (low+10) (putS 11 (low+9) (putS 0 (low+8) (putS 10 (low+7) (putS 9 (low+6) (putS 8 (low+5) (putS 4 (low+4) (putS 3 (low+3) (putS 7 (low+2) (putS 6 (low+1) (putS 5 (low+0) w0.heap))))))))))))))))))) }
theorem laid_met (os:Os):laidMet Tryz.prog Rows.globTreesRow.laid ((laidWorld os).forCall (fun _ _=>0) ⟨#[],#[.string ⟨#[]⟩,.int .i64 0,.string ⟨#[]⟩],[]⟩).memory:=
 laidMet_of_run' 8 (by kernel_rfl) (by kernel_rfl)
theorem reads (os:Os) {H:Type} (enc:TypeId × Value→H):∃ places,DataW.whole enc Tryz.prog ((laidWorld os).forCall (fun _ _=>0) ⟨#[],#[.string ⟨#[]⟩,.int .i64 0,.string ⟨#[]⟩],[]⟩).memory Tryz.f3.params.toList Rows.globTreesSpec.vars false (#[.string ⟨#[]⟩,.int .i64 0,.string ⟨#[]⟩]:Array Value).toList 8=some ([.lit (.string []),.lit (.int .i64 0),.lit (.string [])],[],places):=
 ⟨[],by kernel_rfl⟩
set_option maxRecDepth 100000 in
theorem lifted (os:Os) (started:os.Started) (H:Type) (enc:TypeId × Value→H) (F:Stop.Interp) :
  ReturnsInHanded {} Tryz.checked os 3 .any ((OpenSpec.ofChange Rows.globTreesSpec).preRow enc Tryz.prog Tryz.f3 Rows.globTreesRow.domain false Rows.globTreesRow.laid) (((OpenSpec.ofChange Rows.globTreesSpec).at F).post enc Tryz.prog Tryz.f3 false true false false):=by
 obtain ⟨places,hx⟩:=reads os enc
 refine returnsInHanded_of_row (C:=Tryz.checked) (s:=OpenSpec.ofChange Rows.globTreesSpec) own started (by kernel_rfl) Tryz.func3
  (witness_row_at (enc:=enc) (C:=Tryz.checked) false (laidWorld os) #[.string ⟨#[]⟩,.int .i64 0,.string ⟨#[]⟩] rfl (by kernel_rfl) (by kernel_rfl) (by kernel_rfl)
   (OpenSpec.preRow_of_cond 8 hx (by kernel_rfl) (fun k hk=>by cases hk) (by kernel_rfl) (laid_met os))) ?_
 intro W base args ds gs before hval hW _ _ _ hL _ _
 exact contract H enc W base args ds gs before (sents hL) hval hW
theorem said:Rows.GlobTreesSaid:=
 OpenClaim.holds_of_cond 3 Tryz.f3 rfl rfl rfl rfl rfl rfl rfl ⟨rfl,rfl,rfl,rfl,rfl⟩ rfl rfl rfl rfl rfl (by kernel_rfl) Tryz.func3 (by kernel_rfl)
  (of_decide_eq_true (by kernel_rfl)) (by unfold Func.isWrapper;first | (rw [if_pos (by decide +kernel)];kernel_rfl) | (rw [if_neg (by decide +kernel)];exact ⟨rfl,rfl⟩))
  (fun os started H enc _ F=>by rw [OpenClaim.pre_eq_preRow];exact lifted os started H enc F)
theorem plain (f:FuncId) (fn:Func) (hf:Tryz.pinned.checked.prog.funcNamed "truchman/truchmanlaw24.GlobTrees" = some f) (hfn:Tryz.pinned.checked.prog.funcs[f]?=some fn) :
  true=Tryz.pinned.checked.prog.looks []∧∀ (j:Nat) t,fn.params[j]?=some t→Tryz.pinned.checked.prog.wantsStandIn t=false:=by
 obtain rfl:f=3:=Option.some.inj ((show Tryz.prog.funcNamed "truchman/truchmanlaw24.GlobTrees" = some 3 by kernel_rfl).symm.trans hf) |>.symm
 obtain rfl:fn=Tryz.f3:=(Option.some.inj (Tryz.func3.symm.trans hfn)).symm
 refine ⟨by kernel_rfl,fun j t ht=>?_⟩
 rw [Tryz.params3] at ht
 have ht':=Array.mem_of_getElem? ht
 simp only [List.mem_toArray,List.mem_cons,List.not_mem_nil,or_false] at ht'
 rcases ht' with rfl | rfl | rfl
 ·exact (show Tryz.prog.wantsStandIn 9=false by kernel_rfl)
 ·exact (show Tryz.prog.wantsStandIn 3=false by kernel_rfl)
 ·exact (show Tryz.prog.wantsStandIn 9=false by kernel_rfl)
theorem proved:Rows.GlobTreesCardSaid:=
 Claim7.holds_tied_plain_at .later [] _ _ _ _ said (fun _ h=>by cases h) (by kernel_rfl) (fun _ h=>by cases h) globTrees_row_tie rfl ⟨rfl,rfl⟩ (by kernel_rfl) rfl plain (by kernel_rfl)
#print axioms proved
end Go.Proofs.YtigmdlchbjanoaaGreatDoor.globTrees
