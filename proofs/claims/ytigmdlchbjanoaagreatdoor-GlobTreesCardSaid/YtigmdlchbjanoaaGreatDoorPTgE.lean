/- Put together: Bld, Cl13, Cl14. -/
import Derived.Test.YtigmdlchbjanoaaGreatDoorPTgA
import Derived.Shelf.Strings.Builder1
import Derived.Test.YtigmdlchbjanoaaGreatDoorPTgD
namespace Go.Proofs
open Go.Shelf
def Tryz.lays169_ren:Go.Shelf.Ren:=⟨fun | 169=>39 | n=>n,fun | 70=>73 | 9=>9 | 0=>0 | 72=>75 | 37=>52 | 127=>105 | 3=>3 | 5=>5 | n=>n,fun | n=>n⟩
theorem Tryz.lays169:Go.Proofs.Lays.n169 Tryz.prog Tryz.lays169_ren:={
 mixed:=by kernel_rfl
 f169:=Tryz.func39.trans (congrArg some (by kernel_rfl))
 t0:=Tryz.underlying0
 a0:=Tryz.isAgg0
 z0:=Tryz.sizeOf0
 v0:=Tryz.zeroValue0
 t3:=Tryz.underlying3
 a3:=Tryz.isAgg3
 z3:=Tryz.sizeOf3
 v3:=Tryz.zeroValue3
 t9:=Tryz.underlying9
 a9:=Tryz.isAgg9
 z9:=Tryz.sizeOf9
 v9:=Tryz.zeroValue9
 t37:=Tryz.underlying52
 a37:=Tryz.isAgg52
 z37:=Tryz.sizeOf52
 v37:=Tryz.zeroValue52
 t70:=Tryz.underlying73
 a70:=Tryz.isAgg73
 z70:=Tryz.sizeOf73
 v70:=Tryz.zeroValue73
 t72:=Tryz.underlying75
 a72:=Tryz.isAgg75
 z72:=Tryz.sizeOf75
 v72:=Tryz.zeroValue75
 t127:=Tryz.underlying105
 a127:=Tryz.isAgg105
 z127:=Tryz.sizeOf105
 v127:=Tryz.zeroValue105 }
theorem Tryz.Builder_Extra_169:Builder.Extra Tryz.prog Tryz.lays169_ren:={
 sizeBuilder:=by kernel_rfl
 liesBuilder:=by kernel_rfl
 t5:=Tryz.underlying5
 a5:=Tryz.isAgg5
 z5:=Tryz.sizeOf5
 v5:=Tryz.zeroValue5
 infoByte:=by kernel_rfl
 cellsByte:=by kernel_rfl
 sizeByte:=by kernel_rfl
 neB5:=by decide }
end Go.Proofs
namespace Go.Proofs.YtigmdlchbjanoaaGreatDoor
open Go Go.RowKit
def BldAt (w:World) (B b:Nat) (l:List UInt8):Prop:=Lib.IsBuilder 75 5 B b (Lib.byteCells l) w
theorem bld_size:(Tryz.prog.info? 75).map (fun i=>i.size)=some 2:=by kernel_rfl
set_option maxHeartbeats 1000000 in
set_option maxRecDepth 100000 in
theorem bldCheck_used (b:Nat) (w:World) (h0:w.cell? ⟨b,0,none⟩=some (.pointer (some ⟨b,0,none⟩))) :
  Calls Tryz.prog 57 #[.pointer (some ⟨b,0,none⟩)] w fun e w'=>e=.returned (.tuple #[])∧w'=w:=by
 obtain ⟨j,hj,_⟩:=Option.map_eq_some_iff.1 bld_size
 go_enter Tryz.func57,Tryz.ntmps57
 go_wp2
 rw [Lib.run_neq_ptr_same w _ Tryz.underlying73 hj]
 go_wp2
 go_end0
 exact ⟨rfl,rfl⟩
set_option maxHeartbeats 1000000 in
set_option maxRecDepth 100000 in
theorem bldCheck_fresh (b:Nat) (w:World) (h0:w.cell? ⟨b,0,none⟩=some (.pointer none)) (hsh:w.shape? b=some (75,2)) (hfz:w.frozen? ⟨b,0,none⟩=false) :
  Calls Tryz.prog 57 #[.pointer (some ⟨b,0,none⟩)] w fun e w'=>e=.returned (.tuple #[])∧w'=w.setCell ⟨b,0,none⟩ (.pointer (some ⟨b,0,none⟩)):=by
 obtain ⟨j,hj,hjs⟩:=Option.map_eq_some_iff.1 bld_size
 go_enter Tryz.func57,Tryz.ntmps57
 go_wp2
 rw [Lib.run_to_unsafe w ⟨b,0,none⟩ Tryz.underlying73 Tryz.underlying130 hj (by rw [hjs];decide) hsh (Nat.zero_lt_succ 1)]
 simp only [Result.andThen]
 rw [Oper.upon_value]
 go_wp2
 rw [run_callFunc_extern Tryz.func73 (by kernel_rfl) (by kernel_rfl) (by kernel_rfl) (e:=Extern.AbiNoEscape.same) (by kernel_rfl)]
 rw [Lib.run_noEscape]
 simp only [Result.andThen]
 rw [Oper.upon_value]
 go_wp2
 rw [Lib.run_from_unsafe w ⟨b,0,none⟩ Tryz.underlying130 Tryz.underlying73 hj hsh (by kernel_rfl)]
 simp only [Result.andThen]
 rw [Oper.upon_value]
 go_wp2
 go_end0
 exact ⟨rfl,rfl⟩
theorem byte_info:(Tryz.prog.info? 5).map (fun i=>(i.zero,i.size,i.bytes))=some (some (.int .u8 0),1,1):=by kernel_rfl
theorem bldText (B b:Nat) (l:List UInt8) (w:World) (h:BldAt w B b l) (hBw:B≤w.heap.size) :
  Calls Tryz.prog 39 #[.pointer (some ⟨b,0,none⟩)] w fun e w'=>e=.returned (.string ⟨l.toArray⟩)∧Below B w w':=
 Any.Builder_String_any Tryz.lays169 Tryz.Builder_Extra_169 B b l w h hBw
theorem BldAt.new (w:World):BldAt (w.alloc (.cells #[.pointer none,.slice none 0 0] 75)) w.heap.size w.heap.size []:=
 .inl ⟨Nat.le_refl _,.slice none 0 0,heap_alloc_new w _,⟨rfl,.inl ⟨rfl,rfl⟩⟩,by simp [Value.ownBlock]⟩
end Go.Proofs.YtigmdlchbjanoaaGreatDoor
namespace Go.Proofs.YtigmdlchbjanoaaGreatDoor
open Go Go.RowKit
def rext (p:Nat→Bool):Nat→Nat→Nat
 | 0,c=>c
 | f+1,c=>if decide (c+1<256) && p (c+1) then rext p f (c+1) else c
def piece (p:Nat→Bool) (c:Nat):List UInt8:=if p c && !(decide (0<c) && p (c-1)) then signT c ++ (if c<rext p 256 c then 45 :: signT (rext p 256 c) else []) else []
def runsT (p:Nat→Bool):Nat→List UInt8
 | 0=>[]
 | n+1=>runsT p n ++ piece p n
def lstF (p:Nat→Bool):Nat→Nat→Nat
 | 0,c=>c
 | f+1,c=>if p c then c else lstF p f (c+1)
def textT (p:Nat→Bool):List UInt8:=
 if cnt p 256=0 then [91,94] ++ runsT (fun _=>true) 256 ++ [93]
 else if cnt p 256=1 then signT (lstF p 256 0)
 else if cnt p 256=256 then [46]
 else [91] ++ runsT p 256 ++ [93]
end Go.Proofs.YtigmdlchbjanoaaGreatDoor
namespace Go.Proofs.YtigmdlchbjanoaaGreatDoor
open Go Go.RowKit
attribute [local irreducible] wd signT runsT
theorem BldAt.keep {w w':World} {B b:Nat} {l:List UInt8} (h:BldAt w B b l) (hx:Ext w w'):BldAt w' B b l:=by
 have key:∀ q,Lib.BuilderAt 75 5 B b q (Lib.byteCells l) w→Lib.BuilderAt 75 5 B b q (Lib.byteCells l) w':=by
  intro q h
  obtain ⟨hB,v,hb,hown,hne⟩:=h
  refine ⟨hB,v,?_,own_ext hown hx,hne⟩
  rw [hx.block b (by
   rcases Nat.lt_or_ge b w.heap.size with h' | h'
   ·exact h'
   ·simp [Array.getElem?_eq_none h'] at hb)]
  exact hb
 rcases h with h | h
 ·exact .inl (key _ h)
 ·exact .inr (key _ h)
theorem SB.below {w w':World} {B g:Nat} {p:Nat→Bool} (h:SB w g p) (hx:Below B w w') (hg:g<B):SB w' g p:=Blk.below h hx hg
end Go.Proofs.YtigmdlchbjanoaaGreatDoor
