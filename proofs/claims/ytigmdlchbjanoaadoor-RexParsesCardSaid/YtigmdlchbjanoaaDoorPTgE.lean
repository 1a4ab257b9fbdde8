/- Put together: Bld, Cl13, Cl14. -/
import Derived.Test.YtigmdlchbjanoaaDoorPTgA
import Derived.Shelf.Strings.Builder1
import Derived.Test.YtigmdlchbjanoaaDoorPTgD
namespace Go.Proofs
open Go.Shelf
def Tryd.lays169_ren:Go.Shelf.Ren:=⟨fun | 169=>55 | n=>n,fun | 70=>99 | 9=>9 | 0=>0 | 72=>102 | 37=>100 | 127=>114 | 3=>3 | 5=>5 | n=>n,fun | n=>n⟩
theorem Tryd.lays169:Go.Proofs.Lays.n169 Tryd.prog Tryd.lays169_ren:={
 mixed:=by kernel_rfl
 f169:=Tryd.func55.trans (congrArg some (by kernel_rfl))
 t0:=Tryd.underlying0
 a0:=Tryd.isAgg0
 z0:=Tryd.sizeOf0
 v0:=Tryd.zeroValue0
 t3:=Tryd.underlying3
 a3:=Tryd.isAgg3
 z3:=Tryd.sizeOf3
 v3:=Tryd.zeroValue3
 t9:=Tryd.underlying9
 a9:=Tryd.isAgg9
 z9:=Tryd.sizeOf9
 v9:=Tryd.zeroValue9
 t37:=Tryd.underlying100
 a37:=Tryd.isAgg100
 z37:=Tryd.sizeOf100
 v37:=Tryd.zeroValue100
 t70:=Tryd.underlying99
 a70:=Tryd.isAgg99
 z70:=Tryd.sizeOf99
 v70:=Tryd.zeroValue99
 t72:=Tryd.underlying102
 a72:=Tryd.isAgg102
 z72:=Tryd.sizeOf102
 v72:=Tryd.zeroValue102
 t127:=Tryd.underlying114
 a127:=Tryd.isAgg114
 z127:=Tryd.sizeOf114
 v127:=Tryd.zeroValue114 }
theorem Tryd.Builder_Extra_169:Builder.Extra Tryd.prog Tryd.lays169_ren:={
 sizeBuilder:=by kernel_rfl
 liesBuilder:=by kernel_rfl
 t5:=Tryd.underlying5
 a5:=Tryd.isAgg5
 z5:=Tryd.sizeOf5
 v5:=Tryd.zeroValue5
 infoByte:=by kernel_rfl
 cellsByte:=by kernel_rfl
 sizeByte:=by kernel_rfl
 neB5:=by decide }
end Go.Proofs
namespace Go.Proofs.YtigmdlchbjanoaaDoor
open Go Go.RowKit
/-- Block b holds a builder with these bytes, its own row from B on. -/
def BldAt (w:World) (B b:Nat) (l:List UInt8):Prop:=Lib.IsBuilder 102 5 B b (Lib.byteCells l) w
theorem bld_size:(Tryd.prog.info? 102).map (fun i=>i.size)=some 2:=by kernel_rfl
set_option maxHeartbeats 1000000 in
set_option maxRecDepth 100000 in
theorem bldCheck_used (b:Nat) (w:World) (h0:w.cell? ⟨b,0,none⟩=some (.pointer (some ⟨b,0,none⟩))) :
  Calls Tryd.prog 66 #[.pointer (some ⟨b,0,none⟩)] w fun e w'=>e=.returned (.tuple #[])∧w'=w:=by
 obtain ⟨j,hj,_⟩:=Option.map_eq_some_iff.1 bld_size
 go_enter Tryd.func66,Tryd.ntmps66
 go_wp2
 rw [Lib.run_neq_ptr_same w _ Tryd.underlying99 hj]
 go_wp2
 go_end0
 exact ⟨rfl,rfl⟩
set_option maxHeartbeats 1000000 in
set_option maxRecDepth 100000 in
theorem bldCheck_fresh (b:Nat) (w:World) (h0:w.cell? ⟨b,0,none⟩=some (.pointer none)) (hsh:w.shape? b=some (102,2)) (hfz:w.frozen? ⟨b,0,none⟩=false) :
  Calls Tryd.prog 66 #[.pointer (some ⟨b,0,none⟩)] w fun e w'=>e=.returned (.tuple #[])∧w'=w.setCell ⟨b,0,none⟩ (.pointer (some ⟨b,0,none⟩)):=by
 obtain ⟨j,hj,hjs⟩:=Option.map_eq_some_iff.1 bld_size
 go_enter Tryd.func66,Tryd.ntmps66
 go_wp2
 rw [Lib.run_to_unsafe w ⟨b,0,none⟩ Tryd.underlying99 Tryd.underlying124 hj (by rw [hjs];decide) hsh (Nat.zero_lt_succ 1)]
 simp only [Result.andThen]
 rw [Oper.upon_value]
 go_wp2
 rw [run_callFunc_extern Tryd.func72 (by kernel_rfl) (by kernel_rfl) (by kernel_rfl) (e:=Extern.AbiNoEscape.same) (by kernel_rfl)]
 rw [Lib.run_noEscape]
 simp only [Result.andThen]
 rw [Oper.upon_value]
 go_wp2
 rw [Lib.run_from_unsafe w ⟨b,0,none⟩ Tryd.underlying124 Tryd.underlying99 hj hsh (by kernel_rfl)]
 simp only [Result.andThen]
 rw [Oper.upon_value]
 go_wp2
 go_end0
 exact ⟨rfl,rfl⟩
theorem bldCheck (B b:Nat) (bs:List Value) (w:World) (h:Lib.IsBuilder 102 5 B b bs w) :
  Calls Tryd.prog 66 #[.pointer (some ⟨b,0,none⟩)] w fun e w'=>e=.returned (.tuple #[])∧(Lib.BuilderAt 102 5 B b (.pointer (some ⟨b,0,none⟩)) bs w' ∧ Below B w w'):=by
 rcases h with h | h
 ·refine (bldCheck_fresh b w h.cell0 h.shape h.frozen0).mono ?_
  rintro e w' ⟨rfl,rfl⟩
  exact ⟨rfl,h.used _,(Below.refl B w).setCell (p:=⟨b,0,none⟩) h.1 _⟩
 ·refine (bldCheck_used b w h.cell0).mono ?_
  rintro e w' ⟨rfl,rfl⟩
  exact ⟨rfl,h,Below.refl B _⟩
theorem byte_info:(Tryd.prog.info? 5).map (fun i=>(i.zero,i.size,i.bytes))=some (some (.int .u8 0),1,1):=by kernel_rfl
set_option maxHeartbeats 1000000 in
set_option maxRecDepth 100000 in
theorem bldWrite (B b:Nat) (bs:List Value) (s:ByteArray) (w:World) (h:Lib.IsBuilder 102 5 B b bs w) (hlen:bs.length+s.size≤1000000) (hBw:B≤w.heap.size) :
  Calls Tryd.prog 54 #[.pointer (some ⟨b,0,none⟩),.string s] w fun e w'=>e=.returned (.tuple #[.int .i64 s.size,.nilIface])∧(Lib.BuilderAt 102 5 B b (.pointer (some ⟨b,0,none⟩)) (bs ++ Lib.strCells s) w' ∧ Below B w w'):=by
 obtain ⟨i0,hi,hz0,hz1,hz2⟩:=info_parts byte_info
 go_enter Tryd.func54,Tryd.ntmps54
 go_wp2_with (go_at_call 66;refine (bldCheck B b bs _ h).mono ?_)
 rintro e w1 ⟨rfl,h1,hb1⟩
 obtain ⟨hB,v,hbk,hown,hne⟩:=h1
 have c0:w1.cell? ⟨b,0,none⟩=some (.pointer (some ⟨b,0,none⟩)):=by rw [Lib.cell_of_heap hbk];rfl
 have c1:w1.cell? ⟨b,1,none⟩=some v:=by rw [Lib.cell_of_heap hbk];rfl
 go_wp2_with (at_builtin;refine Lib.wpList_append_own_string _ rfl _ _ 100 9 rfl B 5 i0 Tryd.underlying100 Tryd.underlying9 hi hz0 hz1 hz2 _ _ _ rfl hown s rfl ?c3 ?c4 ?c5 ?_)
 case c3=>unfold maxLen;omega
 case c4=>omega
 case c5=>have:=hb1.size;omega
 intro v' w2 hown' hgrow _
 have hlt:b<w1.heap.size:=by
  rcases Nat.lt_or_ge b w1.heap.size with h' | h'
  ·exact h'
  ·simp [Array.getElem?_eq_none h'] at hbk
 have hb2:w2.heap[b]?=some (.cells #[.pointer (some ⟨b,0,none⟩),v] 102 (0,0)):=by
  rw [hgrow.block b hlt (fun e=>hne e.symm)]
  exact hbk
 have d0:w2.cell? ⟨b,0,none⟩=some (.pointer (some ⟨b,0,none⟩)):=by rw [Lib.cell_of_heap hb2];rfl
 have d1:w2.cell? ⟨b,1,none⟩=some v:=by rw [Lib.cell_of_heap hb2];rfl
 have f1:w2.frozen? ⟨b,1,none⟩=false:=Lib.frozen_of_heap hb2 1
 obtain ⟨ao,n',cap,rfl⟩:∃ ao n' cap,v'=.slice ao n' cap:=by
  rcases hown'.2 with ⟨hv,_⟩ | ⟨g,cap,cur,hv,_⟩
  ·exact ⟨_,_,_,hv⟩
  ·exact ⟨_,_,_,hv⟩
 go_wp2
 go_ret2
 refine ⟨rfl,?_,?_⟩
 ·exact Lib.BuilderAt.put (T:=102) (e:=5) hB hb2 (bs':=bs ++ Lib.strCells s) (by simpa [Lib.strCells_length] using hown') (by decide)
 ·exact (hb1.grown hgrow (by have:=hb1.size;omega) (fun k hk=>(hown.lt k hk).1)).setCell (p:=⟨b,1,none⟩) hB _
/-- The same, of lists of bytes. -/
theorem bldPut (B b:Nat) (l t:List UInt8) (w:World) (h:BldAt w B b l) (hlen:l.length+t.length≤1000000) (hBw:B≤w.heap.size) :
  Calls Tryd.prog 54 #[.pointer (some ⟨b,0,none⟩),.string ⟨t.toArray⟩] w fun e w'=>e=.returned (.tuple #[.int .i64 t.length,.nilIface])∧BldAt w' B b (l ++ t)∧Below B w w':=by
 refine (bldWrite B b (Lib.byteCells l) ⟨t.toArray⟩ w h (by rw [Lib.byteCells_length];exact hlen) hBw).mono ?_
 rintro e w' ⟨rfl,h1,h2⟩
 refine ⟨rfl,.inr ?_,h2⟩
 have e1:Lib.byteCells (l ++ t)=Lib.byteCells l ++ Lib.strCells ⟨t.toArray⟩:=by simp [Lib.byteCells,Lib.strCells]
 rw [e1]
 exact h1
theorem bldText (B b:Nat) (l:List UInt8) (w:World) (h:BldAt w B b l) (hBw:B≤w.heap.size) :
  Calls Tryd.prog 55 #[.pointer (some ⟨b,0,none⟩)] w fun e w'=>e=.returned (.string ⟨l.toArray⟩)∧Below B w w':=
 Any.Builder_String_any Tryd.lays169 Tryd.Builder_Extra_169 B b l w h hBw
theorem BldAt.new (w:World):BldAt (w.alloc (.cells #[.pointer none,.slice none 0 0] 102)) w.heap.size w.heap.size []:=
 .inl ⟨Nat.le_refl _,.slice none 0 0,heap_alloc_new w _,⟨rfl,.inl ⟨rfl,rfl⟩⟩,by simp [Value.ownBlock]⟩
end Go.Proofs.YtigmdlchbjanoaaDoor
namespace Go.Proofs.YtigmdlchbjanoaaDoor
open Go Go.RowKit
/-- The last byte of the run that begins here. -/
def rext (p:Nat→Bool):Nat→Nat→Nat
 | 0,c=>c
 | f+1,c=>if decide (c+1<256) && p (c+1) then rext p f (c+1) else c
theorem rext_go (p:Nat→Bool):∀ (f c l:Nat),l-c≤f→c≤l→l<256→(∀ j,c<j→j≤l→p j=true)→(l+1<256→p (l+1)=false)→rext p f c=l:=by
 intro f
 induction f with
 | zero=>intro c l h1 h2 _ _ _;rw [rext];omega
 | succ f ih =>
  intro c l h1 h2 h3 h4 h5
  rw [rext]
  by_cases hc:c=l
  ·subst hc
   by_cases h6:c+1<256
   ·simp [h5 h6]
   ·simp [h6]
  ·have hp:=h4 (c+1) (by omega) (by omega)
   rw [if_pos (by simp [hp];omega)]
   exact ih (c+1) l (by omega) (by omega) h3 (fun j hj hj2=>h4 j (by omega) hj2) h5
theorem rext_eq (p:Nat→Bool) (c l:Nat) (h2:c≤l) (h3:l<256) (h4:∀ j,c<j→j≤l→p j=true) (h5:l+1<256→p (l+1)=false):rext p 256 c=l:=rext_go p 256 c l (by omega) h2 h3 h4 h5
/-- The text of the run that begins here, if one does. -/
def piece (p:Nat→Bool) (c:Nat):List UInt8:=if p c && !(decide (0<c) && p (c-1)) then signT c ++ (if c<rext p 256 c then 45 :: signT (rext p 256 c) else []) else []
def runsT (p:Nat→Bool):Nat→List UInt8
 | 0=>[]
 | n+1=>runsT p n ++ piece p n
theorem runs_zero (p:Nat→Bool):runsT p 0=[]:=rfl
theorem piece_off {p:Nat→Bool} {c:Nat} (h:p c=false):piece p c=[]:=by unfold piece;simp [h]
theorem piece_in {p:Nat→Bool} {c:Nat} (h0:0<c) (h:p (c-1)=true):piece p c=[]:=by unfold piece;simp [h,h0]
theorem piece_at {p:Nat→Bool} {c l:Nat} (h:p c=true) (h0:c=0∨p (c-1)=false) (hl:rext p 256 c=l):piece p c=signT c ++ (if c<l then 45 :: signT l else []):=by
 unfold piece
 rw [hl]
 rcases h0 with rfl | h0
 ·simp [h]
 ·simp [h,h0]
theorem runs_skip (p:Nat→Bool) (c:Nat) (hp:p c=true):∀ d,(∀ j,c<j→j≤c+d→p j=true)→runsT p (c+d+1)=runsT p (c+1):=by
 intro d
 induction d with
 | zero=>intro _;rfl
 | succ d ih =>
  intro h
  rw [show c+(d+1)+1=(c+d+1)+1 by omega,runsT,ih (fun j h1 h2=>h j h1 (by omega)),piece_in (by omega),List.append_nil]
  by_cases hd:d=0
  ·subst hd;exact hp
  ·exact h _ (by omega) (by omega)
theorem runs_to (p:Nat→Bool) (c l:Nat) (hp:p c=true) (h0:c=0∨p (c-1)=false) (h2:c≤l) (h3:l<256) (h4:∀ j,c<j→j≤l→p j=true) (h5:l+1<256→p (l+1)=false) :
  runsT p (l+1)=runsT p c ++ (signT c ++ (if c<l then 45 :: signT l else [])):=by
 obtain ⟨d,rfl⟩:∃ d,l=c+d:=⟨l-c,by omega⟩
 rw [runs_skip p c hp d h4,runsT,piece_at hp h0 (rext_eq p c _ h2 h3 h4 h5)]
theorem sign_len (c:Nat):(signT c).length≤4∧1≤(signT c).length:=by unfold signT;split <;> simp
theorem piece_len (p:Nat→Bool) (c:Nat):(piece p c).length≤9:=by
 unfold piece
 have h1:=(sign_len c).1
 have h2:=(sign_len (rext p 256 c)).1
 split
 ·rw [List.length_append]
  split
  ·rw [List.length_cons];omega
  ·rw [List.length_nil];omega
 ·simp
theorem runs_len (p:Nat→Bool):∀ n,(runsT p n).length≤9*n:=by
 intro n
 induction n with
 | zero=>simp [runsT]
 | succ n ih=>rw [runsT,List.length_append];have:=piece_len p n;omega
theorem cnt_none {p:Nat→Bool}:∀ {n:Nat},cnt p n=0→∀ j,j<n→p j=false:=by
 intro n
 induction n with
 | zero=>intro _ j hj;omega
 | succ n ih =>
  intro h j hj
  rw [cnt] at h
  have h1:cnt p n=0:=by omega
  by_cases hjn:j=n
  ·subst hjn
   cases hp:p j
   ·rfl
   ·rw [hp] at h;simp at h
  ·exact ih h1 j (by omega)
theorem cnt_one {p:Nat→Bool}:∀ {n:Nat},cnt p n=1→∃ m,m<n∧∀ j,j<n→p j=(j == m):=by
 intro n
 induction n with
 | zero=>intro h;simp [cnt] at h
 | succ n ih =>
  intro h
  rw [cnt] at h
  cases hp:p n
  ·rw [hp] at h
   obtain ⟨m,hm,hj⟩:=ih (by simpa using h)
   refine ⟨m,by omega,fun j hjn=>?_⟩
   by_cases e:j=n
   ·subst e;rw [hp];simp;omega
   ·exact hj j (by omega)
  ·rw [hp] at h
   have h0:cnt p n=0:=by simpa using h
   refine ⟨n,by omega,fun j hjn=>?_⟩
   by_cases e:j=n
   ·subst e;rw [hp];simp
   ·rw [cnt_none h0 j (by omega)];simp [e]
theorem cnt_sole {p:Nat→Bool} (h:cnt p 256=1):∃ m,Sole p m:=by
 obtain ⟨m,h1,h2⟩:=cnt_one h
 exact ⟨m,h1,h2⟩
theorem cnt_Sole {p:Nat→Bool} {m:Nat} (h:Sole p m):cnt p 256=1:=by
 rw [cnt_congr (g:=fun j=>j == m) (fun j hj=>h.2 j hj)]
 have:∀ n,cnt (fun j=>j == m) n=if m<n then 1 else 0:=by
  intro n
  induction n with
  | zero=>simp [cnt]
  | succ n ih =>
   rw [cnt,ih]
   by_cases e:n=m
   ·subst e;simp
   ·have e':(n == m)=false:=by simpa using e
    rw [e']
    by_cases h1:m<n
    ·simp [h1];omega
    ·simp [h1];omega
 rw [this,if_pos h.1]
/-- The first byte that is in. -/
def lstF (p:Nat→Bool):Nat→Nat→Nat
 | 0,c=>c
 | f+1,c=>if p c then c else lstF p f (c+1)
theorem lstF_eq (p:Nat→Bool) (m:Nat) (hp:p m=true):∀ (f c:Nat),c≤m→m<c+f→(∀ j,c≤j→j<m→p j=false)→lstF p f c=m:=by
 intro f
 induction f with
 | zero=>intro c h1 h2;omega
 | succ f ih =>
  intro c h1 h2 h3
  rw [lstF]
  by_cases e:c=m
  ·subst e;simp [hp]
  ·rw [h3 c (Nat.le_refl _) (by omega)]
   exact ih (c+1) (by omega) (by omega) (fun j hj=>h3 j (by omega))
theorem Sole.lst {p:Nat→Bool} {m:Nat} (h:Sole p m):lstF p 256 0=m:=by
 refine lstF_eq p m (by rw [h.2 m h.1];simp) 256 0 (by omega) (by have:=h.1;omega) (fun j _ hj=>?_)
 rw [h.2 j (by have:=h.1;omega)]
 simp;omega
/-- A set's text. -/
def textT (p:Nat→Bool):List UInt8:=
 if cnt p 256=0 then [91,94] ++ runsT (fun _=>true) 256 ++ [93]
 else if cnt p 256=1 then signT (lstF p 256 0)
 else if cnt p 256=256 then [46]
 else [91] ++ runsT p 256 ++ [93]
theorem text_len (p:Nat→Bool):(textT p).length≤3000:=by
 unfold textT
 have h1:=runs_len (fun _=>true) 256
 have h2:=runs_len p 256
 have h3:=(sign_len (lstF p 256 0)).1
 split
 ·simp only [List.length_append,List.length_cons,List.length_nil];omega
 ·split
  ·omega
  ·split
   ·simp
   ·simp only [List.length_append,List.length_cons,List.length_nil];omega
end Go.Proofs.YtigmdlchbjanoaaDoor
namespace Go.Proofs.YtigmdlchbjanoaaDoor
open Go Go.RowKit
attribute [local irreducible] wd signT runsT
theorem BldAt.keep {w w':World} {B b:Nat} {l:List UInt8} (h:BldAt w B b l) (hx:Ext w w'):BldAt w' B b l:=by
 have key:∀ q,Lib.BuilderAt 102 5 B b q (Lib.byteCells l) w→Lib.BuilderAt 102 5 B b q (Lib.byteCells l) w':=by
  intro q h
  obtain ⟨hB,v,hb,hown,hne⟩:=h
  refine ⟨hB,v,?_,own_ext hown hx,hne⟩
  rw [hx.block b (by
   rcases Nat.lt_or_ge b w.heap.size with h' | h'
   ·exact h'
   ·simp [Array.getElem?_eq_none h'] at hb)]
  exact hb
 rcases h with h | h
 ·exact .inl (key _ h)
 ·exact .inr (key _ h)
theorem SB.below {w w':World} {B g:Nat} {p:Nat→Bool} (h:SB w g p) (hx:Below B w w') (hg:g<B):SB w' g p:=Blk.below h hx hg
set_option maxHeartbeats 4000000 in
set_option maxRecDepth 20000 in
theorem clRuns (p:Nat→Bool) (w:World) :
  Calls Tryd.prog 44 #[sp p] w fun e w'=>e=.returned (.string ⟨(runsT p 256).toArray⟩)∧Ext w w':=by
 unfold sp
 go_enter Tryd.func44,Tryd.ntmps44
 go_wp2
 generalize hgz:w.heap.size=gz
 go_loopw [4] (fun iv wr=>∃ c:Nat,c≤256∧iv=.int .i64 c∧(c<256→p c=true→c=0∨p (c-1)=false)∧SB wr gz p∧BldAt wr (gz+1) (gz+1) (runsT p c)∧gz+1≤wr.heap.size∧Ext w wr) (fun iv _=>256-(intOf iv).toNat)
 case atStart=>exact ⟨0,by omega,rfl,fun _ _=>.inl rfl,(SB.new hgz p).alloc _,(by have h:=BldAt.new (w.alloc (.cells (mix (wd p) (wd p) 0).toArray 25));simp only [World.size_alloc,hgz] at h;rw [runs_zero];exact h),by simp;omega,by (first | exact Ext.refl _ | (unfold Ext;repeat (first | exact Below.refl _ _ | assumption | refine Below.alloc ?_ (by first | (simp;done) | (simp;omega) | omega) _ | refine Below.setCell ?_ (by first | (simp;done) | (simp;omega) | omega) _ | refine Below.drew ?_)))⟩
 case round =>
  obtain ⟨c,hc,rfl,hI,hS,hB,hsz,hx⟩:=hrel
  by_cases hlt:c<256
  ·have hlt':(c:Int)<256:=by omega
   have hu8:IntKind.u8.wrap (c:Int)=(c:Int):=by rw [IntKind.wrap_u8];omega
   obtain ⟨y0,y1,y2,y3⟩:=hS.cells
   have HS:=Lib.hid hS
   have HB:=Lib.hid hB
   have HI:=Lib.hid hI
   clear hS hB hI
   cases hp:p c
   ·have HP:=Lib.hid hp
    clear hp
    go_wp2_with (go_at_call 53;refine (setHas p c hlt _).mono ?_;rintro e w1 ⟨rfl,hx1⟩;rw [HP.out])
    go_roundw
    case rel=>exact ⟨c+1,by omega,by go_num,fun _ _=>.inr (by simpa using HP.out),HS.out.keep hx1,(by rw [runsT,piece_off HP.out,List.append_nil];exact HB.out.keep hx1),Nat.le_trans hsz hx1.size,hx.trans hx1⟩
    case measure=>simp [intOf];omega
   ·have HP:=Lib.hid hp
    clear hp
    go_wp2_with (go_at_call 53;refine (setHas p c hlt _).mono ?_;rintro e w1 ⟨rfl,hx1⟩;rw [HP.out])
    have hS1:=HS.out.keep hx1
    have hB1:=HB.out.keep hx1
    have hsz1:=Nat.le_trans hsz hx1.size
    have HS1:=Lib.hid hS1
    have HB1:=Lib.hid hB1
    have hxw:=hx.trans hx1
    clear hS1 hB1 y0 y1 y2 y3 HS HB hx hx1 hsz
    go_loopw [5] (fun iv wq=>∃ l:Nat,c≤l∧l<256∧iv=.int .i64 l∧(∀ j,c<j→j≤l→p j=true)∧Ext w1 wq) (fun iv _=>256-(intOf iv).toNat)
    case atStart=>exact ⟨c,Nat.le_refl _,hlt,rfl,fun j h1 h2=>by omega,Ext.refl _⟩
    case round =>
     obtain ⟨l,hcl,hl,rfl,hrun,hxq⟩:=hrel
     have HR:=Lib.hid hrun
     clear hrun
     by_cases hgo:l+1<256∧p (l+1)=true
     ·obtain ⟨hg1,hg2⟩:=hgo
      have hg1':(l:Int)+1<256:=by omega
      have hu9:IntKind.u8.wrap ((l:Int)+1)=(l:Int)+1:=by rw [IntKind.wrap_u8];omega
      have HP2:=Lib.hid hg2
      clear hg2
      obtain ⟨y0,y1,y2,y3⟩:=(HS1.out.keep hxq).cells
      go_wp2_with (go_at_call 53;refine (setHas p (l+1) hg1 _).mono ?_;rintro e w2 ⟨rfl,hx2⟩;rw [HP2.out])
      go_roundw
      case rel=>exact ⟨l+1,by omega,by omega,by go_num,fun j h1 h2=>(by by_cases e:j=l+1;(rw [e];exact HP2.out);exact HR.out j h1 (by omega)),hxq.trans hx2⟩
      case measure=>simp [intOf];omega
     ·have hend:l+1<256→p (l+1)=false:=fun h=>by
       cases h2:p (l+1)
       ·rfl
       ·exact absurd ⟨h,h2⟩ hgo
      have hnext:=runs_to p c l HP.out (HI.out hlt HP.out) hcl hl HR.out hend
      have hln:=runs_len p c
      have hs4:=(sign_len c).1
      have hs5:=(sign_len l).1
      have HLN:=Lib.hid hln
      have HS4:=Lib.hid hs4
      have HS5:=Lib.hid hs5
      clear hln hs4 hs5
      have HN:=Lib.hid hnext
      have HE:=Lib.hid hend
      have hu9:IntKind.u8.wrap (l:Int)=(l:Int):=by rw [IntKind.wrap_u8];omega
      clear hnext hend hgo HI
      obtain ⟨y0,y1,y2,y3⟩:=(HS1.out.keep hxq).cells
      by_cases hg1:l+1<256
      ·have hg1':(l:Int)+1<256:=by omega
       have hu8':IntKind.u8.wrap ((l:Int)+1)=(l:Int)+1:=by rw [IntKind.wrap_u8];omega
       by_cases hcl2:c<l
       ·have hcl3:(c:Int)<(l:Int):=by omega
        go_wp2_with (first | (have:=hx2;go_at_call 46;refine (clSign c hlt _).mono ?_;rintro e w3 ⟨rfl,hx3⟩) | (go_at_call 53;refine (setHas p (l+1) hg1 _).mono ?_;rintro e w2 ⟨rfl,hx2⟩;rw [HE.out hg1]))
        have q1:=((HB1.out.keep hxq).keep hx2).keep hx3
        have hy3:=(hxq.trans hx2).trans hx3
        have q2:(runsT p c).length+(signT c).length≤1000000:=by have:=HLN.out;have:=HS4.out;omega
        have q3:gz+1≤w3.heap.size:=by have:=hy3.size;omega
        have q4:=bldPut (gz+1) (gz+1) (runsT p c) (signT c) w3 q1 q2 q3
        go_at_call 54
        refine q4.mono ?_
        rintro e w4 ⟨rfl,HB4,hb4⟩
        have hS4:=(HS1.out.keep hy3).below hb4 (by omega)
        have hsz4:=Nat.le_trans q3 hb4.size
        have hx4:Ext w w4:=Below.trans (hxw.trans hy3) (hb4.mono (by omega))
        replace HB4:=Lib.hid HB4
        replace hS4:=Lib.hid hS4
        clear q1 q2 q3 q4
        have hs5:=HS5.out
        go_wp2_with (go_at_call 46;refine (clSign l hl _).mono ?_;rintro e w5 ⟨rfl,hx5⟩)
        have q1:=HB4.out.keep hx5
        have q2:(runsT p c ++ signT c).length+(45 :: signT l).length≤1000000:=by have:=HLN.out;have:=HS4.out;have:=HS5.out;simp only [List.length_append,List.length_cons];omega
        have q3:gz+1≤w5.heap.size:=by have:=hx5.size;omega
        have q4:=bldPut (gz+1) (gz+1) (runsT p c ++ signT c) (45 :: signT l) w5 q1 q2 q3
        go_at_call 54
        refine q4.mono ?_
        rintro e w6 ⟨rfl,HB6,hb6⟩
        have hS6:=(hS4.out.keep hx5).below hb6 (by omega)
        have hsz6:=Nat.le_trans q3 hb6.size
        have hx6:Ext w w6:=Below.trans (hx4.trans hx5) (hb6.mono (by omega))
        replace HB6:=Lib.hid HB6
        replace hS6:=Lib.hid hS6
        clear q1 q2 q3 q4
        go_wp2
        go_roundw
        case rel=>exact ⟨l+1,by omega,by go_num,fun h1 h2=>absurd h2 (by rw [HE.out h1];decide),hS6.out,(by rw [HN.out,if_pos hcl2,← List.append_assoc];exact HB6.out),hsz6,hx6⟩
        case measure=>simp [intOf];omega
       ·have hcl3:¬ (c:Int)<(l:Int):=by omega
        go_wp2_with (first | (have:=hx2;go_at_call 46;refine (clSign c hlt _).mono ?_;rintro e w3 ⟨rfl,hx3⟩) | (go_at_call 53;refine (setHas p (l+1) hg1 _).mono ?_;rintro e w2 ⟨rfl,hx2⟩;rw [HE.out hg1]))
        have q1:=((HB1.out.keep hxq).keep hx2).keep hx3
        have hy3:=(hxq.trans hx2).trans hx3
        have q2:(runsT p c).length+(signT c).length≤1000000:=by have:=HLN.out;have:=HS4.out;omega
        have q3:gz+1≤w3.heap.size:=by have:=hy3.size;omega
        have q4:=bldPut (gz+1) (gz+1) (runsT p c) (signT c) w3 q1 q2 q3
        go_at_call 54
        refine q4.mono ?_
        rintro e w4 ⟨rfl,HB4,hb4⟩
        have hS4:=(HS1.out.keep hy3).below hb4 (by omega)
        have hsz4:=Nat.le_trans q3 hb4.size
        have hx4:Ext w w4:=Below.trans (hxw.trans hy3) (hb4.mono (by omega))
        replace HB4:=Lib.hid HB4
        replace hS4:=Lib.hid hS4
        clear q1 q2 q3 q4
        go_wp2
        go_roundw
        case rel=>exact ⟨l+1,by omega,by go_num,fun h1 h2=>absurd h2 (by rw [HE.out h1];decide),hS4.out,(by rw [HN.out,if_neg hcl2,List.append_nil];exact HB4.out),hsz4,hx4⟩
        case measure=>simp [intOf];omega
      ·have hg1':¬ (l:Int)+1<256:=by omega
       by_cases hcl2:c<l
       ·have hcl3:(c:Int)<(l:Int):=by omega
        go_wp2_with (go_at_call 46;refine (clSign c hlt _).mono ?_;rintro e w3 ⟨rfl,hx3⟩)
        have q1:=(HB1.out.keep hxq).keep hx3
        have hy3:=hxq.trans hx3
        have q2:(runsT p c).length+(signT c).length≤1000000:=by have:=HLN.out;have:=HS4.out;omega
        have q3:gz+1≤w3.heap.size:=by have:=hy3.size;omega
        have q4:=bldPut (gz+1) (gz+1) (runsT p c) (signT c) w3 q1 q2 q3
        go_at_call 54
        refine q4.mono ?_
        rintro e w4 ⟨rfl,HB4,hb4⟩
        have hS4:=(HS1.out.keep hy3).below hb4 (by omega)
        have hsz4:=Nat.le_trans q3 hb4.size
        have hx4:Ext w w4:=Below.trans (hxw.trans hy3) (hb4.mono (by omega))
        replace HB4:=Lib.hid HB4
        replace hS4:=Lib.hid hS4
        clear q1 q2 q3 q4
        have hs5:=HS5.out
        go_wp2_with (go_at_call 46;refine (clSign l hl _).mono ?_;rintro e w5 ⟨rfl,hx5⟩)
        have q1:=HB4.out.keep hx5
        have q2:(runsT p c ++ signT c).length+(45 :: signT l).length≤1000000:=by have:=HLN.out;have:=HS4.out;have:=HS5.out;simp only [List.length_append,List.length_cons];omega
        have q3:gz+1≤w5.heap.size:=by have:=hx5.size;omega
        have q4:=bldPut (gz+1) (gz+1) (runsT p c ++ signT c) (45 :: signT l) w5 q1 q2 q3
        go_at_call 54
        refine q4.mono ?_
        rintro e w6 ⟨rfl,HB6,hb6⟩
        have hS6:=(hS4.out.keep hx5).below hb6 (by omega)
        have hsz6:=Nat.le_trans q3 hb6.size
        have hx6:Ext w w6:=Below.trans (hx4.trans hx5) (hb6.mono (by omega))
        replace HB6:=Lib.hid HB6
        replace hS6:=Lib.hid hS6
        clear q1 q2 q3 q4
        go_wp2
        go_roundw
        case rel=>exact ⟨l+1,by omega,by go_num,fun h1 h2=>absurd h2 (by rw [HE.out h1];decide),hS6.out,(by rw [HN.out,if_pos hcl2,← List.append_assoc];exact HB6.out),hsz6,hx6⟩
        case measure=>simp [intOf];omega
       ·have hcl3:¬ (c:Int)<(l:Int):=by omega
        go_wp2_with (go_at_call 46;refine (clSign c hlt _).mono ?_;rintro e w3 ⟨rfl,hx3⟩)
        have q1:=(HB1.out.keep hxq).keep hx3
        have hy3:=hxq.trans hx3
        have q2:(runsT p c).length+(signT c).length≤1000000:=by have:=HLN.out;have:=HS4.out;omega
        have q3:gz+1≤w3.heap.size:=by have:=hy3.size;omega
        have q4:=bldPut (gz+1) (gz+1) (runsT p c) (signT c) w3 q1 q2 q3
        go_at_call 54
        refine q4.mono ?_
        rintro e w4 ⟨rfl,HB4,hb4⟩
        have hS4:=(HS1.out.keep hy3).below hb4 (by omega)
        have hsz4:=Nat.le_trans q3 hb4.size
        have hx4:Ext w w4:=Below.trans (hxw.trans hy3) (hb4.mono (by omega))
        replace HB4:=Lib.hid HB4
        replace hS4:=Lib.hid hS4
        clear q1 q2 q3 q4
        go_wp2
        go_roundw
        case rel=>exact ⟨l+1,by omega,by go_num,fun h1 h2=>absurd h2 (by rw [HE.out h1];decide),hS4.out,(by rw [HN.out,if_neg hcl2,List.append_nil];exact HB4.out),hsz4,hx4⟩
        case measure=>simp [intOf];omega
  ·obtain rfl:c=256:=by omega
   have HB:=Lib.hid hB
   clear hB
   go_wp2_with (go_at_call 55;refine (bldText _ _ _ _ HB.out hsz).mono ?_;rintro e w1 ⟨rfl,hx1⟩)
   go_ret
   exact ⟨by simp,Below.trans hx (hx1.mono (by omega))⟩
end Go.Proofs.YtigmdlchbjanoaaDoor
