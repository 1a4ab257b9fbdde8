/- Put together: Base, Chg, Elem, Own, Strs, Sent, Ints, Dag, ActOf, DagS, DagF, Eg1, DagQ, DagJ, Is, NumErr, ErrC. -/
import Derived.Test.YtigmdlchbjanoaaGreatDoorRows
import Derived.WalkKit
import Derived.WalkSpells
import Derived.WalkLawsBesides
import Derived.Maps.AppendAt
import Derived.Lib.Hide
import Derived.Laws.CopyOwn
import Derived.Deep.RegionLaw
import Derived.IntWalk
import Derived.Lib.AppendZerosOnto
import Derived.Lib.ConvBytes
import Derived.Stop.LaidErr
import Derived.LaidEql
import Derived.Test.YtigmdlchbjanoaaGreatDoorChecked
import Derived.Stop.Asserts
import Derived.RowKitTokens
import Derived.Stop.IfaceNil
import Derived.LaidLaws
namespace Go.Proofs.YtigmdlchbjanoaaGreatDoor
open Go.RowKit
@[go_sem] theorem bs_size (l:List UInt8):(⟨l.toArray⟩:ByteArray).size=l.length:=rfl
@[go_sem] theorem bs_get (l:List UInt8) (i:Nat) (h:i<(⟨l.toArray⟩:ByteArray).size):(⟨l.toArray⟩:ByteArray)[i]'h=l[i]'h:=rfl
@[go_sem] theorem bs_append (a b:List UInt8):(⟨a.toArray⟩:ByteArray) ++ ⟨b.toArray⟩=⟨(a ++ b).toArray⟩:=by
 apply ByteArray.ext;simp [ByteArray.data_append]
@[go_sem] theorem bs_extract (l:List UInt8) (i j:Nat):(⟨l.toArray⟩:ByteArray).extract i j=⟨((l.take j).drop i).toArray⟩:=by
 apply ByteArray.ext;simp [ByteArray.data_extract,List.extract_eq_drop_take']
@[go_sem] theorem bs_toList (l:List UInt8):ByteArray.toList ⟨l.toArray⟩=l:=ByteArray.toList_mk l
def U8 (c:UInt8):Value:=.int .u8 c.toNat
def bytesV (l:List UInt8):List Value:=l.map U8
def Ext (w w':World):Prop:=Below w.heap.size w w'
theorem Ext.refl (w:World):Ext w w:=Below.refl _ _
theorem Ext.trans {a b c:World} (h:Ext a b) (k:Ext b c):Ext a c:=Below.trans h (k.mono (Below.size h))
theorem BeA {B:Nat} {a w:World} {o:Obj} (h:Below B a w) (hB:B≤w.heap.size:=by first | (simp;done) | (simp;omega) | omega):Below B a (w.alloc o):=Below.alloc h hB o
theorem BeC {B:Nat} {a w:World} {p:Addr} {u:Value} (h:Below B a w) (hp:B≤p.block:=by first | (simp;done) | (simp;omega) | omega):Below B a (w.setCell p u):=Below.setCell h hp u
def Rd (w:World) (size:Nat) (A:Option Addr) (n:Nat) (cs:List Value):Prop:=
 cs.length=n*size∧(0<cs.length→∃ b o,A=some ⟨b,o,none⟩∧b<w.heap.size∧∀ j u,cs[j]?=some u→w.cell? ⟨b,o+j,none⟩=some u)
theorem Rd.nil {w:World} {size:Nat} {A:Option Addr}:Rd w size A 0 []:=⟨by simp,fun h=>by simp at h⟩
theorem Rd.keep {w w':World} {size n:Nat} {A:Option Addr} {cs:List Value} (h:Rd w size A n cs) (hb:Below w.heap.size w w'):Rd w' size A n cs:=
 ⟨h.1,fun hn=>by
  obtain ⟨b,o,e,hlt,hc⟩:=h.2 hn
  exact ⟨b,o,e,Nat.lt_of_lt_of_le hlt hb.size,fun j u hu=>(hb.cell (p:=⟨b,o+j,none⟩) hlt).trans (hc j u hu)⟩⟩
theorem Rd.below {w w':World} {B size n:Nat} {A:Option Addr} {cs:List Value} (h:Rd w size A n cs) (hb:Below B w w') (hB:w.heap.size≤B):Rd w' size A n cs:=h.keep (hb.mono hB)
def Apart (v u:Value):Prop:=v.ownBlock=none∨v.ownBlock ≠ u.ownBlock
theorem Apart.symm {v u:Value} (h:Apart v u):Apart u v:=by
 unfold Apart at *
 rcases h with h | h
 ·cases hu:u.ownBlock with
  | none=>exact .inl rfl
  | some k=>right;rw [h];simp
 ·exact .inr (Ne.symm h)
structure Elem (P:Program) (t e:TypeId) (z:Value) (size bytes:Nat):Prop where
 und:P.underlying t=some (.slice e)
 info:(P.info? e).map (fun i=>(i.zero,i.size,i.bytes))=some (some z,size,bytes)
 zs:z.cells.size=size
 pos:0<size
theorem own_rd {w:World} {base:Nat} {e:TypeId} {size n:Nat} {v:Value} {xs:List Value} (h:w.ownsRow base e size v n xs) :
  ∃ A c,v=.slice A n c∧n≤c∧c≤maxLen∧Rd w size A n xs:=by
 have h0:=h
 obtain ⟨hl,h⟩:=h
 rcases h with ⟨rfl,rfl⟩ | ⟨g,cap,cur,rfl,hb,hh,hn,hm,hs,ht⟩
 ·refine ⟨none,0,rfl,by omega,by unfold maxLen;omega,hl,fun hp=>?_⟩
  simp at hl;subst hl;simp at hp
 ·refine ⟨some ⟨g,0,none⟩,cap,rfl,hn,hm,hl,fun hp=>⟨g,0,rfl,?_,fun j u hu=>?_⟩⟩
  ·rcases Nat.lt_or_ge g w.heap.size with hlt | hge
   ·exact hlt
   ·rw [Array.getElem?_eq_none hge] at hh;cases hh
  ·have:=h0.cells (g:=g) rfl j u hu
   simpa [Addr.add_lit] using this
structure Grew (base:Nat) (w w':World) (v:Value):Prop where
 by_:w.grownBy w' v.ownBlock
 from_:∀ k,v.ownBlock=some k→base≤k
theorem Grew.size {base:Nat} {w w':World} {v:Value} (h:Grew base w w' v):w.heap.size≤w'.heap.size:=h.by_.size
theorem Grew.below {base B:Nat} {w0 w w':World} {v:Value} (h:Grew base w w' v) (hb:Below B w0 w) (h1:B≤base) (h2:B≤w.heap.size):Below B w0 w':=
 hb.grown h.by_ h2 fun k hk=>Nat.le_trans h1 (h.from_ k hk)
theorem Grew.cell {base:Nat} {w w':World} {v x:Value} (h:Grew base w w' v) {a:Addr} (hc:w.cell? a=some x) (ha:a.block<base):w'.cell? a=some x:=
 h.by_.cell hc fun e=>by have:=h.from_ _ e.symm;omega
theorem Grew.frozen {base:Nat} {w w':World} {v:Value} (h:Grew base w w' v) {a:Addr} (hf:w.frozen? a=false) (ha:a.block<base) (hs:base≤w.heap.size):w'.frozen? a=false:=by
 rw [← hf];exact World.frozen?_of_block (h.by_.block a.block (by omega) fun e=>by have:=h.from_ _ e.symm;omega)
theorem own_mono {w:World} {base base':Nat} {e:TypeId} {size n:Nat} {v:Value} {xs:List Value} (h:w.ownsRow base e size v n xs) (hb:base' ≤ base):w.ownsRow base' e size v n xs:=by
 refine ⟨h.1,?_⟩
 rcases h.2 with h | ⟨g,cap,cur,h1,h2,h3⟩
 ·exact .inl h
 ·exact .inr ⟨g,cap,cur,h1,Nat.le_trans hb h2,h3⟩
theorem own_ext {w w':World} {base:Nat} {e:TypeId} {size n:Nat} {v:Value} {xs:List Value} (h:w.ownsRow base e size v n xs) (hb:Ext w w'):w'.ownsRow base e size v n xs:=
 h.kept (row:=none) ⟨hb.os,hb.tape,hb.output,hb.size,fun k hk _=>hb.block k hk⟩ (by cases hv:v.ownBlock <;> simp)
theorem Apart.new {w:World} {base:Nat} {e:TypeId} {size n m c:Nat} {v:Value} {xs:List Value} (h:w.ownsRow base e size v n xs):Apart (.slice (some ⟨w.heap.size,0,none⟩) m c) v:=by
 right
 cases hv:v.ownBlock with
 | none=>simp [Value.ownBlock]
 | some k=>have:=(h.lt k hv).2;simp [Value.ownBlock];omega
def RdL {α:Type} (R:World→Value→α→Prop) (w:World) (A:Option Addr) (n:Nat) (xs:List α):Prop:=
 ∃ cs,Rd w 1 A n cs∧cs.length=xs.length∧∀ (j:Nat) (c:Value) (x:α),cs[j]?=some c→xs[j]?=some x→R w c x
theorem RdL.keep {α:Type} {R:World→Value→α→Prop} (hR:∀ w w' c x,R w c x→Ext w w' → R w' c x) {w w':World} {A:Option Addr} {n:Nat} {xs:List α} (h:RdL R w A n xs) (hb:Ext w w'):RdL R w' A n xs:=by
 obtain ⟨cs,h1,h2,h3⟩:=h
 exact ⟨cs,h1.keep hb,h2,fun j c x hc hx=>hR _ _ _ _ (h3 j c x hc hx) hb⟩
theorem RdL.len {α:Type} {R:World→Value→α→Prop} {w:World} {A:Option Addr} {n:Nat} {xs:List α} (h:RdL R w A n xs):xs.length=n:=by
 obtain ⟨cs,h1,h2,_⟩:=h
 rw [← h2,h1.1];omega
theorem RdL.at_ {α:Type} {R:World→Value→α→Prop} {w:World} {A:Option Addr} {n:Nat} {xs:List α} (h:RdL R w A n xs) {k:Nat} (hk:k<xs.length) :
  ∃ b o c,A=some ⟨b,o,none⟩∧Hid (∀ w',Below w.heap.size w w' → w'.cell? ⟨b,o+k,none⟩=some c)∧R w c xs[k]:=by
 obtain ⟨cs,h1,h2,h3⟩:=h
 obtain ⟨b,o,rfl,hb,hc⟩:=h1.2 (by omega)
 have hkc:k<cs.length:=by omega
 exact ⟨b,o,cs[k],rfl,fun w' hw=>(hw.cell (p:=⟨b,o+k,none⟩) hb).trans (hc k _ (List.getElem?_eq_getElem hkc)),h3 k _ _ (List.getElem?_eq_getElem hkc) (List.getElem?_eq_getElem hk)⟩
def IsBytes (w:World) (v:Value) (l:List UInt8):Prop:=∃ A n c,v=.slice A n c∧n≤c∧c≤maxLen∧Rd w 1 A n (bytesV l)
theorem IsBytes.keep {w w':World} {v:Value} {l:List UInt8} (h:IsBytes w v l) (hb:Ext w w'):IsBytes w' v l:=by
 obtain ⟨A,n,c,h1,h2,h3,h4⟩:=h
 exact ⟨A,n,c,h1,h2,h3,h4.keep hb⟩
theorem rd_one (w:World) (u:Value) (e:TypeId):Rd (w.alloc (.cells #[u] e)) 1 (some ⟨w.heap.size,0,none⟩) 1 [u]:=by
 refine ⟨rfl,fun _=>⟨w.heap.size,0,rfl,by simp,fun j x hx=>?_⟩⟩
 have hj:j=0:=by
  have:=(List.getElem?_eq_some_iff.1 hx).1
  simpa using this
 subst hj
 simp at hx;subst hx
 simp
theorem conv_str {P:Program} {w:World} {src e dst:TypeId} (hs:P.underlying src=some (.slice e)) (he:P.underlying e=some (.int .u8)) (hd:P.underlying dst=some .string)
  {A:Option Addr} {n c:Nat} {l:List UInt8} (hr:Rd w 1 A n (bytesV l)):(convert src dst (.slice A n c)).run P w=.ok (.string ⟨l.toArray⟩) w:=by
 have hl:l.length=n:=by simpa [bytesV] using hr.1
 by_cases h0:l.length=0
 ·obtain rfl:l=[]:=List.eq_nil_of_length_eq_zero h0
  simp at hl
  subst hl
  cases A with
  | none=>exact run_convert_bytes_nil w src e hs he _ _ dst hd
  | some a =>
   rw [run_convert_bytes_string w src dst e _ _ c hs he hd,run_bytesToString w a 0 c [] (by simp [loadCells,loadCellsFrom])]
   simp [ByteArray.empty,ByteArray.emptyWithCapacity]
   rfl
 ·obtain ⟨b,o,rfl,_,hc⟩:=hr.2 (by simp [bytesV];omega)
  have:=run_convert_bytes_arg (P:=P) w src e hs he b o n c (l.map fun x=>(x.toNat:Int)) (by simpa using hl) (fun i hi=>by
   rw [hc i _ (List.getElem?_eq_getElem (by simp [bytesV];omega))]
   simp [bytesV,U8,List.getD,show i<l.length by omega]) dst hd
  rw [this]
  have e2:(l.map fun x=>(x.toNat:Int)).map (fun n=>UInt8.ofNat n.toNat)=l:=by
   rw [List.map_map]
   conv=>rhs;rw [← List.map_id l]
   apply List.map_congr_left
   intro x _
   simp
  simp only [strOfNums,e2]
theorem own_new {w:World} {base g n cap:Nat} {e:TypeId} {size:Nat} {cur:Array Value} (hg:w.heap[g]?=some (.cells cur e (0,0))) (hb:base≤g) (hn:n≤cap) (hm:cap≤maxLen) (hs:cur.size=cap*size) :
  w.ownsRow base e size (.slice (some ⟨g,0,none⟩) n cap) n (cur.toList.take (n*size)):=by
 refine ⟨?_,.inr ⟨g,cap,cur,rfl,hb,hg,hn,hm,hs,rfl⟩⟩
 have:n*size≤cap*size:=Nat.mul_le_mul_right _ hn
 simp;omega
def Blk (w:World) (g:Nat) (e:TypeId) (cs:List Value):Prop:=w.heap[g]?=some (.cells cs.toArray e (0,0))
section
variable {w w':World} {g:Nat} {e:TypeId} {cs:List Value}
theorem Blk.lt (h:Blk w g e cs):g<w.heap.size:=by
 rcases Nat.lt_or_ge g w.heap.size with hlt | hge
 ·exact hlt
 ·unfold Blk at h;rw [Array.getElem?_eq_none hge] at h;cases h
theorem Blk.cell (h:Blk w g e cs) (i:Nat):w.cell? ⟨g,i,none⟩=cs[i]?:=by
 unfold Blk at h;simp [World.cell?,h]
theorem Blk.frozen (h:Blk w g e cs) (i:Nat):w.frozen? ⟨g,i,none⟩=false:=by
 unfold Blk at h
 simp [World.frozen?,h]
theorem Blk.new (w:World) (e:TypeId) (cs:Array Value):Blk (w.alloc (.cells cs e)) w.heap.size e cs.toList:=by
 unfold Blk;simpa using heap_alloc_new w (.cells cs e)
theorem Blk.newL (w:World) (e:TypeId) (cs:List Value):Blk (w.alloc (.cells cs.toArray e)) w.heap.size e cs:=heap_alloc_new w _
theorem Blk.alloc (h:Blk w g e cs) (o:Obj):Blk (w.alloc o) g e cs:=(Below.heap_alloc w o g h.lt).trans h
theorem Blk.set_ (h:Blk w g e cs) (i:Nat) (u:Value):Blk (w.setCell ⟨g,i,none⟩ u) g e (cs.set i u):=by
 unfold Blk at h ⊢
 simp [World.setCell,Array.getElem?_modify,h]
theorem Blk.far (h:Blk w g e cs) {p:Addr} (hp:g ≠ p.block) (u:Value):Blk (w.setCell p u) g e cs:=(Below.heap_setCell w p u g hp).trans h
theorem Blk.below {B:Nat} (h:Blk w g e cs) (hb:Below B w w') (hg:g<B):Blk w' g e cs:=(hb.block g hg).trans h
theorem Blk.keep (h:Blk w g e cs) (hb:Below w.heap.size w w'):Blk w' g e cs:=h.below hb h.lt
theorem Blk.grew {base:Nat} {v:Value} (h:Blk w g e cs) (hb:Grew base w w' v) (hg:some g ≠ v.ownBlock):Blk w' g e cs:=(hb.by_.block g h.lt hg).trans h
theorem Blk.own {base n cap size:Nat} (h:Blk w g e cs) (hb:base≤g) (hn:n≤cap) (hm:cap≤maxLen) (hs:cs.length=cap*size) :
  w.ownsRow base e size (.slice (some ⟨g,0,none⟩) n cap) n (cs.take (n*size)):=by
 simpa using own_new (size:=size) (cur:=cs.toArray) h hb hn hm (by simpa using hs)
theorem Blk.rd {n size:Nat} (h:Blk w g e cs) (o:Nat) (hs:o+n*size≤cs.length):Rd w size (some ⟨g,o,none⟩) n ((cs.drop o).take (n*size)):=by
 refine ⟨by simp;omega,fun _=>⟨g,o,rfl,h.lt,fun j u hu=>?_⟩⟩
 rw [h.cell]
 rw [List.getElem?_take] at hu
 split at hu
 ·rwa [List.getElem?_drop] at hu
 ·cases hu
end
theorem Rd.bytes {w:World} {A:Option Addr} {n:Nat} {l:List UInt8} (h:Rd w 1 A n (bytesV l)) (hp:0<l.length) :
  ∃ b o,A=some ⟨b,o,none⟩∧Hid (∀ w',Below w.heap.size w w' → ∀ i (hi:i<l.length),w'.cell? ⟨b,o+i,none⟩=some (.int .u8 (l[i].toNat:Int))):=by
 obtain ⟨b,o,rfl,hb,hc⟩:=h.2 (by simpa [bytesV] using hp)
 refine ⟨b,o,rfl,fun w' hw i hi=>?_⟩
 rw [hw.cell (p:=⟨b,o+i,none⟩) hb]
 exact hc i _ (by simp [bytesV,U8,hi])
theorem Grew.all {base:Nat} {w0 wr w1:World} {o:Obj} {v:Value} (h:Grew base (wr.alloc o) w1 v) (hb:Below base w0 wr) (hs:base≤wr.heap.size):Below base w0 w1:=
 h.below (hb.alloc hs _) (Nat.le_refl _) (by simp;omega)
end Go.Proofs.YtigmdlchbjanoaaGreatDoor
namespace Go.Proofs.YtigmdlchbjanoaaGreatDoor
open Go Go.RowKit Go.ChangeShapes
structure Chg (X:List Nat) (w w':World):Prop where
 os:w'.os=w.os
 tape:w'.tape=w.tape
 output:w'.output=w.output
 size:w.heap.size≤w'.heap.size
 block:∀ k,k<w.heap.size→k ∉ X→w'.heap[k]?=w.heap[k]?
theorem Chg.refl (X:List Nat) (w:World):Chg X w w:=⟨rfl,rfl,rfl,Nat.le_refl _,fun _ _ _=>rfl⟩
theorem Chg.trans {X:List Nat} {a b c:World} (h:Chg X a b) (k:Chg X b c):Chg X a c:=
 ⟨k.os.trans h.os,k.tape.trans h.tape,k.output.trans h.output,Nat.le_trans h.size k.size,fun i hi hx=>(k.block i (Nat.lt_of_lt_of_le hi h.size) hx).trans (h.block i hi hx)⟩
theorem Chg.mono {X Y:List Nat} {w w':World} (h:Chg X w w') (hs:∀ x ∈ X,x ∈ Y):Chg Y w w':=
 ⟨h.os,h.tape,h.output,h.size,fun k hk hy=>h.block k hk fun hx=>hy (hs k hx)⟩
theorem Chg.of_ext {X:List Nat} {w w':World} (h:Ext w w'):Chg X w w':=⟨h.os,h.tape,h.output,h.size,fun k hk _=>h.block k hk⟩
theorem Chg.ext {X:List Nat} {w w':World} (h:Chg X w w') (hx:∀ x ∈ X,w.heap.size≤x):Ext w w':=
 ⟨h.os,h.tape,h.output,h.size,fun k hk=>h.block k hk fun hm=>by have:=hx k hm;omega⟩
theorem Chg.below {X:List Nat} {w0 w w':World} {B:Nat} (h:Chg X w w') (hb:Below B w0 w) (hB:B≤w.heap.size) (hx:∀ x ∈ X,B≤x):Below B w0 w':=
 hb.trans ⟨h.os,h.tape,h.output,h.size,fun k hk=>h.block k (by omega) fun hm=>by have:=hx k hm;omega⟩
theorem Chg.alloc {X:List Nat} {a w:World} (h:Chg X a w) (o:Obj):Chg X a (w.alloc o):=
 h.trans (.of_ext ((Below.refl _ _).alloc (Nat.le_refl _) o))
theorem Chg.drew {X:List Nat} {a w:World} (h:Chg X a w):Chg X a w.drew:=⟨h.os,h.tape,h.output,h.size,h.block⟩
theorem Chg.setCell {X:List Nat} {a w:World} (h:Chg X a w) {p:Addr} (hp:p.block ∈ X) (u:Value):Chg X a (w.setCell p u):=
 h.trans ⟨rfl,rfl,rfl,by simp [World.setCell],fun k _ hx=>Below.heap_setCell _ _ _ _ fun e=>hx (e ▸ hp)⟩
theorem Chg.setNew {X:List Nat} {a w:World} (h:Chg X a w) {p:Addr} (hp:a.heap.size≤p.block) (u:Value):Chg X a (w.setCell p u):=
 ⟨h.os,h.tape,h.output,by have:=h.size;simpa [World.setCell] using this,fun k hk hx=>(Below.heap_setCell _ _ _ _ (by omega)).trans (h.block k hk hx)⟩
theorem Chg.cell {X:List Nat} {w w':World} (h:Chg X w w') {a:Addr} {v:Value} (hc:w.cell? a=some v) (hx:a.block ∉ X):w'.cell? a=some v:=by
 have hlt:a.block<w.heap.size:=by
  rcases Nat.lt_or_ge a.block w.heap.size with h' | h'
  ·exact h'
  ·simp [World.cell?,Array.getElem?_eq_none h'] at hc
 rw [← hc];exact World.cell?_of_block (h.block _ hlt hx)
theorem Blk.chg {X:List Nat} {w w':World} {g:Nat} {e:TypeId} {cs:List Value} (h:Blk w g e cs) (hc:Chg X w w') (hg:g ∉ X):Blk w' g e cs:=(hc.block g h.lt hg).trans h
theorem Rd.chg {X:List Nat} {w w':World} {size n:Nat} {A:Option Addr} {cs:List Value} (h:Rd w size A n cs) (hc:Chg X w w') (hx:0<cs.length→∀ b o v,A=some ⟨b,o,v⟩→b ∉ X):Rd w' size A n cs:=
 ⟨h.1,fun hp=>by
  obtain ⟨b,o,rfl,hb,hcell⟩:=h.2 hp
  exact ⟨b,o,rfl,Nat.lt_of_lt_of_le hb hc.size,fun j u hu=>hc.cell (hcell j u hu) (hx hp b o none rfl)⟩⟩
theorem Rd.apart {w:World} {size n g:Nat} {A:Option Addr} {cs:List Value} (h:Rd w size A n cs) (hg:w.heap.size≤g):0<cs.length→∀ b o v,A=some ⟨b,o,v⟩→b ≠ g:=fun hp b o v e=>by
 obtain ⟨b',o',e',hb,_⟩:=h.2 hp
 rw [e'] at e
 cases e
 omega
end Go.Proofs.YtigmdlchbjanoaaGreatDoor
namespace Go.Proofs.YtigmdlchbjanoaaGreatDoor
open Go.RowKit
theorem Tryz.elemB:Elem Tryz.prog 52 5 (.int .u8 0) 1 1:=⟨Tryz.underlying52,by kernel_rfl,rfl,by omega⟩
theorem wrap_id {x:Int} (h1:-9223372036854775808≤x) (h2:x<9223372036854775808):IntKind.i64.wrap x=x:=IntWalk.i64_in x ⟨h1,by omega⟩
end Go.Proofs.YtigmdlchbjanoaaGreatDoor
namespace Go.Proofs.YtigmdlchbjanoaaGreatDoor
open Go Go.RowKit
theorem wpList_app2 {P:Program} {w:World} {ops:Array Oper} {rest:List Oper} {o:Oper} {a:Act} {Q:Exit→Act→World→Prop}
  {t e:TypeId} {z:Value} {size bytes:Nat} (E:Elem P t e z size bytes) (hgd:o.guard=none) (s x:Operand)
  (ho:o.op=.call { callee:=.builtin .append,args:=#[s,x],argTypes:=#[t,t] })
  {base:Nat} {v:Value} {n:Nat} {xs:List Value} (hs:a.eval s=v) (hown:w.ownsRow base e size v n xs) (hbase:base≤w.heap.size)
  {A:Option Addr} {m c:Nat} {news:List Value} (hx:a.eval x=.slice A m c) (hr:Rd w size A m news) (h1:∀ u ∈ news,u.oneCell'=true)
  (h63:(n+m)*bytes≤140737488355328) (h64:n+m≤maxLen)
  (h:∀ v' w',w'.ownsRow base e size v' (n+m) (xs ++ news)→Grew base w w' v →
   (∀ (u:Value) (e':TypeId) (size' n':Nat) (ys:List Value),w.ownsRow base e' size' u n' ys→Apart u v→w'.ownsRow base e' size' u n' ys∧Apart u v')→(v'.ownBlock=v.ownBlock∨v'.ownBlock=some w.heap.size)→wpList P ops Q rest (a.put o.dst v') w') :
  wpList P ops Q (o :: rest) a w:=by
 obtain ⟨i,hi,hz,hsz,hby⟩:=info_parts E.info
 by_cases hm:news.length=0
 ·
  have hm0:m=0:=by
   have:=hr.1;rw [hm] at this
   rcases Nat.mul_eq_zero.1 this.symm with h | h
   ·exact h
   ·have:=E.pos;omega
  subst hm0
  obtain rfl:news=[]:=List.eq_nil_of_length_eq_zero hm
  have key:∀ K:Act→World→Prop,(∀ a w,wpList P ops Q rest a w→K a w)→o.wp P a w K Q:=by
   intro K hK
   have hrun:(Builtin.append_ #[t,t] o.type #[v,.slice A 0 c]).run P w=.ok v w:=by
    rcases hown.2 with ⟨rfl,rfl⟩ | ⟨g,cap,cur,rfl,_,hg,hnc,hcm,hcs,_⟩
    ·cases A with
     | none=>simp [Builtin.append_,run_underlying E.und,sizeOf,typeInfo,hi,Builtin.lenOf,Builtin.firstCells]
     | some ad=>simp [Builtin.append_,run_underlying E.und,sizeOf,typeInfo,hi,Builtin.lenOf,Builtin.firstCells,loadCells,loadCellsFrom]
    ·cases A with
     | none=>simp [Builtin.append_,run_underlying E.und,sizeOf,typeInfo,hi,Builtin.lenOf,Builtin.firstCells,hnc,storeCells]
     | some ad=>simp [Builtin.append_,run_underlying E.und,sizeOf,typeInfo,hi,Builtin.lenOf,Builtin.firstCells,hnc,storeCells,loadCells,loadCellsFrom]
   unfold Oper.wp execOp
   simp only [ho,resolve,invoke,builtin,Sem.run_bind,Sem.run_pure,Result.andThen_ok,List.map_toArray,List.map_cons,List.map_nil,hs,hx,hrun]
   exact hK _ _ (h v w (by simpa using hown) ⟨World.grownBy.refl _ _,fun k hk=>(hown.lt k hk).1⟩ (fun u e' size' n' ys hu ha=>⟨hu,ha⟩) (.inl rfl))
  exact wpList_plain hgd key
 ·obtain ⟨b,off,rfl,_,hc⟩:=hr.2 (by omega)
  refine wpList_append_own_at w hgd s x t ho base e i z size bytes E.und hi hz hsz hby E.zs E.pos v n xs hs hown ⟨b,off,none⟩ m c news hx hr.1
   (fun j u hu=>by rw [Addr.add_lit];exact hc j u hu) h1 h64 h63 hbase ?_
  intro v' w' hown' hgrow _ hat
  refine h v' w' hown' ⟨hgrow,fun k hk=>(hown.lt k hk).1⟩ (fun u e' size' n' ys hu ha=>⟨hu.kept hgrow ?_,?_⟩) hat
  ·exact ha
  ·rcases hat with hat | hat
   ·unfold Apart;rw [hat];exact ha
   ·unfold Apart
    rw [hat]
    cases hub:u.ownBlock with
    | none=>exact .inl rfl
    | some k=>right;intro hk;injection hk with hk;have:=(hu.lt k hub).2;omega
theorem Grew.chg {base:Nat} {w w':World} {v:Value} (h:Grew base w w' v):Chg v.ownBlock.toList w w':=
 ⟨h.by_.os,h.by_.tape,h.by_.output,h.by_.size,fun k hk hx=>h.by_.block k hk fun e=>hx (by rw [← e];simp)⟩
theorem own_chg {w w':World} {base:Nat} {e:TypeId} {size n:Nat} {v:Value} {xs:List Value} {X:List Nat} (h:w.ownsRow base e size v n xs) (hc:Chg X w w') (hx:∀ k,v.ownBlock=some k→k ∉ X):w'.ownsRow base e size v n xs:=by
 refine ⟨h.1,?_⟩
 rcases h.2 with h' | ⟨g,cap,cur,rfl,hb,hg,hr⟩
 ·exact .inl h'
 ·have hl:=(h.lt g rfl).2
  exact .inr ⟨g,cap,cur,rfl,hb,(hc.block g hl (hx g rfl)).trans hg,hr⟩
theorem Ext.new1 (w:World) (o:Obj):Ext w (w.alloc o):=(Below.refl _ _).alloc (Nat.le_refl _) o
def RdX (w:World) (X:List Nat) (v:Value) (l:List UInt8):Prop:=
 ∃ A n c,v=.slice A n c∧n≤c∧c≤maxLen∧Rd w 1 A n (bytesV l)∧(0<n→∀ b o s,A=some ⟨b,o,s⟩→b ∉ X)
theorem RdX.nil {w:World} {X:List Nat}:RdX w X (.slice none 0 0) []:=⟨none,0,0,rfl,Nat.le_refl _,by unfold maxLen;omega,Rd.nil,fun h=>by omega⟩
theorem RdX.bytes {w:World} {X:List Nat} {v:Value} {l:List UInt8} (h:RdX w X v l):IsBytes w v l:=by
 obtain ⟨A,n,c,h0,h1,h2,h3,_⟩:=h
 exact ⟨A,n,c,h0,h1,h2,h3⟩
end Go.Proofs.YtigmdlchbjanoaaGreatDoor
namespace Go.Proofs.YtigmdlchbjanoaaGreatDoor
open Go Go.RowKit
theorem Ext.drawn (w:World) (n:Nat):Ext w (w.drewN n):=⟨rfl,rfl,rfl,Nat.le_refl _,fun _ _=>rfl⟩
theorem rd_newS (w:World) (size n:Nat) (cs:List Value) (e:TypeId) (h:cs.length=n*size):Rd (w.alloc (.cells cs.toArray e)) size (some ⟨w.heap.size,0,none⟩) n cs:=by
 have:=(Blk.newL w e cs).rd (n:=n) (size:=size) 0 (by omega)
 rwa [List.drop_zero,List.take_of_length_le (by omega)] at this
theorem conv_bytes {P:Program} (w:World) {src dst e:TypeId} {u:TypeDesc} (hs:P.underlying src=some u) (hd:P.underlying dst=some (.slice e)) (he:P.underlying e=some (.int .u8)) (l:List UInt8) (hl:l.length≤1000000) :
  ∃ cap w1,(convert src dst (.string ⟨l.toArray⟩)).run P w=.ok (.slice (some ⟨w.heap.size,0,none⟩) l.length cap) w1∧Rd w1 1 (some ⟨w.heap.size,0,none⟩) l.length (bytesV l)∧Ext w w1∧l.length≤cap∧cap≤maxLen:=by
 have hrun:=Lib.run_convert_string_bytes (P:=P) w src dst e ⟨l.toArray⟩ hs hd he
 have hlt:w.heap.size<(Lib.bytesWorld w e ⟨l.toArray⟩).heap.size:=by
  have h:=Lib.bytesWorld_at_new w e ⟨l.toArray⟩
  exact (Array.getElem?_eq_some_iff.1 h).1
 refine ⟨_,_,hrun,⟨by simp [bytesV],fun _=>⟨w.heap.size,0,rfl,hlt,fun j x hx=>?_⟩⟩,⟨rfl,rfl,rfl,Nat.le_of_lt hlt,fun k hk=>Lib.bytesWorld_at_old w e _ k hk⟩,grownCap_ge w _ _ _,grownCap_le_maxLen w _ _ _ (by show l.length≤_;unfold maxLen;omega)⟩
 have hj:j<l.length:=by
  have:=(List.getElem?_eq_some_iff.1 hx).1
  simpa [bytesV] using this
 rw [Nat.zero_add]
 have hc:(Lib.bytesWorld w e ⟨l.toArray⟩).cell? ⟨w.heap.size,j,none⟩=(Lib.bytesCells w e ⟨l.toArray⟩)[j]?:=by
  simp [World.cell?,Lib.bytesWorld_at_new]
 rw [hc,← hx]
 unfold Lib.bytesCells
 rw [Array.getElem?_append_left (by simpa using hj)]
 simp [bytesV,U8,hj]
end Go.Proofs.YtigmdlchbjanoaaGreatDoor
namespace Go.Proofs.YtigmdlchbjanoaaGreatDoor
open Go Go.RowKit Go.ChangeShapes
structure Sent (W:World) (tp:TypeId) (g:Nat) (a:Addr):Prop where
 var:W.cell? ⟨g,0,none⟩=some (.iface tp (.pointer (some a)))
 blk:∃ c t,W.heap[a.block]?=some (.cells c t (0,0))
theorem Sent.lt {W:World} {tp:TypeId} {g:Nat} {a:Addr} (h:Sent W tp g a):g<W.heap.size∧a.block<W.heap.size:=by
 constructor
 ·rcases Nat.lt_or_ge g W.heap.size with h' | h'
  ·exact h'
  ·have:=h.var;simp [World.cell?,Array.getElem?_eq_none h'] at this
 ·obtain ⟨c,t,h⟩:=h.blk
  rcases Nat.lt_or_ge a.block W.heap.size with h' | h'
  ·exact h'
  ·rw [Array.getElem?_eq_none h'] at h;cases h
theorem Sent.keep {W W':World} {tp:TypeId} {g:Nat} {a:Addr} (h:Sent W tp g a) {B:Nat} (hb:Below B W W') (hB:W.heap.size≤B):Sent W' tp g a:=by
 have hl:=h.lt
 refine ⟨(hb.cell (p:=⟨g,0,none⟩) (by simp;omega)).trans h.var,?_⟩
 obtain ⟨c,t,hc⟩:=h.blk
 exact ⟨c,t,(hb.block _ (by omega)).trans hc⟩
theorem laid_sents' {P:Program} {W:World} {nm:String} {ti tp te ts:TypeId} {ms:Array (String × TypeId)} {f:Field}
  (hi:P.underlying ti=some (.interface ms)) (hrow:∀ u,P.typeName? 3 u=some nm→u=tp)
  (hp:P.underlying tp=some (.pointer te)) (he:P.underlying te=some (.struct #[f])) (hft:f.type=ts) (hfo:f.offset=0) (hs:P.underlying ts=some .string) (hc:P.cellsOf te=1) (hcs:P.cellsOf ts=1) :
  ∀ (L:List (String × List UInt8)) (gs:List Nat) (ps:List MemPlace),DataW.LaidVars P W (L.map fun x=>(x.1,.iface nm (.ptr (.agg [.lit (.string x.2)])))) ps →
  L.map (fun x=>P.globalNamed x.1)=gs.map some→(∀ g ∈ gs,(P.globals[g]?).map (·.type)=some ti) →
  (∀ b off,MemPlace.cell b off ∈ ps→(∃ c t,W.heap[b]?=some (.cells c t (0,0)))∧∀ u v,W.cell? ⟨b,off,none⟩=some (.iface u v)→Value.okWide P W .any 0 u v) →
  ∃ ads:List Addr,ads.length=gs.length∧(ads.map fun a=>MemPlace.cell a.block a.off).Sublist ps∧∀ (i g:Nat) (a:Addr),gs[i]?=some g→ads[i]?=some a→Sent W tp g a:=by
 intro L
 induction L with
 | nil =>
  intro gs ps _ hg _ _
  cases gs with
  | nil=>exact ⟨[],rfl,by simp,by simp⟩
  | cons _ _=>simp at hg
 | cons x L ih =>
  intro gs ps h hg ht hr
  obtain ⟨g',t',cs,fu,p,q,hg',ht',hv,hd,hq,rfl⟩:=h
  cases gs with
  | nil=>simp at hg
  | cons g gs =>
   simp only [List.map_cons,List.cons.injEq] at hg
   obtain rfl:=Option.some.inj (hg.1.symm.trans hg')
   obtain rfl:=Option.some.inj ((ht g (by simp)).symm.trans ht')
   obtain ⟨l⟩:=cs
   have ok0:∀ u v,l=[.iface u v]→Value.okWide P W .any 0 u v:=fun u v e=>by
    subst e
    exact (hr g 0 (by simp [MemPlace.row])).2 u v (by simpa using World.var?_cell hg' hv 0)
   obtain ⟨a,s,rfl,hc0,hs0,hz0,rfl⟩:=errorString_of_trod hi hrow hp he hft hfo hs hc hcs hd ok0
   obtain ⟨ads,h1,h2,h3⟩:=ih gs q hq hg.2 (fun g hgm=>ht g (by simp [hgm])) (fun b off hm=>hr b off (List.mem_append_right _ hm))
   refine ⟨a :: ads,by simp [h1],?_,?_⟩
   ·have:((a :: ads).map fun a=>MemPlace.cell a.block a.off)=MemPlace.row a 1 ++ (ads.map fun a=>MemPlace.cell a.block a.off):=by simp [MemPlace.row]
    rw [this]
    exact (List.sublist_append_right _ _).append h2
   ·intro i g1 a1 e1 e2
    cases i with
    | zero =>
     simp only [List.getElem?_cons_zero,Option.some.injEq] at e1 e2
     subst e1 e2
     exact ⟨by simpa using World.var?_cell hg' hv 0,(hr a.block a.off (by simp [MemPlace.row])).1⟩
    | succ i =>
     simp only [List.getElem?_cons_succ] at e1 e2
     exact h3 i g1 a1 e1 e2
theorem laid_sents {P:Program} {W:World} {nm:String} {ti tp te ts:TypeId} {ms:Array (String × TypeId)} {f:Field}
  (hi:P.underlying ti=some (.interface ms)) (hrow:∀ u,P.typeName? 3 u=some nm→u=tp)
  (hp:P.underlying tp=some (.pointer te)) (he:P.underlying te=some (.struct #[f])) (hft:f.type=ts) (hfo:f.offset=0) (hs:P.underlying ts=some .string) (hc:P.cellsOf te=1) (hcs:P.cellsOf ts=1)
  (L:List (String × List UInt8)) (gs:List Nat) (h:laidMet P (L.map fun x=>(x.1,.iface nm (.ptr (.agg [.lit (.string x.2)])))) W)
  (hg:L.map (fun x=>P.globalNamed x.1)=gs.map some) (ht:∀ g ∈ gs,(P.globals[g]?).map (·.type)=some ti) :
  ∃ ads:List Addr,ads.length=gs.length∧ads.Nodup∧∀ (i g:Nat) (a:Addr),gs[i]?=some g→ads[i]?=some a→Sent W tp g a:=by
 obtain ⟨ps,hv,hnd,hr⟩:=h
 obtain ⟨ads,h1,h2,h3⟩:=laid_sents' hi hrow hp he hft hfo hs hc hcs L gs ps hv hg ht hr
 refine ⟨ads,h1,?_,h3⟩
 have:=hnd.sublist h2
 exact List.Pairwise.of_map _ (fun a b hab e=>hab (by rw [e])) this
end Go.Proofs.YtigmdlchbjanoaaGreatDoor
namespace Go.Proofs.YtigmdlchbjanoaaGreatDoor
open Go Go.RowKit
end Go.Proofs.YtigmdlchbjanoaaGreatDoor
namespace Go.Proofs.YtigmdlchbjanoaaGreatDoor
open Go.RowKit
def looksOf (ops:List Oper) (o:Oper):List Tmp:=
 (o.op.operands.toList.filterMap fun | .tmp t=>some t | _=>none) ++
 (match o.guard with
  | some (g,_)=>((ops[g]?).bind (·.dst)).toList
  | none=>[])
def writerOf (ops:List Oper) (t:Tmp):Option Nat:=ops.findIdx? fun o=>o.dst == some t
def hangsOn (o:Oper) (j:Nat):Bool:=o.after.any fun e=>e.on == j && Region.binds .any e
def dagOk (N:Nat) (ops:List Oper):Bool:=
 (List.range ops.length).all fun i =>
  match ops[i]? with
  | none=>false
  | some o =>
   (o.after.all fun e=>!Region.binds .any e || decide (e.on<i)) &&
   (match o.dst with
    | some d=>writerOf ops d == some i && decide (d<N)
    | none=>true) &&
   ((looksOf ops o).all fun t=>decide (t<N) &&
    match writerOf ops t with
    | none=>true
    | some j=>(decide (j<i) && hangsOn o j) || (decide (i<j) && ((ops[j]?).map (hangsOn · i)).getD false))
def SrcOf (ops:List Oper) (Φ:Nat→Value→World→Prop) (a0:Act) (i:Nat) (t:Tmp) (v:Value) (w:World):Prop:=
 match writerOf ops t with
 | none=>a0.tmps[t]?=some v
 | some j=>if j<i then Φ j v w else a0.tmps[t]?=some v
def OneOp (P:Program) (ops:List Oper) (Q:Exit→Act→World→Prop) (E:World→World→Prop) (w0:World) (Φ:Nat→Value→World→Prop) (a0:Act) (i:Nat) (o:Oper):Prop:=
 ∀ (a:Act) (w:World),E w0 w→a.tmps.size=a0.tmps.size→a.defers=a0.defers →
  (∀ t ∈ looksOf ops o,∃ v,a.tmps[t]?=some v∧SrcOf ops Φ a0 i t v w) →
  wpList P ops.toArray (Exit.then (fun a' w'=>∃ v,a'=a.put o.dst v∧Φ i v w' ∧ E w w') Q) [o] a w
def allOps (P:Program) (ops:List Oper) (Q:Exit→Act→World→Prop) (E:World→World→Prop) (w0:World) (Φ:Nat→Value→World→Prop) (a0:Act):Nat→List Oper→Prop
 | _,[]=>True
 | i,o :: r=>OneOp P ops Q E w0 Φ a0 i o∧allOps P ops Q E w0 Φ a0 (i+1) r
theorem allOps_get {P:Program} {ops:List Oper} {Q:Exit→Act→World→Prop} {E:World→World→Prop} {w0:World} {Φ:Nat→Value→World→Prop} {a0:Act} :
  ∀ (l:List Oper) (k:Nat),allOps P ops Q E w0 Φ a0 k l→∀ j o,l[j]?=some o→OneOp P ops Q E w0 Φ a0 (k+j) o:=by
 intro l
 induction l with
 | nil=>intro k _ j o h;simp at h
 | cons x l ih =>
  intro k h j o hj
  cases j with
  | zero=>simp at hj;subst hj;exact h.1
  | succ j=>have:=ih (k+1) h.2 j o (by simpa using hj);rwa [show k+1+j=k+(j+1) by omega] at this
structure DagInv (ops:List Oper) (E:World→World→Prop) (w0:World) (Φ:Nat→Value→World→Prop) (a0:Act) (L:Array Bool) (a:Act) (w:World):Prop where
 ext:E w0 w
 size:a.tmps.size=a0.tmps.size
 defers:a.defers=a0.defers
 len:L.size=ops.length
 done:∀ (i:Nat) (o:Oper),ops[i]?=some o→L[i]?=some true→∃ v,Φ i v w∧∀ d,o.dst=some d→d<a0.tmps.size→a.tmps[d]?=some v
 rest:∀ t:Tmp,(∀ (i:Nat) (o:Oper),ops[i]?=some o→L[i]?=some true→o.dst ≠ some t)→a.tmps[t]?=a0.tmps[t]?
 shut:∀ (i:Nat) (o:Oper),ops[i]?=some o→L[i]?=some true→∀ j,hangsOn o j=true→L[j]?=some true
theorem writerOf_some {ops:List Oper} {t:Tmp} {j:Nat} (h:writerOf ops t=some j):∃ o,ops[j]?=some o∧o.dst=some t:=by
 unfold writerOf at h
 obtain ⟨hj,hp,_⟩:=List.findIdx?_eq_some_iff_getElem.1 h
 exact ⟨ops[j],List.getElem?_eq_getElem hj,by simpa using hp⟩
theorem writerOf_none {ops:List Oper} {t:Tmp} (h:writerOf ops t=none):∀ (j:Nat) (o:Oper),ops[j]?=some o→o.dst ≠ some t:=by
 intro j o hj hd
 unfold writerOf at h
 rw [List.findIdx?_eq_none_iff] at h
 have:=h o (List.mem_of_getElem? hj)
 simp [hd] at this
section
variable {P:Program} {ops:List Oper} {Q:Exit→Act→World→Prop} {E:World→World→Prop} {w0:World} {Φ:Nat→Value→World→Prop} {a0:Act} {N:Nat}
theorem dagOk_at (h:dagOk N ops=true) {i:Nat} {o:Oper} (hi:ops[i]?=some o) :
  (∀ j,hangsOn o j=true→j<i)∧(∀ d,o.dst=some d→writerOf ops d=some i∧d<N) ∧
  (∀ t ∈ looksOf ops o,t<N∧∀ j,writerOf ops t=some j→(j<i∧hangsOn o j=true)∨(i<j∧∀ x,ops[j]?=some x→hangsOn x i=true)):=by
 have hlt:i<ops.length:=(List.getElem?_eq_some_iff.1 hi).1
 have h1:=List.all_eq_true.1 h i (List.mem_range.2 hlt)
 rw [hi] at h1
 simp only [Bool.and_eq_true] at h1
 obtain ⟨⟨h1,h2⟩,h3⟩:=h1
 refine ⟨fun j hj=>?_,fun d hd=>?_,fun t ht=>?_⟩
 ·unfold hangsOn at hj
  rw [Array.any_eq_true] at hj
  obtain ⟨k,hk,hkj⟩:=hj
  rw [Array.all_eq_true] at h1
  have:=h1 k hk
  simp only [Bool.and_eq_true,beq_iff_eq] at hkj
  simp [hkj.2] at this
  omega
 ·rw [hd] at h2;simpa using h2
 ·have:=List.all_eq_true.1 h3 t ht
  rw [Bool.and_eq_true,decide_eq_true_eq] at this
  refine ⟨this.1,fun j hj=>?_⟩
  replace this:=this.2
  rw [hj] at this
  simp only [Bool.or_eq_true,Bool.and_eq_true,decide_eq_true_eq] at this
  rcases this with h | ⟨h,h'⟩
  ·exact .inl h
  ·refine .inr ⟨h,fun x hx=>?_⟩
   rw [hx] at h';simpa using h'
theorem dag_ready_nil (hok:dagOk N ops=true) {L:Array Bool} (hL:L.size=ops.length) (h:Region.ready .any ops.toArray L=[]):∀ i,i<ops.length→L[i]?=some true:=by
 intro i
 induction i using Nat.strongRecOn with
 | _ i ih =>
  intro hi
  rcases hl:L[i]? with _ | b
  ·have:=Array.getElem?_eq_none_iff.1 hl;omega
  ·cases b with
   | true=>rfl
   | false =>
    exfalso
    have hmem:i ∈ Region.ready .any ops.toArray L:=by
     unfold Region.ready
     rw [List.mem_filter]
     refine ⟨by simp [hi],?_⟩
     have ho:ops.toArray[i]?=some ops[i]:=by simp [hi]
     have hl':L.getD i true=false:=by simp [hl]
     rw [ho,hl']
     simp only [Bool.not_false,Bool.true_and,Option.map_some,Option.getD_some]
     rw [Array.all_eq_true]
     intro k hk
     by_cases hb:Region.binds .any (ops[i].after[k])=true
     ·have hlt:=(dagOk_at hok (i:=i) (o:=ops[i]) (by simp [hi])).1 (ops[i].after[k]).on (by
       unfold hangsOn;rw [Array.any_eq_true];exact ⟨k,hk,by simp [hb]⟩)
      have:=ih _ hlt (by omega)
      simp [this]
     ·simp [hb]
    rw [h] at hmem
    cases hmem
theorem dag_step (hok:dagOk N ops=true) (hst:∀ i v w w',Φ i v w→E w w' → Φ i v w') (htr:∀ w w',E w0 w→E w w' → E w0 w')
  {L:Array Bool} {a:Act} {w:World} (hI:DagInv ops E w0 Φ a0 L a w) {i:Nat} {o:Oper} (ho:ops[i]?=some o)
  (hshut:∀ j,hangsOn o j=true→L[j]?=some true) {v:Value} {w':World} (hv:Φ i v w') (hE:E w w') :
  DagInv ops E w0 Φ a0 (L.setIfInBounds i true) (a.put o.dst v) w':=by
 have hlt:i<ops.length:=(List.getElem?_eq_some_iff.1 ho).1
 have hput:∀ t,(a.put o.dst v).tmps[t]?=if o.dst=some t∧t<a.tmps.size then some v else a.tmps[t]?:=by
  intro t
  cases hd:o.dst with
  | none=>simp [Act.put]
  | some d =>
   simp only [Act.put,Array.getElem?_setIfInBounds,Option.some.injEq]
   by_cases hdt:d=t
   ·subst hdt
    by_cases hs:d<a.tmps.size
    ·simp [hs]
    ·simp [hs]
   ·simp [hdt]
 have hLi:∀ j,(L.setIfInBounds i true)[j]?=some true↔(j=i∨L[j]?=some true):=by
  intro j
  rw [Array.getElem?_setIfInBounds]
  by_cases hij:i=j
  ·subst hij
   have:i<L.size:=by rw [hI.len];exact hlt
   simp [this]
  ·simp [hij,Ne.symm hij]
 refine ⟨htr _ _ hI.ext hE,?_,?_,by simp [hI.len],?_,?_,?_⟩
 ·cases hd:o.dst <;> simp [Act.put,hI.size]
 ·cases hd:o.dst <;> simp [Act.put,hI.defers]
 ·intro j x hx hj
  rcases (hLi j).1 hj with rfl | hj
  ·rw [ho] at hx
   obtain rfl:=Option.some.inj hx
   refine ⟨v,hv,fun d hd hds=>?_⟩
   rw [hput,if_pos ⟨hd,by rw [hI.size];exact hds⟩]
  ·obtain ⟨u,hu,hs⟩:=hI.done j x hx hj
   by_cases hji:j=i
   ·subst hji
    rw [ho] at hx
    obtain rfl:=Option.some.inj hx
    refine ⟨v,hv,fun d hd hds=>?_⟩
    rw [hput,if_pos ⟨hd,by rw [hI.size];exact hds⟩]
   ·refine ⟨u,hst _ _ _ _ hu hE,fun d hd hds=>?_⟩
    rw [hput,if_neg,hs d hd hds]
    rintro ⟨hod,_⟩
    have h1:=((dagOk_at hok ho).2.1 d hod).1
    have h2:=((dagOk_at hok hx).2.1 d hd).1
    rw [h1] at h2
    exact hji (Option.some.inj h2).symm
 ·intro t ht
  rw [hput,if_neg,hI.rest t fun j x hx hj=>ht j x hx ((hLi j).2 (.inr hj))]
  rintro ⟨hod,_⟩
  exact ht i o ho ((hLi i).2 (.inl rfl)) hod
 ·intro j x hx hj k hk
  rw [hLi]
  rcases (hLi j).1 hj with rfl | hj
  ·rw [ho] at hx
   obtain rfl:=Option.some.inj hx
   exact .inr (hshut k hk)
  ·exact .inr (hI.shut j x hx hj k hk)
theorem dag_looks (hok:dagOk N ops=true) (hN:a0.tmps.size=N) {L:Array Bool} {a:Act} {w:World} (hI:DagInv ops E w0 Φ a0 L a w) {i:Nat} {o:Oper} (ho:ops[i]?=some o)
  (hnot:L[i]?=some false) (hshut:∀ j,hangsOn o j=true→L[j]?=some true) :
  ∀ t ∈ looksOf ops o,∃ v,a.tmps[t]?=some v∧SrcOf ops Φ a0 i t v w:=by
 intro t ht
 have hts:t<a0.tmps.size:=by rw [hN];exact ((dagOk_at hok ho).2.2 t ht).1
 unfold SrcOf
 cases hw:writerOf ops t with
 | none =>
  have h:=hI.rest t fun j x hx _=>writerOf_none hw j x hx
  rw [h]
  exact ⟨_,Array.getElem?_eq_getElem hts,Array.getElem?_eq_getElem hts⟩
 | some j =>
  obtain ⟨x,hx,hd⟩:=writerOf_some hw
  rcases ((dagOk_at hok ho).2.2 t ht).2 j hw with ⟨hlt,hh⟩ | ⟨hlt,hh⟩
  ·simp only [hlt,if_true]
   obtain ⟨v,hv,hs⟩:=hI.done j x hx (hshut j hh)
   exact ⟨v,hs t hd hts,hv⟩
  ·simp only [show ¬ j<i by omega,if_false]
   have h:=hI.rest t fun k y hy hk hkt=>by
    have hk2:=((dagOk_at hok hy).2.1 t hkt).1
    rw [hw] at hk2
    obtain rfl:=Option.some.inj hk2
    have:=hI.shut _ _ hx hk i (hh x hx)
    rw [hnot] at this
    cases this
   rw [h]
   exact ⟨_,Array.getElem?_eq_getElem hts,Array.getElem?_eq_getElem hts⟩
theorem dag_any (hok:dagOk N ops=true) (hN:a0.tmps.size=N) (hst:∀ i v w w',Φ i v w→E w w' → Φ i v w') (htr:∀ w w',E w0 w→E w w' → E w0 w')
  (hone:allOps P ops Q E w0 Φ a0 0 ops)
  (hend:∀ a w,E w0 w→a.tmps.size=a0.tmps.size→a.defers=a0.defers→(∀ i o,ops[i]?=some o→∃ v,Φ i v w∧∀ d,o.dst=some d→a.tmps[d]?=some v) →
   (∀ t,writerOf ops t=none→a.tmps[t]?=a0.tmps[t]?)→Q .normal a w) :
  ∀ (n:Nat) (L:Array Bool) (a:Act) (w:World),DagInv ops E w0 Φ a0 L a w→(L.toList.filter (· == false)).length≤n→wpAny P .any ops.toArray Q n L a w:=by
 have fin:∀ (L:Array Bool) (a:Act) (w:World),DagInv ops E w0 Φ a0 L a w→Region.ready .any ops.toArray L=[]→Q .normal a w:=by
  intro L a w hI hr
  have hall:=dag_ready_nil hok hI.len hr
  refine hend a w hI.ext hI.size hI.defers (fun i o ho=>by
   obtain ⟨v,hv,hd⟩:=hI.done i o ho (hall i (List.getElem?_eq_some_iff.1 ho).1)
   exact ⟨v,hv,fun d hod=>hd d hod (by rw [hN];exact ((dagOk_at hok ho).2.1 d hod).2)⟩) fun t ht=>hI.rest t fun i o ho _=>writerOf_none ht i o ho
 intro n
 induction n with
 | zero =>
  intro L a w hI hn
  have hr:Region.ready .any ops.toArray L=[]:=by
   cases hx:Region.ready .any ops.toArray L with
   | nil=>rfl
   | cons x xs =>
    exfalso
    have hm:x ∈ Region.ready .any ops.toArray L:=by rw [hx];exact List.mem_cons_self
    unfold Region.ready at hm
    rw [List.mem_filter] at hm
    have hxl:x<L.size:=by rw [hI.len];simpa using hm.1
    have hf:L[x]=false:=by
     have:=hm.2
     simp [hxl] at this
     exact this.1
    have:false ∈ L.toList.filter (· == false):=by
     rw [List.mem_filter]
     exact ⟨by rw [← hf];simp,rfl⟩
    have:=List.length_pos_of_mem this
    omega
  exact ⟨hr,fin L a w hI hr⟩
 | succ n ih =>
  intro L a w hI hn
  refine ⟨fin L a w hI,fun i hi=>?_⟩
  have hi':=hi
  unfold Region.ready at hi'
  rw [List.mem_filter] at hi'
  have hlt:i<ops.length:=by simpa using hi'.1
  have hil:i<L.size:=by rw [hI.len];exact hlt
  have ho:ops[i]?=some ops[i]:=List.getElem?_eq_getElem hlt
  have h2:=hi'.2
  rw [show ops.toArray[i]?=some ops[i] by simp [hlt]] at h2
  simp only [Option.map_some,Option.getD_some,Bool.and_eq_true] at h2
  have hf:L[i]?=some false:=by
   have:=h2.1
   simp [hil] at this
   simp [hil,this]
  have hshut:∀ j,hangsOn ops[i] j=true→L[j]?=some true:=by
   intro j hj
   unfold hangsOn at hj
   rw [Array.any_eq_true] at hj
   obtain ⟨k,hk,hkj⟩:=hj
   have:=Array.all_eq_true.1 h2.2 k hk
   simp only [Bool.and_eq_true,beq_iff_eq] at hkj
   rw [hkj.2] at this
   simp only [Bool.not_true,Bool.false_or] at this
   rw [hkj.1] at this
   have hjl:j<L.size:=by
    have:=(dagOk_at hok ho).1 j (by unfold hangsOn;rw [Array.any_eq_true];exact ⟨k,hk,by simp [hkj]⟩)
    omega
   simpa [hjl] using this
  have hcount:((L.setIfInBounds i true).toList.filter (· == false)).length≤n:=by
   have hc:∀ (l:List Bool) (k:Nat),l[k]?=some false→((l.set k true).filter (· == false)).length+1=(l.filter (· == false)).length:=by
    intro l
    induction l with
    | nil=>intro k h;simp at h
    | cons b l ih =>
     intro k h
     cases k with
     | zero=>simp at h;subst h;simp
     | succ k =>
      have:=ih k (by simpa using h)
      cases b <;> simp at this ⊢ <;> omega
   have h3:=hc L.toList i (by simpa using hf)
   rw [Array.toList_setIfInBounds]
   omega
  have h1:=allOps_get ops 0 hone i ops[i] ho
  rw [Nat.zero_add] at h1
  have h4:=h1 a w hI.ext hI.size hI.defers (dag_looks hok hN hI ho hf hshut)
  have hK:∀ v w',Φ i v w' → E w w' → wpAny P .any ops.toArray Q n (L.setIfInBounds i true) (a.put ops[i].dst v) w':=
   fun v w' hv hE=>ih _ _ _ (dag_step hok hst htr hI ho hshut hv hE) hcount
  unfold wpOp
  rw [show ops.toArray[i]?=some ops[i] by simp [hlt]]
  simp only [wpList] at h4
  dsimp only
  have key:∀ K':Act→World→Prop,(∀ a' w',(∃ v,a'=a.put ops[i].dst v∧Φ i v w' ∧ E w w')→K' a' w') →
    Oper.wp P ops[i] a w (fun a' w'=>∃ v,a'=a.put ops[i].dst v∧Φ i v w' ∧ E w w') (Exit.then (fun a' w'=>∃ v,a'=a.put ops[i].dst v∧Φ i v w' ∧ E w w') Q)→Oper.wp P ops[i] a w K' Q:=by
   intro K' hK' h
   unfold Oper.wp at *
   generalize (execOp a.eval ops[i]).run P w=r at *
   cases r with
   | ok x w' =>
    cases x <;> simp only [Oper.upon] at h ⊢ <;>
     first
      | exact hK' _ _ h
      | exact Calls.mono h (fun e w'' he=>by
        cases e with
        | returned v=>exact hK' _ _ he
        | panicked ch=>exact he
        | outgrown=>obtain ⟨x,y,hq⟩:=he;exact ⟨x,y,hq⟩)
      | exact Rows.mono h (fun _ _ he=>hK' _ _ he)
   | halt x w'=>cases x <;> simp only [Oper.upon] at h ⊢ <;> exact h
  split
  ·rename_i hw
   rw [if_pos hw] at h4
   rcases h4 with h4 | ⟨h4,x,y,hq⟩
   ·exact .inl (key _ (fun a' w' ⟨v,e,hv,hE⟩=>by rw [e];exact hK v w' hv hE) h4)
   ·exact .inr ⟨h4,x,y,hq⟩
  ·rename_i hw
   rw [if_neg hw] at h4
   obtain ⟨v,e,hv,hE⟩:=h4
   rw [e]
   exact hK v w hv hE
theorem wp_region_dag {id:Nat} (hm:P.follows .mixedOrders=true) (N:Nat) (hN:a0.tmps.size=N) (hok:dagOk N ops=true) {w:World}
  (hst:∀ i v w w',Φ i v w→E w w' → Φ i v w') (hrf:E w0 { w with drawn:=w.drawn+1 }) (htr:∀ w w',E w0 w→E w w' → E w0 w')
  (hone:allOps P ops Q E w0 Φ a0 0 ops)
  (hend:∀ a w,E w0 w→a.tmps.size=a0.tmps.size→a.defers=a0.defers→(∀ i o,ops[i]?=some o→∃ v,Φ i v w∧∀ d,o.dst=some d→a.tmps[d]?=some v) →
   (∀ t,writerOf ops t=none→a.tmps[t]?=a0.tmps[t]?)→Q .normal a w) :
  (Code.region id ops.toArray true).wp P Q a0 w:=by
 refine wp_region_any hm ?_
 refine dag_any hok hN hst htr hone hend _ _ _ _ ⟨hrf,rfl,rfl,by simp,?_,?_,?_⟩ ?_
 ·intro i o ho h;simp [Array.getElem?_replicate] at h
 ·intro t _;rfl
 ·intro i o ho h;simp [Array.getElem?_replicate] at h
 ·simp
end
end Go.Proofs.YtigmdlchbjanoaaGreatDoor
namespace Go.Proofs.YtigmdlchbjanoaaGreatDoor
open Go
theorem act_fold {a:Act}:∀ (L:List (Tmp × Value)) (a1:Act),a.tmps.size=a1.tmps.size→a.defers=a1.defers→(∀ p ∈ L,a.tmps[p.1]?=some p.2)→(∀ t,t ∉ L.map (·.1)→a.tmps[t]?=a1.tmps[t]?) →
  a=L.foldl (fun b p=>b.put (some p.1) p.2) a1:=by
 intro L
 induction L with
 | nil =>
  intro a1 hs hd _ hr
  obtain ⟨t,d⟩:=a
  obtain ⟨t1,d1⟩:=a1
  simp only at hs hd hr
  subst hd
  have:t=t1:=by
   apply Array.ext_getElem?
   intro i
   exact hr i (by simp)
  rw [this];rfl
 | cons p L ih =>
  intro a1 hs hd hp hr
  refine ih _ (by simpa [Act.put] using hs) hd (fun q hq=>hp q (List.mem_cons_of_mem _ hq)) (fun t ht=>?_)
  have hpp:=hp p List.mem_cons_self
  by_cases h:t=p.1
  ·subst h
   rw [hpp]
   have hlt:=(Array.getElem?_eq_some_iff.1 hpp).1
   simp only [Act.put,Array.getElem?_setIfInBounds]
   simp;omega
  ·rw [hr t (by simp [h] at ht ⊢;exact ht)]
   simp only [Act.put,Array.getElem?_setIfInBounds]
   rw [if_neg (fun e=>h e.symm)]
theorem writerOf_not {ops:List Oper} {t:Tmp} (h:t ∉ ops.filterMap (·.dst)):writerOf ops t=none:=by
 unfold writerOf
 rw [List.findIdx?_eq_none_iff]
 intro o ho
 cases hd:o.dst with
 | none=>rfl
 | some d =>
  have:d ≠ t:=fun e=>h (List.mem_filterMap.2 ⟨o,ho,by rw [hd,e]⟩)
  simpa using this
theorem act_of {ops:List Oper} {a a0:Act} (L:List (Tmp × Value)) (hL:L.map (·.1)=ops.filterMap (·.dst)) (hs:a.tmps.size=a0.tmps.size) (hd:a.defers=a0.defers) (hp:∀ p ∈ L,a.tmps[p.1]?=some p.2)
  (hr:∀ t,writerOf ops t=none→a.tmps[t]?=a0.tmps[t]?):a=L.foldl (fun b p=>b.put (some p.1) p.2) a0:=
 act_fold L a0 hs hd hp fun t ht=>hr t (writerOf_not (by rw [← hL];exact ht))
end Go.Proofs.YtigmdlchbjanoaaGreatDoor
namespace Go.Proofs.YtigmdlchbjanoaaGreatDoor
open Go.RowKit
def OneOpS (P:Program) (ops:List Oper) (Q:Exit→Act→World→Prop) (E F:World→World→Prop) (z:Nat) (w0:World) (Φ:Nat→Value→World→Prop) (a0:Act) (i:Nat) (o:Oper):Prop:=
 ∀ (a:Act) (w:World),E w0 w→((i=z∨(ops[z]?).any (hangsOn · i)=true)→F w0 w)→a.tmps.size=a0.tmps.size→a.defers=a0.defers →
  (∀ t ∈ looksOf ops o,∃ v,a.tmps[t]?=some v∧SrcOf ops Φ a0 i t v w) →
  wpList P ops.toArray (Exit.then (fun a' w'=>∃ v,a'=a.put o.dst v∧Φ i v w' ∧ (if i=z then E w w' else F w w')) Q) [o] a w
def allOpsS (P:Program) (ops:List Oper) (Q:Exit→Act→World→Prop) (E F:World→World→Prop) (z:Nat) (w0:World) (Φ:Nat→Value→World→Prop) (a0:Act):Nat→List Oper→Prop
 | _,[]=>True
 | i,o :: r=>OneOpS P ops Q E F z w0 Φ a0 i o∧allOpsS P ops Q E F z w0 Φ a0 (i+1) r
theorem allOpsS_get {P:Program} {ops:List Oper} {Q:Exit→Act→World→Prop} {E F:World→World→Prop} {z:Nat} {w0:World} {Φ:Nat→Value→World→Prop} {a0:Act} :
  ∀ (l:List Oper) (k:Nat),allOpsS P ops Q E F z w0 Φ a0 k l→∀ j o,l[j]?=some o→OneOpS P ops Q E F z w0 Φ a0 (k+j) o:=by
 intro l
 induction l with
 | nil=>intro k _ j o h;simp at h
 | cons x l ih =>
  intro k h j o hj
  cases j with
  | zero=>simp at hj;subst hj;exact h.1
  | succ j=>have:=ih (k+1) h.2 j o (by simpa using hj);rwa [show k+1+j=k+(j+1) by omega] at this
structure DagInvS (ops:List Oper) (E F:World→World→Prop) (z:Nat) (w0:World) (Φ:Nat→Value→World→Prop) (a0:Act) (L:Array Bool) (a:Act) (w:World):Prop where
 inv:DagInv ops E w0 Φ a0 L a w
 fine:L[z]?=some false→F w0 w
def lateOk (ops:List Oper) (z:Nat) (late:List Nat):Bool:=late.all fun i=>((ops[i]?).map fun o=>hangsOn o z || late.any fun j=>hangsOn o j).getD true
section
variable {P:Program} {ops:List Oper} {Q:Exit→Act→World→Prop} {E F:World→World→Prop} {z:Nat} {w0:World} {Φ:Nat→Value→World→Prop} {a0:Act} {N:Nat}
theorem dag_stepS (hok:dagOk N ops=true)
  {L:Array Bool} {a:Act} {w:World} (hI:DagInv ops E w0 Φ a0 L a w) {i:Nat} {o:Oper} (ho:ops[i]?=some o)
  (hshut:∀ j,hangsOn o j=true→L[j]?=some true) {v:Value} {w':World} (hv:Φ i v w') (hst:∀ j u,j ≠ i→L[j]?=some true→Φ j u w→Φ j u w') (htr:E w0 w') :
  DagInv ops E w0 Φ a0 (L.setIfInBounds i true) (a.put o.dst v) w':=by
 have hlt:i<ops.length:=(List.getElem?_eq_some_iff.1 ho).1
 have hput:∀ t,(a.put o.dst v).tmps[t]?=if o.dst=some t∧t<a.tmps.size then some v else a.tmps[t]?:=by
  intro t
  cases hd:o.dst with
  | none=>simp [Act.put]
  | some d =>
   simp only [Act.put,Array.getElem?_setIfInBounds,Option.some.injEq]
   by_cases hdt:d=t
   ·subst hdt
    by_cases hs:d<a.tmps.size
    ·simp [hs]
    ·simp [hs]
   ·simp [hdt]
 have hLi:∀ j,(L.setIfInBounds i true)[j]?=some true↔(j=i∨L[j]?=some true):=by
  intro j
  rw [Array.getElem?_setIfInBounds]
  by_cases hij:i=j
  ·subst hij
   have:i<L.size:=by rw [hI.len];exact hlt
   simp [this]
  ·simp [hij,Ne.symm hij]
 refine ⟨htr,?_,?_,by simp [hI.len],?_,?_,?_⟩
 ·cases hd:o.dst <;> simp [Act.put,hI.size]
 ·cases hd:o.dst <;> simp [Act.put,hI.defers]
 ·intro j x hx hj
  rcases (hLi j).1 hj with rfl | hj
  ·rw [ho] at hx
   obtain rfl:=Option.some.inj hx
   refine ⟨v,hv,fun d hd hds=>?_⟩
   rw [hput,if_pos ⟨hd,by rw [hI.size];exact hds⟩]
  ·obtain ⟨u,hu,hs⟩:=hI.done j x hx hj
   by_cases hji:j=i
   ·subst hji
    rw [ho] at hx
    obtain rfl:=Option.some.inj hx
    refine ⟨v,hv,fun d hd hds=>?_⟩
    rw [hput,if_pos ⟨hd,by rw [hI.size];exact hds⟩]
   ·refine ⟨u,hst _ _ hji hj hu,fun d hd hds=>?_⟩
    rw [hput,if_neg,hs d hd hds]
    rintro ⟨hod,_⟩
    have h1:=((dagOk_at hok ho).2.1 d hod).1
    have h2:=((dagOk_at hok hx).2.1 d hd).1
    rw [h1] at h2
    exact hji (Option.some.inj h2).symm
 ·intro t ht
  rw [hput,if_neg,hI.rest t fun j x hx hj=>ht j x hx ((hLi j).2 (.inr hj))]
  rintro ⟨hod,_⟩
  exact ht i o ho ((hLi i).2 (.inl rfl)) hod
 ·intro j x hx hj k hk
  rw [hLi]
  rcases (hLi j).1 hj with rfl | hj
  ·rw [ho] at hx
   obtain rfl:=Option.some.inj hx
   exact .inr (hshut k hk)
  ·exact .inr (hI.shut j x hx hj k hk)
theorem dag_late (hok:dagOk N ops=true) {L:Array Bool} {a:Act} {w:World} (hI:DagInv ops E w0 Φ a0 L a w) {late:List Nat} (hlate:lateOk ops z late=true):∀ i ∈ late,L[i]?=some true→L[z]?=some true:=by
 intro i
 induction i using Nat.strongRecOn with
 | _ i ih =>
  intro hi hL
  have hlt:i<ops.length:=by
   have:=(Array.getElem?_eq_some_iff.1 hL).1
   rw [hI.len] at this;exact this
  have ho:ops[i]?=some ops[i]:=List.getElem?_eq_getElem hlt
  have h:=List.all_eq_true.1 hlate i hi
  rw [ho] at h
  simp only [Option.map_some,Option.getD_some,Bool.or_eq_true,List.any_eq_true] at h
  rcases h with h | ⟨j,hj,h⟩
  ·exact hI.shut i _ ho hL z h
  ·exact ih j ((dagOk_at hok ho).1 j h) hj (hI.shut i _ ho hL j h)
theorem dag_anyS (hok:dagOk N ops=true) (hN:a0.tmps.size=N) (hz:z<ops.length) (hst:∀ i v w w',Φ i v w→F w w' → Φ i v w') {late:List Nat} (hlate:lateOk ops z late=true) (hst2:∀ i v w w',i ≠ z→i ∉ late→Φ i v w→E w w' → Φ i v w') (htr:∀ w w',E w0 w→F w w' → E w0 w') (hff:∀ w w',F w0 w→F w w' → F w0 w') (hfe:∀ w w',F w0 w→E w w' → E w0 w')
  (hone:allOpsS P ops Q E F z w0 Φ a0 0 ops)
  (hend:∀ a w,E w0 w→a.tmps.size=a0.tmps.size→a.defers=a0.defers→(∀ i o,ops[i]?=some o→∃ v,Φ i v w∧∀ d,o.dst=some d→a.tmps[d]?=some v) →
   (∀ t,writerOf ops t=none→a.tmps[t]?=a0.tmps[t]?)→Q .normal a w) :
  ∀ (n:Nat) (L:Array Bool) (a:Act) (w:World),DagInvS ops E F z w0 Φ a0 L a w→(L.toList.filter (· == false)).length≤n→wpAny P .any ops.toArray Q n L a w:=by
 have fin:∀ (L:Array Bool) (a:Act) (w:World),DagInvS ops E F z w0 Φ a0 L a w→Region.ready .any ops.toArray L=[]→Q .normal a w:=by
  intro L a w hIS hr
  have hI:=hIS.inv
  have hall:=dag_ready_nil hok hI.len hr
  refine hend a w hI.ext hI.size hI.defers (fun i o ho=>by
   obtain ⟨v,hv,hd⟩:=hI.done i o ho (hall i (List.getElem?_eq_some_iff.1 ho).1)
   exact ⟨v,hv,fun d hod=>hd d hod (by rw [hN];exact ((dagOk_at hok ho).2.1 d hod).2)⟩) fun t ht=>hI.rest t fun i o ho _=>writerOf_none ht i o ho
 intro n
 induction n with
 | zero =>
  intro L a w hIS hn
  have hI:=hIS.inv
  have hr:Region.ready .any ops.toArray L=[]:=by
   cases hx:Region.ready .any ops.toArray L with
   | nil=>rfl
   | cons x xs =>
    exfalso
    have hm:x ∈ Region.ready .any ops.toArray L:=by rw [hx];exact List.mem_cons_self
    unfold Region.ready at hm
    rw [List.mem_filter] at hm
    have hxl:x<L.size:=by rw [hI.len];simpa using hm.1
    have hf:L[x]=false:=by
     have:=hm.2
     simp [hxl] at this
     exact this.1
    have:false ∈ L.toList.filter (· == false):=by
     rw [List.mem_filter]
     exact ⟨by rw [← hf];simp,rfl⟩
    have:=List.length_pos_of_mem this
    omega
  exact ⟨hr,fin L a w hIS hr⟩
 | succ n ih =>
  intro L a w hIS hn
  have hI:=hIS.inv
  refine ⟨fin L a w hIS,fun i hi=>?_⟩
  have hi':=hi
  unfold Region.ready at hi'
  rw [List.mem_filter] at hi'
  have hlt:i<ops.length:=by simpa using hi'.1
  have hil:i<L.size:=by rw [hI.len];exact hlt
  have ho:ops[i]?=some ops[i]:=List.getElem?_eq_getElem hlt
  have h2:=hi'.2
  rw [show ops.toArray[i]?=some ops[i] by simp [hlt]] at h2
  simp only [Option.map_some,Option.getD_some,Bool.and_eq_true] at h2
  have hf:L[i]?=some false:=by
   have:=h2.1
   simp [hil] at this
   simp [hil,this]
  have hshut:∀ j,hangsOn ops[i] j=true→L[j]?=some true:=by
   intro j hj
   unfold hangsOn at hj
   rw [Array.any_eq_true] at hj
   obtain ⟨k,hk,hkj⟩:=hj
   have:=Array.all_eq_true.1 h2.2 k hk
   simp only [Bool.and_eq_true,beq_iff_eq] at hkj
   rw [hkj.2] at this
   simp only [Bool.not_true,Bool.false_or] at this
   rw [hkj.1] at this
   have hjl:j<L.size:=by
    have:=(dagOk_at hok ho).1 j (by unfold hangsOn;rw [Array.any_eq_true];exact ⟨k,hk,by simp [hkj]⟩)
    omega
   simpa [hjl] using this
  have hcount:((L.setIfInBounds i true).toList.filter (· == false)).length≤n:=by
   have hc:∀ (l:List Bool) (k:Nat),l[k]?=some false→((l.set k true).filter (· == false)).length+1=(l.filter (· == false)).length:=by
    intro l
    induction l with
    | nil=>intro k h;simp at h
    | cons b l ih =>
     intro k h
     cases k with
     | zero=>simp at h;subst h;simp
     | succ k =>
      have:=ih k (by simpa using h)
      cases b <;> simp at this ⊢ <;> omega
   have h3:=hc L.toList i (by simpa using hf)
   rw [Array.toList_setIfInBounds]
   omega
  have h1:=allOpsS_get ops 0 hone i ops[i] ho
  rw [Nat.zero_add] at h1
  have hzf:i=z∨(ops[z]?).any (hangsOn · i)=true→L[z]?=some false:=by
   rintro (rfl | hh)
   ·exact hf
   ·rw [List.getElem?_eq_getElem hz,Option.any_some] at hh
    have hzl:z<L.size:=by rw [hI.len];exact hz
    cases hb:L[z] with
    | false=>simp [hzl,hb]
    | true =>
     have:=hI.shut z ops[z] (List.getElem?_eq_getElem hz) (by simp [hzl,hb]) i hh
     rw [hf] at this
     cases this
  have h4:=h1 a w hI.ext (fun h=>hIS.fine (hzf h)) hI.size hI.defers (dag_looks hok hN hI ho hf hshut)
  have hK:∀ v w',Φ i v w' → (if i=z then E w w' else F w w')→wpAny P .any ops.toArray Q n (L.setIfInBounds i true) (a.put ops[i].dst v) w':=by
   intro v w' hv hS
   refine ih _ _ _ ⟨dag_stepS hok hI ho hshut hv (fun j u hj hjd hu=>?_) ?_,fun h=>?_⟩ hcount
   ·by_cases hiz:i=z
    ·rw [if_pos hiz] at hS
     exact hst2 _ _ _ _ (fun e=>hj (e.trans hiz.symm)) (fun hl=>by have h1:=dag_late hok hI hlate j hl hjd;rw [← hiz,hf] at h1;cases h1) hu hS
    ·rw [if_neg hiz] at hS
     exact hst _ _ _ _ hu hS
   ·by_cases hiz:i=z
    ·rw [if_pos hiz] at hS
     exact hfe _ _ (hIS.fine (hzf (.inl hiz))) hS
    ·rw [if_neg hiz] at hS
     exact htr _ _ hI.ext hS
   ·by_cases hiz:i=z
    ·subst hiz
     rw [Array.getElem?_setIfInBounds] at h
     simp [hil] at h
    ·rw [if_neg hiz] at hS
     rw [Array.getElem?_setIfInBounds,if_neg hiz] at h
     exact hff _ _ (hIS.fine h) hS
  unfold wpOp
  rw [show ops.toArray[i]?=some ops[i] by simp [hlt]]
  simp only [wpList] at h4
  dsimp only
  have key:∀ K':Act→World→Prop,(∀ a' w',(∃ v,a'=a.put ops[i].dst v∧Φ i v w' ∧ (if i=z then E w w' else F w w'))→K' a' w') →
    Oper.wp P ops[i] a w (fun a' w'=>∃ v,a'=a.put ops[i].dst v∧Φ i v w' ∧ (if i=z then E w w' else F w w')) (Exit.then (fun a' w'=>∃ v,a'=a.put ops[i].dst v∧Φ i v w' ∧ (if i=z then E w w' else F w w')) Q)→Oper.wp P ops[i] a w K' Q:=by
   intro K' hK' h
   unfold Oper.wp at *
   generalize (execOp a.eval ops[i]).run P w=r at *
   cases r with
   | ok x w' =>
    cases x <;> simp only [Oper.upon] at h ⊢ <;>
     first
      | exact hK' _ _ h
      | exact Calls.mono h (fun e w'' he=>by
        cases e with
        | returned v=>exact hK' _ _ he
        | panicked ch=>exact he
        | outgrown=>obtain ⟨x,y,hq⟩:=he;exact ⟨x,y,hq⟩)
      | exact Rows.mono h (fun _ _ he=>hK' _ _ he)
   | halt x w'=>cases x <;> simp only [Oper.upon] at h ⊢ <;> exact h
  split
  ·rename_i hw
   rw [if_pos hw] at h4
   rcases h4 with h4 | ⟨h4,x,y,hq⟩
   ·exact .inl (key _ (fun a' w' ⟨v,e,hv,hE⟩=>by rw [e];exact hK v w' hv hE) h4)
   ·exact .inr ⟨h4,x,y,hq⟩
  ·rename_i hw
   rw [if_neg hw] at h4
   obtain ⟨v,e,hv,hE⟩:=h4
   rw [e]
   exact hK v w hv hE
theorem wp_region_dagS {id:Nat} (hm:P.follows .mixedOrders=true) (N:Nat) (hN:a0.tmps.size=N) (hok:dagOk N ops=true) {w:World} (hz:z<ops.length)
  (hst:∀ i v w w',Φ i v w→F w w' → Φ i v w') {late:List Nat} (hlate:lateOk ops z late=true) (hst2:∀ i v w w',i ≠ z→i ∉ late→Φ i v w→E w w' → Φ i v w') (hrf:F w0 { w with drawn:=w.drawn+1 }) (hre:E w0 { w with drawn:=w.drawn+1 })
  (htr:∀ w w',E w0 w→F w w' → E w0 w') (hff:∀ w w',F w0 w→F w w' → F w0 w') (hfe:∀ w w',F w0 w→E w w' → E w0 w')
  (hone:allOpsS P ops Q E F z w0 Φ a0 0 ops)
  (hend:∀ a w,E w0 w→a.tmps.size=a0.tmps.size→a.defers=a0.defers→(∀ i o,ops[i]?=some o→∃ v,Φ i v w∧∀ d,o.dst=some d→a.tmps[d]?=some v) →
   (∀ t,writerOf ops t=none→a.tmps[t]?=a0.tmps[t]?)→Q .normal a w) :
  (Code.region id ops.toArray true).wp P Q a0 w:=by
 refine wp_region_any hm ?_
 refine dag_anyS hok hN hz hst hlate hst2 htr hff hfe hone hend _ _ _ _ ⟨⟨hre,rfl,rfl,by simp,?_,?_,?_⟩,fun _=>hrf⟩ ?_
 ·intro i o ho h;simp [Array.getElem?_replicate] at h
 ·intro t _;rfl
 ·intro i o ho h;simp [Array.getElem?_replicate] at h
 ·simp
end
end Go.Proofs.YtigmdlchbjanoaaGreatDoor
namespace Go.Proofs.YtigmdlchbjanoaaGreatDoor
open Go.RowKit
def earlyOf (ops:List Oper) (i:Nat) (o:Oper):List Tmp:=(looksOf ops o).filter fun t=>match writerOf ops t with | none=>true | some j=>decide (j<i)
def SrcOfF (ops:List Oper) (Φ:Nat→(Tmp→Option Value)→Value→World→Prop) (a0:Act) (i:Nat) (t:Tmp) (v:Value) (w:World):Prop:=
 match writerOf ops t with
 | none=>a0.tmps[t]?=some v
 | some j=>if j<i then ∃ f,Φ j f v w else a0.tmps[t]?=some v
def OneOpF (P:Program) (ops:List Oper) (Q:Exit→Act→World→Prop) (E:World→World→Prop) (w0:World) (Φ:Nat→(Tmp→Option Value)→Value→World→Prop) (a0:Act) (i:Nat) (o:Oper):Prop:=
 ∀ (a:Act) (w:World),E w0 w→a.tmps.size=a0.tmps.size→a.defers=a0.defers →
  (∀ t ∈ looksOf ops o,∃ v,a.tmps[t]?=some v∧SrcOfF ops Φ a0 i t v w) →
  wpList P ops.toArray (Exit.then (fun a' w'=>∃ v,a'=a.put o.dst v∧Φ i (fun t=>a.tmps[t]?) v w' ∧ E w w') Q) [o] a w
def allOpsF (P:Program) (ops:List Oper) (Q:Exit→Act→World→Prop) (E:World→World→Prop) (w0:World) (Φ:Nat→(Tmp→Option Value)→Value→World→Prop) (a0:Act):Nat→List Oper→Prop
 | _,[]=>True
 | i,o :: r=>OneOpF P ops Q E w0 Φ a0 i o∧allOpsF P ops Q E w0 Φ a0 (i+1) r
theorem allOps_getF {P:Program} {ops:List Oper} {Q:Exit→Act→World→Prop} {E:World→World→Prop} {w0:World} {Φ:Nat→(Tmp→Option Value)→Value→World→Prop} {a0:Act} :
  ∀ (l:List Oper) (k:Nat),allOpsF P ops Q E w0 Φ a0 k l→∀ j o,l[j]?=some o→OneOpF P ops Q E w0 Φ a0 (k+j) o:=by
 intro l
 induction l with
 | nil=>intro k _ j o h;simp at h
 | cons x l ih =>
  intro k h j o hj
  cases j with
  | zero=>simp at hj;subst hj;exact h.1
  | succ j=>have:=ih (k+1) h.2 j o (by simpa using hj);rwa [show k+1+j=k+(j+1) by omega] at this
structure DagInvF (ops:List Oper) (E:World→World→Prop) (w0:World) (Φ:Nat→(Tmp→Option Value)→Value→World→Prop) (a0:Act) (L:Array Bool) (a:Act) (w:World):Prop where
 ext:E w0 w
 size:a.tmps.size=a0.tmps.size
 defers:a.defers=a0.defers
 len:L.size=ops.length
 done:∀ (i:Nat) (o:Oper),ops[i]?=some o→L[i]?=some true→∃ v f,Φ i f v w∧(∀ d,o.dst=some d→d<a0.tmps.size→a.tmps[d]?=some v)∧∀ t ∈ earlyOf ops i o,a.tmps[t]?=f t
 rest:∀ t:Tmp,(∀ (i:Nat) (o:Oper),ops[i]?=some o→L[i]?=some true→o.dst ≠ some t)→a.tmps[t]?=a0.tmps[t]?
 shut:∀ (i:Nat) (o:Oper),ops[i]?=some o→L[i]?=some true→∀ j,hangsOn o j=true→L[j]?=some true
section
variable {P:Program} {ops:List Oper} {Q:Exit→Act→World→Prop} {E:World→World→Prop} {w0:World} {Φ:Nat→(Tmp→Option Value)→Value→World→Prop} {a0:Act} {N:Nat}
theorem dag_stepF (hok:dagOk N ops=true) (hst:∀ i f v w w',Φ i f v w→E w w' → Φ i f v w') (htr:∀ w w',E w0 w→E w w' → E w0 w')
  {L:Array Bool} {a:Act} {w:World} (hI:DagInvF ops E w0 Φ a0 L a w) {i:Nat} {o:Oper} (ho:ops[i]?=some o)
  (hnot:L[i]?=some false) (hshut:∀ j,hangsOn o j=true→L[j]?=some true) {v:Value} {w':World} (hv:Φ i (fun t=>a.tmps[t]?) v w') (hE:E w w') :
  DagInvF ops E w0 Φ a0 (L.setIfInBounds i true) (a.put o.dst v) w':=by
 have hlt:i<ops.length:=(List.getElem?_eq_some_iff.1 ho).1
 have hput:∀ t,(a.put o.dst v).tmps[t]?=if o.dst=some t∧t<a.tmps.size then some v else a.tmps[t]?:=by
  intro t
  cases hd:o.dst with
  | none=>simp [Act.put]
  | some d =>
   simp only [Act.put,Array.getElem?_setIfInBounds,Option.some.injEq]
   by_cases hdt:d=t
   ·subst hdt
    by_cases hs:d<a.tmps.size
    ·simp [hs]
    ·simp [hs]
   ·simp [hdt]
 have hLi:∀ j,(L.setIfInBounds i true)[j]?=some true↔(j=i∨L[j]?=some true):=by
  intro j
  rw [Array.getElem?_setIfInBounds]
  by_cases hij:i=j
  ·subst hij
   have:i<L.size:=by rw [hI.len];exact hlt
   simp [this]
  ·simp [hij,Ne.symm hij]
 refine ⟨htr _ _ hI.ext hE,?_,?_,by simp [hI.len],?_,?_,?_⟩
 ·cases hd:o.dst <;> simp [Act.put,hI.size]
 ·cases hd:o.dst <;> simp [Act.put,hI.defers]
 ·intro j x hx hj
  have hear:∀ t ∈ earlyOf ops j x,(L[j]?=some true∨j=i)→(a.put o.dst v).tmps[t]?=a.tmps[t]?:=by
   intro t ht hd
   rw [hput,if_neg]
   rintro ⟨hod,_⟩
   unfold earlyOf at ht
   rw [List.mem_filter] at ht
   rw [((dagOk_at hok ho).2.1 t hod).1] at ht
   have hij:i<j:=by simpa using ht.2
   rcases hd with hd | hd
   ·rcases ((dagOk_at hok hx).2.2 t ht.1).2 i ((dagOk_at hok ho).2.1 t hod).1 with h | h
    ·have:=hI.shut _ _ hx hd i h.2
     rw [hnot] at this
     cases this
    ·omega
   ·omega
  rcases (hLi j).1 hj with rfl | hjL
  ·rw [ho] at hx
   obtain rfl:=Option.some.inj hx
   refine ⟨v,_,hv,fun d hd hds=>?_,fun t ht=>hear t ht (.inr rfl)⟩
   rw [hput,if_pos ⟨hd,by rw [hI.size];exact hds⟩]
  ·obtain ⟨u,f,hu,hs,hf⟩:=hI.done j x hx hjL
   by_cases hji:j=i
   ·subst hji
    rw [hnot] at hjL
    cases hjL
   ·refine ⟨u,f,hst _ _ _ _ _ hu hE,fun d hd hds=>?_,fun t ht=>(hear t ht (.inl hjL)).trans (hf t ht)⟩
    rw [hput,if_neg,hs d hd hds]
    rintro ⟨hod,_⟩
    have h1:=((dagOk_at hok ho).2.1 d hod).1
    have h2:=((dagOk_at hok hx).2.1 d hd).1
    rw [h1] at h2
    exact hji (Option.some.inj h2).symm
 ·intro t ht
  rw [hput,if_neg,hI.rest t fun j x hx hj=>ht j x hx ((hLi j).2 (.inr hj))]
  rintro ⟨hod,_⟩
  exact ht i o ho ((hLi i).2 (.inl rfl)) hod
 ·intro j x hx hj k hk
  rw [hLi]
  rcases (hLi j).1 hj with rfl | hj
  ·rw [ho] at hx
   obtain rfl:=Option.some.inj hx
   exact .inr (hshut k hk)
  ·exact .inr (hI.shut j x hx hj k hk)
theorem dag_looksF (hok:dagOk N ops=true) (hN:a0.tmps.size=N) {L:Array Bool} {a:Act} {w:World} (hI:DagInvF ops E w0 Φ a0 L a w) {i:Nat} {o:Oper} (ho:ops[i]?=some o)
  (hnot:L[i]?=some false) (hshut:∀ j,hangsOn o j=true→L[j]?=some true) :
  ∀ t ∈ looksOf ops o,∃ v,a.tmps[t]?=some v∧SrcOfF ops Φ a0 i t v w:=by
 intro t ht
 have hts:t<a0.tmps.size:=by rw [hN];exact ((dagOk_at hok ho).2.2 t ht).1
 unfold SrcOfF
 cases hw:writerOf ops t with
 | none =>
  have h:=hI.rest t fun j x hx _=>writerOf_none hw j x hx
  rw [h]
  exact ⟨_,Array.getElem?_eq_getElem hts,Array.getElem?_eq_getElem hts⟩
 | some j =>
  obtain ⟨x,hx,hd⟩:=writerOf_some hw
  rcases ((dagOk_at hok ho).2.2 t ht).2 j hw with ⟨hlt,hh⟩ | ⟨hlt,hh⟩
  ·simp only [hlt,if_true]
   obtain ⟨v,f,hv,hs,_⟩:=hI.done j x hx (hshut j hh)
   exact ⟨v,hs t hd hts,f,hv⟩
  ·simp only [show ¬ j<i by omega,if_false]
   have h:=hI.rest t fun k y hy hk hkt=>by
    have hk2:=((dagOk_at hok hy).2.1 t hkt).1
    rw [hw] at hk2
    obtain rfl:=Option.some.inj hk2
    have:=hI.shut _ _ hx hk i (hh x hx)
    rw [hnot] at this
    cases this
   rw [h]
   exact ⟨_,Array.getElem?_eq_getElem hts,Array.getElem?_eq_getElem hts⟩
theorem dag_anyF (hok:dagOk N ops=true) (hN:a0.tmps.size=N) (hst:∀ i f v w w',Φ i f v w→E w w' → Φ i f v w') (htr:∀ w w',E w0 w→E w w' → E w0 w')
  (hone:allOpsF P ops Q E w0 Φ a0 0 ops)
  (hend:∀ a w,E w0 w→a.tmps.size=a0.tmps.size→a.defers=a0.defers→(∀ i o,ops[i]?=some o→∃ v f,Φ i f v w∧(∀ d,o.dst=some d→a.tmps[d]?=some v)∧∀ t ∈ earlyOf ops i o,a.tmps[t]?=f t) →
   (∀ t,writerOf ops t=none→a.tmps[t]?=a0.tmps[t]?)→Q .normal a w) :
  ∀ (n:Nat) (L:Array Bool) (a:Act) (w:World),DagInvF ops E w0 Φ a0 L a w→(L.toList.filter (· == false)).length≤n→wpAny P .any ops.toArray Q n L a w:=by
 have fin:∀ (L:Array Bool) (a:Act) (w:World),DagInvF ops E w0 Φ a0 L a w→Region.ready .any ops.toArray L=[]→Q .normal a w:=by
  intro L a w hI hr
  have hall:=dag_ready_nil hok hI.len hr
  refine hend a w hI.ext hI.size hI.defers (fun i o ho=>by
   obtain ⟨v,f,hv,hd,he⟩:=hI.done i o ho (hall i (List.getElem?_eq_some_iff.1 ho).1)
   exact ⟨v,f,hv,fun d hod=>hd d hod (by rw [hN];exact ((dagOk_at hok ho).2.1 d hod).2),he⟩) fun t ht=>hI.rest t fun i o ho _=>writerOf_none ht i o ho
 intro n
 induction n with
 | zero =>
  intro L a w hI hn
  have hr:Region.ready .any ops.toArray L=[]:=by
   cases hx:Region.ready .any ops.toArray L with
   | nil=>rfl
   | cons x xs =>
    exfalso
    have hm:x ∈ Region.ready .any ops.toArray L:=by rw [hx];exact List.mem_cons_self
    unfold Region.ready at hm
    rw [List.mem_filter] at hm
    have hxl:x<L.size:=by rw [hI.len];simpa using hm.1
    have hf:L[x]=false:=by
     have:=hm.2
     simp [hxl] at this
     exact this.1
    have:false ∈ L.toList.filter (· == false):=by
     rw [List.mem_filter]
     exact ⟨by rw [← hf];simp,rfl⟩
    have:=List.length_pos_of_mem this
    omega
  exact ⟨hr,fin L a w hI hr⟩
 | succ n ih =>
  intro L a w hI hn
  refine ⟨fin L a w hI,fun i hi=>?_⟩
  have hi':=hi
  unfold Region.ready at hi'
  rw [List.mem_filter] at hi'
  have hlt:i<ops.length:=by simpa using hi'.1
  have hil:i<L.size:=by rw [hI.len];exact hlt
  have ho:ops[i]?=some ops[i]:=List.getElem?_eq_getElem hlt
  have h2:=hi'.2
  rw [show ops.toArray[i]?=some ops[i] by simp [hlt]] at h2
  simp only [Option.map_some,Option.getD_some,Bool.and_eq_true] at h2
  have hf:L[i]?=some false:=by
   have:=h2.1
   simp [hil] at this
   simp [hil,this]
  have hshut:∀ j,hangsOn ops[i] j=true→L[j]?=some true:=by
   intro j hj
   unfold hangsOn at hj
   rw [Array.any_eq_true] at hj
   obtain ⟨k,hk,hkj⟩:=hj
   have:=Array.all_eq_true.1 h2.2 k hk
   simp only [Bool.and_eq_true,beq_iff_eq] at hkj
   rw [hkj.2] at this
   simp only [Bool.not_true,Bool.false_or] at this
   rw [hkj.1] at this
   have hjl:j<L.size:=by
    have:=(dagOk_at hok ho).1 j (by unfold hangsOn;rw [Array.any_eq_true];exact ⟨k,hk,by simp [hkj]⟩)
    omega
   simpa [hjl] using this
  have hcount:((L.setIfInBounds i true).toList.filter (· == false)).length≤n:=by
   have hc:∀ (l:List Bool) (k:Nat),l[k]?=some false→((l.set k true).filter (· == false)).length+1=(l.filter (· == false)).length:=by
    intro l
    induction l with
    | nil=>intro k h;simp at h
    | cons b l ih =>
     intro k h
     cases k with
     | zero=>simp at h;subst h;simp
     | succ k =>
      have:=ih k (by simpa using h)
      cases b <;> simp at this ⊢ <;> omega
   have h3:=hc L.toList i (by simpa using hf)
   rw [Array.toList_setIfInBounds]
   omega
  have h1:=allOps_getF ops 0 hone i ops[i] ho
  rw [Nat.zero_add] at h1
  have h4:=h1 a w hI.ext hI.size hI.defers (dag_looksF hok hN hI ho hf hshut)
  have hK:∀ v w',Φ i (fun t=>a.tmps[t]?) v w' → E w w' → wpAny P .any ops.toArray Q n (L.setIfInBounds i true) (a.put ops[i].dst v) w':=
   fun v w' hv hE=>ih _ _ _ (dag_stepF hok hst htr hI ho hf hshut hv hE) hcount
  unfold wpOp
  rw [show ops.toArray[i]?=some ops[i] by simp [hlt]]
  simp only [wpList] at h4
  dsimp only
  have key:∀ K':Act→World→Prop,(∀ a' w',(∃ v,a'=a.put ops[i].dst v∧Φ i (fun t=>a.tmps[t]?) v w' ∧ E w w')→K' a' w') →
    Oper.wp P ops[i] a w (fun a' w'=>∃ v,a'=a.put ops[i].dst v∧Φ i (fun t=>a.tmps[t]?) v w' ∧ E w w') (Exit.then (fun a' w'=>∃ v,a'=a.put ops[i].dst v∧Φ i (fun t=>a.tmps[t]?) v w' ∧ E w w') Q)→Oper.wp P ops[i] a w K' Q:=by
   intro K' hK' h
   unfold Oper.wp at *
   generalize (execOp a.eval ops[i]).run P w=r at *
   cases r with
   | ok x w' =>
    cases x <;> simp only [Oper.upon] at h ⊢ <;>
     first
      | exact hK' _ _ h
      | exact Calls.mono h (fun e w'' he=>by
        cases e with
        | returned v=>exact hK' _ _ he
        | panicked ch=>exact he
        | outgrown=>obtain ⟨x,y,hq⟩:=he;exact ⟨x,y,hq⟩)
      | exact Rows.mono h (fun _ _ he=>hK' _ _ he)
   | halt x w'=>cases x <;> simp only [Oper.upon] at h ⊢ <;> exact h
  split
  ·rename_i hw
   rw [if_pos hw] at h4
   rcases h4 with h4 | ⟨h4,x,y,hq⟩
   ·exact .inl (key _ (fun a' w' ⟨v,e,hv,hE⟩=>by rw [e];exact hK v w' hv hE) h4)
   ·exact .inr ⟨h4,x,y,hq⟩
  ·rename_i hw
   rw [if_neg hw] at h4
   obtain ⟨v,e,hv,hE⟩:=h4
   rw [e]
   exact hK v w hv hE
theorem wp_region_dagF {id:Nat} (hm:P.follows .mixedOrders=true) (N:Nat) (hN:a0.tmps.size=N) (hok:dagOk N ops=true) {w:World}
  (hst:∀ i f v w w',Φ i f v w→E w w' → Φ i f v w') (hrf:E w0 { w with drawn:=w.drawn+1 }) (htr:∀ w w',E w0 w→E w w' → E w0 w')
  (hone:allOpsF P ops Q E w0 Φ a0 0 ops)
  (hend:∀ a w,E w0 w→a.tmps.size=a0.tmps.size→a.defers=a0.defers→(∀ i o,ops[i]?=some o→∃ v f,Φ i f v w∧(∀ d,o.dst=some d→a.tmps[d]?=some v)∧∀ t ∈ earlyOf ops i o,a.tmps[t]?=f t) →
   (∀ t,writerOf ops t=none→a.tmps[t]?=a0.tmps[t]?)→Q .normal a w) :
  (Code.region id ops.toArray true).wp P Q a0 w:=by
 refine wp_region_any hm ?_
 refine dag_anyF hok hN hst htr hone hend _ _ _ _ ⟨hrf,rfl,rfl,by simp,?_,?_,?_⟩ ?_
 ·intro i o ho h;simp [Array.getElem?_replicate] at h
 ·intro t _;rfl
 ·intro i o ho h;simp [Array.getElem?_replicate] at h
 ·simp
end
end Go.Proofs.YtigmdlchbjanoaaGreatDoor
namespace Go.Proofs.YtigmdlchbjanoaaGreatDoor
open Go Go.RowKit
def EG (B:Nat) (T:TypeId) (G:World→List Value→Prop) (w w':World):Prop:=
 ∃ X:List Nat,Chg X w w' ∧ ∀ k ∈ X,B≤k∧(∃ cs,Blk w k T cs)∧∃ cs,G w' cs∧Blk w' k T cs
theorem EG.of_ext {B:Nat} {T:TypeId} {G:World→List Value→Prop} {w w':World} (h:Ext w w'):EG B T G w w':=⟨[],.of_ext h,by simp⟩
theorem EG.refl {B:Nat} {T:TypeId} {G:World→List Value→Prop} (w:World):EG B T G w w:=.of_ext (Ext.refl w)
theorem EG.size {B:Nat} {T:TypeId} {G:World→List Value→Prop} {w w':World} (h:EG B T G w w'):w.heap.size≤w'.heap.size:=by obtain ⟨X,h,_⟩:=h;exact h.size
theorem EG.below {B:Nat} {T:TypeId} {G:World→List Value→Prop} {w0 w w':World} (h:EG B T G w w') (hb:Below B w0 w) (hB:B≤w.heap.size):Below B w0 w':=by
 obtain ⟨X,h,hx⟩:=h
 exact h.below hb hB fun k hk=>(hx k hk).1
theorem EG.store {B:Nat} {T:TypeId} {G:World→List Value→Prop} {w w':World} {g:Nat} {cs cs':List Value} (h:Chg [g] w w') (hB:B≤g) (hb:Blk w g T cs) (hb':Blk w' g T cs') (hg:G w' cs'):EG B T G w w':=
 ⟨[g],h,fun k hk=>by simp at hk;subst hk;exact ⟨hB,⟨_,hb⟩,_,hg,hb'⟩⟩
theorem EG.trans {B:Nat} {T:TypeId} {G:World→List Value→Prop} (hG:∀ w w' cs,G w cs→EG B T G w w' → G w' cs) {a b c:World} (h:EG B T G a b) (k:EG B T G b c):EG B T G a c:=by
 have k':=k
 obtain ⟨X,h1,h2⟩:=h
 obtain ⟨Y,k1,k2⟩:=k
 refine ⟨X ++ Y.filter (fun y=>decide (y<a.heap.size)),⟨k1.os.trans h1.os,k1.tape.trans h1.tape,k1.output.trans h1.output,Nat.le_trans h1.size k1.size,fun i hi hx=>?_⟩,fun i hi=>?_⟩
 ·have hxX:i ∉ X:=fun h=>hx (List.mem_append_left _ h)
  have hxY:i ∉ Y:=fun h=>hx (List.mem_append_right _ (List.mem_filter.2 ⟨h,by simpa using hi⟩))
  exact (k1.block i (Nat.lt_of_lt_of_le hi h1.size) hxY).trans (h1.block i hi hxX)
 ·by_cases hX:i ∈ X
  ·obtain ⟨a1,a2,cs,a3,a4⟩:=h2 i hX
   refine ⟨a1,a2,?_⟩
   by_cases hY:i ∈ Y
   ·exact (k2 i hY).2.2
   ·exact ⟨cs,hG _ _ _ a3 k',(k1.block i a4.lt hY).trans a4⟩
  ·rcases List.mem_append.1 hi with h | h
   ·exact absurd h hX
   ·obtain ⟨hY,hlt⟩:=List.mem_filter.1 h
    obtain ⟨a1,⟨cs,a2⟩,a3⟩:=k2 i hY
    exact ⟨a1,⟨cs,(h1.block i (by simpa using hlt) hX).symm.trans a2⟩,a3⟩
theorem EG.own {B:Nat} {T:TypeId} {G:World→List Value→Prop} {w w':World} (h:EG B T G w w') {base n size:Nat} {e:TypeId} {v:Value} {xs:List Value} (ho:w.ownsRow base e size v n xs) (he:e ≠ T):w'.ownsRow base e size v n xs:=by
 obtain ⟨X,h1,h2⟩:=h
 refine ⟨ho.1,?_⟩
 rcases ho.2 with h' | ⟨g,cap,cur,rfl,hb,hg,hr⟩
 ·exact .inl h'
 ·have hl:=(ho.lt g rfl).2
  refine .inr ⟨g,cap,cur,rfl,hb,(h1.block g hl fun hx=>?_).trans hg,hr⟩
  obtain ⟨_,⟨cs,h3⟩,_⟩:=h2 g hx
  unfold Blk at h3
  rw [hg] at h3
  simp at h3
  exact he h3.2
theorem EG.good {B:Nat} {T:TypeId} {G:World→List Value→Prop} (hG:∀ w w' cs,G w cs→EG B T G w w' → G w' cs) {w w':World} (h:EG B T G w w') {g:Nat} (hg:∃ cs,G w cs∧Blk w g T cs):∃ cs,G w' cs∧Blk w' g T cs:=by
 have h':=h
 obtain ⟨X,h1,h2⟩:=h
 obtain ⟨cs,a1,a2⟩:=hg
 by_cases hx:g ∈ X
 ·exact (h2 g hx).2.2
 ·exact ⟨cs,hG _ _ _ a1 h',(h1.block g a2.lt hx).trans a2⟩
theorem EG.four {B:Nat} {T:TypeId} {G:World→List Value→Prop} {n:Nat} (hG:∀ w cs,G w cs→cs.length=n) {w w':World} (h:EG B T G w w') {g:Nat} (hg:∃ cs,cs.length=n∧Blk w g T cs):∃ cs,cs.length=n∧Blk w' g T cs:=by
 obtain ⟨X,h1,h2⟩:=h
 obtain ⟨cs,a1,a2⟩:=hg
 by_cases hx:g ∈ X
 ·obtain ⟨_,_,cs',b1,b2⟩:=h2 g hx
  exact ⟨cs',hG _ _ b1,b2⟩
 ·exact ⟨cs,a1,(h1.block g a2.lt hx).trans a2⟩
theorem EG.blk {B:Nat} {T:TypeId} {G:World→List Value→Prop} {w w':World} (h:EG B T G w w') {g:Nat} {e:TypeId} {cs:List Value} (hb:Blk w g e cs) (he:e ≠ T):Blk w' g e cs:=by
 obtain ⟨X,h1,h2⟩:=h
 refine (h1.block g hb.lt fun hx=>?_).trans hb
 obtain ⟨_,⟨cs',h3⟩,_⟩:=h2 g hx
 unfold Blk at h3 hb
 rw [hb] at h3
 simp at h3
 exact he h3.2
theorem set4 {w:World} {g:Nat} {e:TypeId} {y0 y1 y2 y3:Value} (h:Blk w g e [y0,y1,y2,y3]) (x0 x1 x2 x3:Value) :
  Blk ((((w.setCell ⟨g,0,none⟩ x0).setCell ⟨g,1,none⟩ x1).setCell ⟨g,2,none⟩ x2).setCell ⟨g,3,none⟩ x3) g e [x0,x1,x2,x3] ∧
  Chg [g] w ((((w.setCell ⟨g,0,none⟩ x0).setCell ⟨g,1,none⟩ x1).setCell ⟨g,2,none⟩ x2).setCell ⟨g,3,none⟩ x3):=by
 refine ⟨?_,((((Chg.refl _ _).setCell (by simp) _).setCell (by simp) _).setCell (by simp) _).setCell (by simp) _⟩
 have hf:=(((h.set_ 0 x0).set_ 1 x1).set_ 2 x2).set_ 3 x3
 simpa only [List.set_cons_zero,List.set_cons_succ] using hf
end Go.Proofs.YtigmdlchbjanoaaGreatDoor
namespace Go.Proofs.YtigmdlchbjanoaaGreatDoor
open Go.RowKit
def OneOpQ (P:Program) (ops:List Oper) (Q:Exit→Act→World→Prop) (X:Nat→List Nat) (XX:List Nat) (Pre:Nat→World→Prop) (w0:World) (Φ:Nat→Value→World→Prop) (a0:Act) (i:Nat) (o:Oper):Prop:=
 ∀ (a:Act) (w:World),Chg XX w0 w→Pre i w→a.tmps.size=a0.tmps.size→a.defers=a0.defers →
  (∀ t ∈ looksOf ops o,∃ v,a.tmps[t]?=some v∧SrcOf ops Φ a0 i t v w) →
  wpList P ops.toArray (Exit.then (fun a' w'=>∃ v,a'=a.put o.dst v∧Φ i v w' ∧ Chg (X i) w w') Q) [o] a w
def allOpsQ (P:Program) (ops:List Oper) (Q:Exit→Act→World→Prop) (X:Nat→List Nat) (XX:List Nat) (Pre:Nat→World→Prop) (w0:World) (Φ:Nat→Value→World→Prop) (a0:Act):Nat→List Oper→Prop
 | _,[]=>True
 | i,o :: r=>OneOpQ P ops Q X XX Pre w0 Φ a0 i o∧allOpsQ P ops Q X XX Pre w0 Φ a0 (i+1) r
theorem allOpsQ_get {P:Program} {ops:List Oper} {Q:Exit→Act→World→Prop} {X:Nat→List Nat} {XX:List Nat} {Pre:Nat→World→Prop} {w0:World} {Φ:Nat→Value→World→Prop} {a0:Act} :
  ∀ (l:List Oper) (k:Nat),allOpsQ P ops Q X XX Pre w0 Φ a0 k l→∀ j o,l[j]?=some o→OneOpQ P ops Q X XX Pre w0 Φ a0 (k+j) o:=by
 intro l
 induction l with
 | nil=>intro k _ j o h;simp at h
 | cons x l ih =>
  intro k h j o hj
  cases j with
  | zero=>simp at hj;subst hj;exact h.1
  | succ j=>have:=ih (k+1) h.2 j o (by simpa using hj);rwa [show k+1+j=k+(j+1) by omega] at this
structure DagInvQ (ops:List Oper) (XX:List Nat) (Pre:Nat→World→Prop) (w0:World) (Φ:Nat→Value→World→Prop) (a0:Act) (L:Array Bool) (a:Act) (w:World):Prop where
 inv:DagInv ops (Chg XX) w0 Φ a0 L a w
 pre:∀ i,L[i]?=some false→Pre i w
section
variable {P:Program} {ops:List Oper} {Q:Exit→Act→World→Prop} {X:Nat→List Nat} {XX:List Nat} {late:Nat→List Nat} {Pre:Nat→World→Prop} {w0:World} {Φ:Nat→Value→World→Prop} {a0:Act} {N:Nat}
theorem dag_anyQ (hok:dagOk N ops=true) (hN:a0.tmps.size=N) (hX:∀ j,∀ x ∈ X j,x ∈ XX) (hlate:∀ j,lateOk ops j (late j)=true) (hpre:∀ i j w w',i ≠ j→j ∉ late i→Pre i w→Chg (X j) w w' → Pre i w') (hst:∀ i j v w w',i ≠ j→i ∉ late j→Φ i v w→Chg (X j) w w' → Φ i v w')
  (hone:allOpsQ P ops Q X XX Pre w0 Φ a0 0 ops)
  (hend:∀ a w,Chg XX w0 w→a.tmps.size=a0.tmps.size→a.defers=a0.defers→(∀ i o,ops[i]?=some o→∃ v,Φ i v w∧∀ d,o.dst=some d→a.tmps[d]?=some v) →
   (∀ t,writerOf ops t=none→a.tmps[t]?=a0.tmps[t]?)→Q .normal a w) :
  ∀ (n:Nat) (L:Array Bool) (a:Act) (w:World),DagInvQ ops XX Pre w0 Φ a0 L a w→(L.toList.filter (· == false)).length≤n→wpAny P .any ops.toArray Q n L a w:=by
 have fin:∀ (L:Array Bool) (a:Act) (w:World),DagInvQ ops XX Pre w0 Φ a0 L a w→Region.ready .any ops.toArray L=[]→Q .normal a w:=by
  intro L a w hIS hr
  have hI:=hIS.inv
  have hall:=dag_ready_nil hok hI.len hr
  refine hend a w hI.ext hI.size hI.defers (fun i o ho=>by
   obtain ⟨v,hv,hd⟩:=hI.done i o ho (hall i (List.getElem?_eq_some_iff.1 ho).1)
   exact ⟨v,hv,fun d hod=>hd d hod (by rw [hN];exact ((dagOk_at hok ho).2.1 d hod).2)⟩) fun t ht=>hI.rest t fun i o ho _=>writerOf_none ht i o ho
 intro n
 induction n with
 | zero =>
  intro L a w hIS hn
  have hI:=hIS.inv
  have hr:Region.ready .any ops.toArray L=[]:=by
   cases hx:Region.ready .any ops.toArray L with
   | nil=>rfl
   | cons x xs =>
    exfalso
    have hm:x ∈ Region.ready .any ops.toArray L:=by rw [hx];exact List.mem_cons_self
    unfold Region.ready at hm
    rw [List.mem_filter] at hm
    have hxl:x<L.size:=by rw [hI.len];simpa using hm.1
    have hf:L[x]=false:=by
     have:=hm.2
     simp [hxl] at this
     exact this.1
    have:false ∈ L.toList.filter (· == false):=by
     rw [List.mem_filter]
     exact ⟨by rw [← hf];simp,rfl⟩
    have:=List.length_pos_of_mem this
    omega
  exact ⟨hr,fin L a w hIS hr⟩
 | succ n ih =>
  intro L a w hIS hn
  have hI:=hIS.inv
  refine ⟨fin L a w hIS,fun i hi=>?_⟩
  have hi':=hi
  unfold Region.ready at hi'
  rw [List.mem_filter] at hi'
  have hlt:i<ops.length:=by simpa using hi'.1
  have hil:i<L.size:=by rw [hI.len];exact hlt
  have ho:ops[i]?=some ops[i]:=List.getElem?_eq_getElem hlt
  have h2:=hi'.2
  rw [show ops.toArray[i]?=some ops[i] by simp [hlt]] at h2
  simp only [Option.map_some,Option.getD_some,Bool.and_eq_true] at h2
  have hf:L[i]?=some false:=by
   have:=h2.1
   simp [hil] at this
   simp [hil,this]
  have hshut:∀ j,hangsOn ops[i] j=true→L[j]?=some true:=by
   intro j hj
   unfold hangsOn at hj
   rw [Array.any_eq_true] at hj
   obtain ⟨k,hk,hkj⟩:=hj
   have:=Array.all_eq_true.1 h2.2 k hk
   simp only [Bool.and_eq_true,beq_iff_eq] at hkj
   rw [hkj.2] at this
   simp only [Bool.not_true,Bool.false_or] at this
   rw [hkj.1] at this
   have hjl:j<L.size:=by
    have:=(dagOk_at hok ho).1 j (by unfold hangsOn;rw [Array.any_eq_true];exact ⟨k,hk,by simp [hkj]⟩)
    omega
   simpa [hjl] using this
  have hcount:((L.setIfInBounds i true).toList.filter (· == false)).length≤n:=by
   have hc:∀ (l:List Bool) (k:Nat),l[k]?=some false→((l.set k true).filter (· == false)).length+1=(l.filter (· == false)).length:=by
    intro l
    induction l with
    | nil=>intro k h;simp at h
    | cons b l ih =>
     intro k h
     cases k with
     | zero=>simp at h;subst h;simp
     | succ k =>
      have:=ih k (by simpa using h)
      cases b <;> simp at this ⊢ <;> omega
   have h3:=hc L.toList i (by simpa using hf)
   rw [Array.toList_setIfInBounds]
   omega
  have h1:=allOpsQ_get ops 0 hone i ops[i] ho
  rw [Nat.zero_add] at h1
  have h4:=h1 a w hI.ext (hIS.pre i hf) hI.size hI.defers (dag_looks hok hN hI ho hf hshut)
  have hK:∀ v w',Φ i v w' → Chg (X i) w w' → wpAny P .any ops.toArray Q n (L.setIfInBounds i true) (a.put ops[i].dst v) w':=by
   intro v w' hv hS
   have hI':=dag_stepS hok hI ho hshut hv (fun j u hj hjd hu=>hst _ _ _ _ _ hj (fun hl=>by have h1:=dag_late hok hI (hlate i) j hl hjd;rw [hf] at h1;cases h1) hu hS) (hI.ext.trans (hS.mono (hX i)))
   refine ih _ _ _ ⟨hI',fun j h=>?_⟩ hcount
   ·have hnl:i ∉ late j:=fun hl=>by
     have h1:=dag_late hok hI' (hlate j) i hl (by rw [Array.getElem?_setIfInBounds];simp [hil])
     rw [h] at h1
     cases h1
    by_cases hij:i=j
    ·subst hij
     rw [Array.getElem?_setIfInBounds] at h
     simp [hil] at h
    ·rw [Array.getElem?_setIfInBounds,if_neg hij] at h
     exact hpre _ _ _ _ (fun e=>hij e.symm) hnl (hIS.pre j h) hS
  unfold wpOp
  rw [show ops.toArray[i]?=some ops[i] by simp [hlt]]
  simp only [wpList] at h4
  dsimp only
  have key:∀ K':Act→World→Prop,(∀ a' w',(∃ v,a'=a.put ops[i].dst v∧Φ i v w' ∧ Chg (X i) w w')→K' a' w') →
    Oper.wp P ops[i] a w (fun a' w'=>∃ v,a'=a.put ops[i].dst v∧Φ i v w' ∧ Chg (X i) w w') (Exit.then (fun a' w'=>∃ v,a'=a.put ops[i].dst v∧Φ i v w' ∧ Chg (X i) w w') Q)→Oper.wp P ops[i] a w K' Q:=by
   intro K' hK' h
   unfold Oper.wp at *
   generalize (execOp a.eval ops[i]).run P w=r at *
   cases r with
   | ok x w' =>
    cases x <;> simp only [Oper.upon] at h ⊢ <;>
     first
      | exact hK' _ _ h
      | exact Calls.mono h (fun e w'' he=>by
        cases e with
        | returned v=>exact hK' _ _ he
        | panicked ch=>exact he
        | outgrown=>obtain ⟨x,y,hq⟩:=he;exact ⟨x,y,hq⟩)
      | exact Rows.mono h (fun _ _ he=>hK' _ _ he)
   | halt x w'=>cases x <;> simp only [Oper.upon] at h ⊢ <;> exact h
  split
  ·rename_i hw
   rw [if_pos hw] at h4
   rcases h4 with h4 | ⟨h4,x,y,hq⟩
   ·exact .inl (key _ (fun a' w' ⟨v,e,hv,hE⟩=>by rw [e];exact hK v w' hv hE) h4)
   ·exact .inr ⟨h4,x,y,hq⟩
  ·rename_i hw
   rw [if_neg hw] at h4
   obtain ⟨v,e,hv,hE⟩:=h4
   rw [e]
   exact hK v w hv hE
theorem wp_region_dagQ {id:Nat} (hm:P.follows .mixedOrders=true) (N:Nat) (hN:a0.tmps.size=N) (hok:dagOk N ops=true)
  (hX:∀ j,∀ x ∈ X j,x ∈ XX) (hlate:∀ j,lateOk ops j (late j)=true) (hpre0:∀ i,Pre i { w0 with drawn:=w0.drawn+1 }) (hpre:∀ i j w w',i ≠ j→j ∉ late i→Pre i w→Chg (X j) w w' → Pre i w') (hst:∀ i j v w w',i ≠ j→i ∉ late j→Φ i v w→Chg (X j) w w' → Φ i v w')
  (hone:allOpsQ P ops Q X XX Pre w0 Φ a0 0 ops)
  (hend:∀ a w,Chg XX w0 w→a.tmps.size=a0.tmps.size→a.defers=a0.defers→(∀ i o,ops[i]?=some o→∃ v,Φ i v w∧∀ d,o.dst=some d→a.tmps[d]?=some v) →
   (∀ t,writerOf ops t=none→a.tmps[t]?=a0.tmps[t]?)→Q .normal a w) :
  (Code.region id ops.toArray true).wp P Q a0 w0:=by
 refine wp_region_any hm ?_
 refine dag_anyQ hok hN hX hlate hpre hst hone hend _ _ _ _ ⟨⟨(Chg.refl _ _).drew,rfl,rfl,by simp,?_,?_,?_⟩,fun i _=>hpre0 i⟩ ?_
 ·intro i o ho h;simp [Array.getElem?_replicate] at h
 ·intro t _;rfl
 ·intro i o ho h;simp [Array.getElem?_replicate] at h
 ·simp
end
end Go.Proofs.YtigmdlchbjanoaaGreatDoor
namespace Go.Proofs.YtigmdlchbjanoaaGreatDoor
open Go.RowKit
def OneOpJ (P:Program) (ops:List Oper) (Q:Exit→Act→World→Prop) (E:World→World→Prop) (J:Array Bool→Act→World→Prop) (w0:World) (Φ:Nat→Value→World→Prop) (a0:Act) (i:Nat) (o:Oper):Prop:=
 ∀ (L:Array Bool) (a:Act) (w:World),E w0 w→J L a w→L.size=ops.length→L[i]?=some false→(∀ j,hangsOn o j=true→L[j]?=some true)→a.tmps.size=a0.tmps.size→a.defers=a0.defers →
  (∀ t ∈ looksOf ops o,∃ v,a.tmps[t]?=some v∧SrcOf ops Φ a0 i t v w) →
  wpList P ops.toArray (Exit.then (fun a' w'=>∃ v,a'=a.put o.dst v∧Φ i v w' ∧ E w w' ∧ J (L.setIfInBounds i true) a' w') Q) [o] a w
def allOpsJ (P:Program) (ops:List Oper) (Q:Exit→Act→World→Prop) (E:World→World→Prop) (J:Array Bool→Act→World→Prop) (w0:World) (Φ:Nat→Value→World→Prop) (a0:Act):Nat→List Oper→Prop
 | _,[]=>True
 | i,o :: r=>OneOpJ P ops Q E J w0 Φ a0 i o∧allOpsJ P ops Q E J w0 Φ a0 (i+1) r
theorem allOpsJ_get {P:Program} {ops:List Oper} {Q:Exit→Act→World→Prop} {E:World→World→Prop} {J:Array Bool→Act→World→Prop} {w0:World} {Φ:Nat→Value→World→Prop} {a0:Act} :
  ∀ (l:List Oper) (k:Nat),allOpsJ P ops Q E J w0 Φ a0 k l→∀ j o,l[j]?=some o→OneOpJ P ops Q E J w0 Φ a0 (k+j) o:=by
 intro l
 induction l with
 | nil=>intro k _ j o h;simp at h
 | cons x l ih =>
  intro k h j o hj
  cases j with
  | zero=>simp at hj;subst hj;exact h.1
  | succ j=>have:=ih (k+1) h.2 j o (by simpa using hj);rwa [show k+1+j=k+(j+1) by omega] at this
section
variable {P:Program} {ops:List Oper} {Q:Exit→Act→World→Prop} {E:World→World→Prop} {J:Array Bool→Act→World→Prop} {w0:World} {Φ:Nat→Value→World→Prop} {a0:Act} {N:Nat}
theorem dag_anyJ (hok:dagOk N ops=true) (hN:a0.tmps.size=N) (hst:∀ i v w w',Φ i v w→E w w' → Φ i v w') (htr:∀ w w',E w0 w→E w w' → E w0 w')
  (hone:allOpsJ P ops Q E J w0 Φ a0 0 ops)
  (hend:∀ L a w,J L a w→(∀ i,i<ops.length→L[i]?=some true)→E w0 w→a.tmps.size=a0.tmps.size→a.defers=a0.defers→(∀ i o,ops[i]?=some o→∃ v,Φ i v w∧∀ d,o.dst=some d→a.tmps[d]?=some v) →
   (∀ t,writerOf ops t=none→a.tmps[t]?=a0.tmps[t]?)→Q .normal a w) :
  ∀ (n:Nat) (L:Array Bool) (a:Act) (w:World),DagInv ops E w0 Φ a0 L a w→J L a w→(L.toList.filter (· == false)).length≤n→wpAny P .any ops.toArray Q n L a w:=by
 have fin:∀ (L:Array Bool) (a:Act) (w:World),DagInv ops E w0 Φ a0 L a w→J L a w→Region.ready .any ops.toArray L=[]→Q .normal a w:=by
  intro L a w hI hJ hr
  have hall:=dag_ready_nil hok hI.len hr
  refine hend L a w hJ hall hI.ext hI.size hI.defers (fun i o ho=>by
   obtain ⟨v,hv,hd⟩:=hI.done i o ho (hall i (List.getElem?_eq_some_iff.1 ho).1)
   exact ⟨v,hv,fun d hod=>hd d hod (by rw [hN];exact ((dagOk_at hok ho).2.1 d hod).2)⟩) fun t ht=>hI.rest t fun i o ho _=>writerOf_none ht i o ho
 intro n
 induction n with
 | zero =>
  intro L a w hI hJ hn
  have hr:Region.ready .any ops.toArray L=[]:=by
   cases hx:Region.ready .any ops.toArray L with
   | nil=>rfl
   | cons x xs =>
    exfalso
    have hm:x ∈ Region.ready .any ops.toArray L:=by rw [hx];exact List.mem_cons_self
    unfold Region.ready at hm
    rw [List.mem_filter] at hm
    have hxl:x<L.size:=by rw [hI.len];simpa using hm.1
    have hf:L[x]=false:=by
     have:=hm.2
     simp [hxl] at this
     exact this.1
    have:false ∈ L.toList.filter (· == false):=by
     rw [List.mem_filter]
     exact ⟨by rw [← hf];simp,rfl⟩
    have:=List.length_pos_of_mem this
    omega
  exact ⟨hr,fin L a w hI hJ hr⟩
 | succ n ih =>
  intro L a w hI hJ hn
  refine ⟨fin L a w hI hJ,fun i hi=>?_⟩
  have hi':=hi
  unfold Region.ready at hi'
  rw [List.mem_filter] at hi'
  have hlt:i<ops.length:=by simpa using hi'.1
  have hil:i<L.size:=by rw [hI.len];exact hlt
  have ho:ops[i]?=some ops[i]:=List.getElem?_eq_getElem hlt
  have h2:=hi'.2
  rw [show ops.toArray[i]?=some ops[i] by simp [hlt]] at h2
  simp only [Option.map_some,Option.getD_some,Bool.and_eq_true] at h2
  have hf:L[i]?=some false:=by
   have:=h2.1
   simp [hil] at this
   simp [hil,this]
  have hshut:∀ j,hangsOn ops[i] j=true→L[j]?=some true:=by
   intro j hj
   unfold hangsOn at hj
   rw [Array.any_eq_true] at hj
   obtain ⟨k,hk,hkj⟩:=hj
   have:=Array.all_eq_true.1 h2.2 k hk
   simp only [Bool.and_eq_true,beq_iff_eq] at hkj
   rw [hkj.2] at this
   simp only [Bool.not_true,Bool.false_or] at this
   rw [hkj.1] at this
   have hjl:j<L.size:=by
    have:=(dagOk_at hok ho).1 j (by unfold hangsOn;rw [Array.any_eq_true];exact ⟨k,hk,by simp [hkj]⟩)
    omega
   simpa [hjl] using this
  have hcount:((L.setIfInBounds i true).toList.filter (· == false)).length≤n:=by
   have hc:∀ (l:List Bool) (k:Nat),l[k]?=some false→((l.set k true).filter (· == false)).length+1=(l.filter (· == false)).length:=by
    intro l
    induction l with
    | nil=>intro k h;simp at h
    | cons b l ih =>
     intro k h
     cases k with
     | zero=>simp at h;subst h;simp
     | succ k =>
      have:=ih k (by simpa using h)
      cases b <;> simp at this ⊢ <;> omega
   have h3:=hc L.toList i (by simpa using hf)
   rw [Array.toList_setIfInBounds]
   omega
  have h1:=allOpsJ_get ops 0 hone i ops[i] ho
  rw [Nat.zero_add] at h1
  have h4:=h1 L a w hI.ext hJ hI.len hf hshut hI.size hI.defers (dag_looks hok hN hI ho hf hshut)
  have hK:∀ v w',Φ i v w' → E w w' → J (L.setIfInBounds i true) (a.put ops[i].dst v) w' → wpAny P .any ops.toArray Q n (L.setIfInBounds i true) (a.put ops[i].dst v) w':=
   fun v w' hv hE hj=>ih _ _ _ (dag_step hok hst htr hI ho hshut hv hE) hj hcount
  unfold wpOp
  rw [show ops.toArray[i]?=some ops[i] by simp [hlt]]
  simp only [wpList] at h4
  dsimp only
  have key:∀ K':Act→World→Prop,(∀ a' w',(∃ v,a'=a.put ops[i].dst v∧Φ i v w' ∧ E w w' ∧ J (L.setIfInBounds i true) a' w')→K' a' w') →
    Oper.wp P ops[i] a w (fun a' w'=>∃ v,a'=a.put ops[i].dst v∧Φ i v w' ∧ E w w' ∧ J (L.setIfInBounds i true) a' w') (Exit.then (fun a' w'=>∃ v,a'=a.put ops[i].dst v∧Φ i v w' ∧ E w w' ∧ J (L.setIfInBounds i true) a' w') Q)→Oper.wp P ops[i] a w K' Q:=by
   intro K' hK' h
   unfold Oper.wp at *
   generalize (execOp a.eval ops[i]).run P w=r at *
   cases r with
   | ok x w' =>
    cases x <;> simp only [Oper.upon] at h ⊢ <;>
     first
      | exact hK' _ _ h
      | exact Calls.mono h (fun e w'' he=>by
        cases e with
        | returned v=>exact hK' _ _ he
        | panicked ch=>exact he
        | outgrown=>obtain ⟨x,y,hq⟩:=he;exact ⟨x,y,hq⟩)
      | exact Rows.mono h (fun _ _ he=>hK' _ _ he)
   | halt x w'=>cases x <;> simp only [Oper.upon] at h ⊢ <;> exact h
  split
  ·rename_i hw
   rw [if_pos hw] at h4
   rcases h4 with h4 | ⟨h4,x,y,hq⟩
   ·exact .inl (key _ (fun a' w' ⟨v,e,hv,hE,hj⟩=>by rw [e] at hj ⊢;exact hK v w' hv hE hj) h4)
   ·exact .inr ⟨h4,x,y,hq⟩
  ·rename_i hw
   rw [if_neg hw] at h4
   obtain ⟨v,e,hv,hE,hj⟩:=h4
   rw [e] at hj ⊢
   exact hK v w hv hE hj
theorem wp_region_dagJ {id:Nat} (hm:P.follows .mixedOrders=true) (N:Nat) (hN:a0.tmps.size=N) (hok:dagOk N ops=true) {w:World}
  (hst:∀ i v w w',Φ i v w→E w w' → Φ i v w') (hj0:J (Array.replicate ops.length false) a0 { w with drawn:=w.drawn+1 }) (hrf:E w0 { w with drawn:=w.drawn+1 }) (htr:∀ w w',E w0 w→E w w' → E w0 w')
  (hone:allOpsJ P ops Q E J w0 Φ a0 0 ops)
  (hend:∀ L a w,J L a w→(∀ i,i<ops.length→L[i]?=some true)→E w0 w→a.tmps.size=a0.tmps.size→a.defers=a0.defers→(∀ i o,ops[i]?=some o→∃ v,Φ i v w∧∀ d,o.dst=some d→a.tmps[d]?=some v) →
   (∀ t,writerOf ops t=none→a.tmps[t]?=a0.tmps[t]?)→Q .normal a w) :
  (Code.region id ops.toArray true).wp P Q a0 w:=by
 refine wp_region_any hm ?_
 refine dag_anyJ hok hN hst htr hone hend _ _ _ _ ⟨hrf,rfl,rfl,by simp,?_,?_,?_⟩ (by simpa using hj0) ?_
 ·intro i o ho h;simp [Array.getElem?_replicate] at h
 ·intro t _;rfl
 ·intro i o ho h;simp [Array.getElem?_replicate] at h
 ·simp
end
end Go.Proofs.YtigmdlchbjanoaaGreatDoor
namespace Go.Proofs.YtigmdlchbjanoaaGreatDoor
open Go Go.RowKit Go.Extern.Stop Go.Stop Go.Extern
theorem isTypeOf (v:Value) (w:World):(Extern.ReflectliteType.typeOf #[.iface 151 v]).run Tryz.prog w=.ok (.iface 122 (.agg #[.pointer (some ⟨21,151,none⟩)])) w:=by kernel_rfl
def cmpF:Array Value→Sem Value:=Extern.ReflectliteType.method fun t=>do Extern.Rtype.noPackHeld "Comparable" t;pure (.bool (← typeInfo t).comparable)
theorem isComparable (w:World):(cmpF #[.agg #[.pointer (some ⟨21,151,none⟩)]]).run Tryz.prog w=.ok (.bool true) w:=by kernel_rfl
theorem isMethodComparable (v:Value) (w:World):(Go.method (184+100) 122 v "Comparable").run Tryz.prog w=.ok (115,v) w:=by kernel_rfl
theorem isComp:(Tryz.prog.info? 151).map (·.comparable)=some true:=by kernel_rfl
theorem isSize:(Tryz.prog.info? 174).map (·.size)=some 1:=by kernel_rfl
theorem noIsE (v:Value) (xT:TypeId) (w:World):(Instr.typeAssert (.iface 151 v) xT 124 true).run Tryz.prog w=.ok (.tuple #[.nilIface,.bool false]) w:=run_typeAssert_lacksB Tryz.underlying124 (by kernel_rfl) (by kernel_rfl) v xT w
theorem noUnwrapE (v:Value) (xT:TypeId) (w:World):(Instr.typeAssert (.iface 151 v) xT 127 true).run Tryz.prog w=.ok (.tuple #[.nilIface,.bool false]) w:=run_typeAssert_lacksB Tryz.underlying127 (by kernel_rfl) (by kernel_rfl) v xT w
theorem noUnwrapsE (v:Value) (xT:TypeId) (w:World):(Instr.typeAssert (.iface 151 v) xT 129 true).run Tryz.prog w=.ok (.tuple #[.nilIface,.bool false]) w:=run_typeAssert_lacksB Tryz.underlying129 (by kernel_rfl) (by kernel_rfl) v xT w
theorem is_same (a:Addr) (w:World) :
  Calls Tryz.prog 33 #[.iface 151 (.pointer (some a)),.iface 151 (.pointer (some a))] w fun e w'=>e=.returned (.bool true)∧w=w':=by
 obtain ⟨i,hi,hcmp⟩:=Option.map_eq_some_iff.1 isComp
 obtain ⟨j,hj,hjs⟩:=Option.map_eq_some_iff.1 isSize
 have h8:=@run_callFunc_extern Tryz.prog 55 _ Extern.ReflectliteType.typeOf Tryz.func55 (by kernel_rfl) (by kernel_rfl) (by kernel_rfl) (by kernel_rfl)
 have h32:=@run_callFunc_extern Tryz.prog 115 _ cmpF Tryz.func115 (by kernel_rfl) (by kernel_rfl) (by kernel_rfl) (by kernel_rfl)
 have tT:=isTypeOf
 have cT:=isComparable
 have mR:=isMethodComparable
 have heq:=run_eql_iface_ptr_same (P:=Tryz.prog) w a Tryz.underlying30 Tryz.underlying151 hi hcmp hj
 go_enter Tryz.func33,Tryz.ntmps33
 go_wp2
 refine wp_loop_rounds 1 ?_
 rw [rounds_succ]
 go_wp2
 go_ret
 exact ⟨rfl,rfl⟩
theorem is_other (a b:Addr) (ca cb:Array Value) (ta tb:TypeId) (w:World) (hne:a ≠ b) (ha:w.heap[a.block]?=some (.cells ca ta (0,0))) (hb:w.heap[b.block]?=some (.cells cb tb (0,0))) :
  Calls Tryz.prog 33 #[.iface 151 (.pointer (some a)),.iface 151 (.pointer (some b))] w fun e w'=>e=.returned (.bool false)∧w=w':=by
 obtain ⟨i,hi,hcmp⟩:=Option.map_eq_some_iff.1 isComp
 obtain ⟨j,hj,hjs⟩:=Option.map_eq_some_iff.1 isSize
 have h8:=@run_callFunc_extern Tryz.prog 55 _ Extern.ReflectliteType.typeOf Tryz.func55 (by kernel_rfl) (by kernel_rfl) (by kernel_rfl) (by kernel_rfl)
 have h32:=@run_callFunc_extern Tryz.prog 115 _ cmpF Tryz.func115 (by kernel_rfl) (by kernel_rfl) (by kernel_rfl) (by kernel_rfl)
 have tT:=isTypeOf
 have cT:=isComparable
 have mR:=isMethodComparable
 have nE:=noIsE
 have uE:=noUnwrapE
 have vE:=noUnwrapsE
 have heq:=run_eql_iface_ptr_other (P:=Tryz.prog) w Tryz.underlying30 Tryz.underlying151 hi hcmp hj (by rw [hjs];decide) hne ha hb
 go_enter Tryz.func33,Tryz.ntmps33
 go_wp2
 refine wp_loop_rounds 1 ?_
 rw [rounds_succ]
 go_wp2
 go_ret
 exact ⟨rfl,rfl⟩
end Go.Proofs.YtigmdlchbjanoaaGreatDoor
namespace Go.Proofs.YtigmdlchbjanoaaGreatDoor
open Go Go.RowKit Go.ChangeShapes
def errGs:List Nat:=[5,6,7,3,4,8,9,10,0,11,12,13,14,15,1,16]
structure Errs (W:World) (E:Nat→Addr):Prop where
 sent:∀ i g,errGs[i]?=some g→Sent W 151 g (E i)
 ne:∀ i j,i<j→j<16→E i ≠ E j
theorem Errs.keep {W W':World} {E:Nat→Addr} (h:Errs W E) (hb:Ext W W'):Errs W' E:=⟨fun i g hg=>(h.sent i g hg).keep hb (Nat.le_refl _),h.ne⟩
theorem starS : "*" ++ "errors.errorString" = "*errors.errorString" := by decide
theorem nameOne (u:TypeId) (h:Tryz.prog.typeName? 3 u=some "*errors.errorString"):u=151:=
 typeName_ptr_named (nm := "errors.errorString") (by rw [starS];kernel_rfl) (by kernel_rfl) (by decide) u (by rw [starS];exact h)
theorem errs_of {W:World} (L:List (String × List UInt8)) (gs:List Nat) (h:laidMet Tryz.prog (L.map fun x=>(x.1,.iface "*errors.errorString" (.ptr (.agg [.lit (.string x.2)])))) W)
  (hg:L.map (fun x=>Tryz.prog.globalNamed x.1)=gs.map some) (ht:∀ g ∈ gs,(Tryz.prog.globals[g]?).map (·.type)=some 30) (hgs:gs=errGs):∃ E,Errs W E:=by
 subst hgs
 obtain ⟨ads,h1,h2,h3⟩:=laid_sents Tryz.underlying30 nameOne Tryz.underlying151 Tryz.underlying174 rfl rfl Tryz.underlying9 (by kernel_rfl) (by kernel_rfl) L errGs h hg ht
 have h16:ads.length=16:=h1
 refine ⟨fun i=>ads.getD i ⟨0,0,none⟩,fun i g hg=>?_,fun i j hij hj=>?_⟩
 ·have hi:i<ads.length:=by have:=(List.getElem?_eq_some_iff.1 hg).1;rw [h1];exact this
  have e:ads[i]?=some (ads.getD i ⟨0,0,none⟩):=by simp [List.getD,hi]
  exact h3 i g _ hg e
 ·have hi':i<ads.length:=by omega
  have hj':j<ads.length:=by omega
  simp only [List.getD,List.getElem?_eq_getElem hi',List.getElem?_eq_getElem hj',Option.getD_some]
  intro e
  exact absurd (List.getElem_inj h2 |>.1 e) (by omega)
def errV (E:Nat→Addr) (i:Nat):Value:=.iface 151 (.pointer (some (E i)))
theorem Errs.cell {W:World} {E:Nat→Addr} (h:Errs W E) {i g:Nat} (hg:errGs[i]?=some g):W.cell? ⟨g,0,none⟩=some (errV E i):=(h.sent i g hg).var
set_option maxHeartbeats 1000000 in
set_option maxRecDepth 20000 in
theorem numAll (E:Nat→Addr) (w:World) (h:Errs w E) :
  Calls Tryz.prog 32 #[] w fun e w'=>e=.returned (.slice (some ⟨w.heap.size,0,none⟩) 16 16)∧Blk w' w.heap.size 30 ((List.range 16).map (errV E))∧Ext w w':=by
 have g0:=h.cell (i:=0) rfl
 have g1:=h.cell (i:=1) rfl
 have g2:=h.cell (i:=2) rfl
 have g3:=h.cell (i:=3) rfl
 have g4:=h.cell (i:=4) rfl
 have g5:=h.cell (i:=5) rfl
 have g6:=h.cell (i:=6) rfl
 have g7:=h.cell (i:=7) rfl
 have g8:=h.cell (i:=8) rfl
 have g9:=h.cell (i:=9) rfl
 have g10:=h.cell (i:=10) rfl
 have g11:=h.cell (i:=11) rfl
 have g12:=h.cell (i:=12) rfl
 have g13:=h.cell (i:=13) rfl
 have g14:=h.cell (i:=14) rfl
 have g15:=h.cell (i:=15) rfl
 unfold errV at *
 go_enter Tryz.func32,Tryz.ntmps32
 go_wp2
 go_ret
 exact ⟨rfl,Blk.newL w 30 [errV E 0,errV E 1,errV E 2,errV E 3,errV E 4,errV E 5,errV E 6,errV E 7,errV E 8,errV E 9,errV E 10,errV E 11,errV E 12,errV E 13,errV E 14,errV E 15],(Below.refl _ _).alloc (Nat.le_refl _) _⟩
set_option maxHeartbeats 400000 in
theorem numNil (w:World):Calls Tryz.prog 11 #[.nilIface] w fun e w'=>e=.returned (.int .i64 0)∧w=w':=by
 go_enter Tryz.func11,Tryz.ntmps11
 go_wp2
 go_ret
 exact ⟨rfl,rfl⟩
set_option maxHeartbeats 1000000 in
set_option maxRecDepth 20000 in
theorem numErr (E:Nat→Addr) (i:Nat) (w:World) (h:Errs w E) (hi:i<16) :
  Calls Tryz.prog 11 #[errV E i] w fun e w'=>e=.returned (.int .i64 ((i:Int)+1))∧Ext w w':=by
 unfold errV
 go_enter Tryz.func11,Tryz.ntmps11
 have hn:=fun w=>run_eql_iface_nil (P:=Tryz.prog) (w:=w) 30 (by kernel_rfl) 151 (.pointer (some (E i)))
 go_wp2_with (go_at_call 32;refine (numAll E _ h).mono ?_;rintro e w1 ⟨rfl,hB,hb1⟩)
 have he1:=h.keep hb1
 have hi15:(i:Int)<16:=by omega
 go_loopw [9] (fun v wr=>∃ k:Nat,k≤i∧v=.int .i64 k∧wr=w1) (fun v _=>16-(intOf v).toNat)
 case atStart=>exact ⟨0,Nat.zero_le _,rfl,rfl⟩
 case round =>
  obtain ⟨k,hk,rfl,hwr⟩:=hrel
  subst hwr
  have hc:wr.cell? ⟨w.heap.size,k,none⟩=some (.iface 151 (.pointer (some (E k)))):=by
   rw [hB.cell];simp [errV,show k<16 by omega]
  have hk16:(k:Int)<16:=by omega
  by_cases hki:k=i
  ·subst hki
   go_wp2_with (go_at_call 33;refine (is_same _ _).mono ?_;rintro e w2 ⟨rfl,rfl⟩)
   go_ret
   exact ⟨rfl,hb1⟩
  ·obtain ⟨g1,hg1⟩:∃ g,errGs[k]?=some g:=⟨_,List.getElem?_eq_getElem (show k<errGs.length by show k<16;omega)⟩
   obtain ⟨g2,hg2⟩:∃ g,errGs[i]?=some g:=⟨_,List.getElem?_eq_getElem (show i<errGs.length by show i<16;omega)⟩
   obtain ⟨ca,ta,hA⟩:=(he1.sent k g1 hg1).blk
   obtain ⟨cb,tb,hBk⟩:=(he1.sent i g2 hg2).blk
   have hne:=he1.ne k i (by omega) hi
   have HNE:=Lib.hid hne
   have HA:=Lib.hid hA
   have HBK:=Lib.hid hBk
   have hkl:k+1≤i:=by omega
   clear hne hA hBk hg1 hg2 hki
   go_wp2_with (go_at_call 33;refine (is_other _ _ _ _ _ _ _ (Ne.symm HNE.out) HBK.out HA.out).mono ?_;rintro e w2 ⟨rfl,rfl⟩)
   go_roundw
   case rel=>exact ⟨k+1,hkl,by go_num,trivial⟩
   case measure=>simp [intOf];omega
end Go.Proofs.YtigmdlchbjanoaaGreatDoor
namespace Go.Proofs.YtigmdlchbjanoaaGreatDoor
open Go Go.RowKit Go.ChangeShapes
structure ErrC (I:List Nat) (w:World) (E:Nat→Addr):Prop where
 cell:∀ {i g:Nat},i ∈ I→errGs[i]?=some g→w.cell? ⟨g,0,none⟩=some (errV E i)
theorem ErrC.keep {I:List Nat} {w w':World} {E:Nat→Addr} (h:ErrC I w E) (hb:Ext w w'):ErrC I w' E:=
 ⟨fun {i g} hi hg=>by
  have hc:=h.cell hi hg
  have hl:g<w.heap.size:=by
   rcases Nat.lt_or_ge g w.heap.size with h' | h'
   ·exact h'
   ·simp [World.cell?,Array.getElem?_eq_none h'] at hc
  exact (hb.cell (p:=⟨g,0,none⟩) hl).trans hc⟩
theorem ErrC.below {I:List Nat} {w w':World} {E:Nat→Addr} (h:ErrC I w E) {B:Nat} (hb:Below B w w') (hB:w.heap.size≤B):ErrC I w' E:=h.keep (hb.mono hB)
theorem Errs.some {w:World} {E:Nat→Addr} (h:Errs w E) (I:List Nat):ErrC I w E:=⟨fun _ hg=>h.cell hg⟩
theorem ErrC.sub {I J:List Nat} {w:World} {E:Nat→Addr} (h:ErrC I w E) (hs:∀ j ∈ J,j ∈ I):ErrC J w E:=⟨fun hi hg=>h.cell (hs _ hi) hg⟩
end Go.Proofs.YtigmdlchbjanoaaGreatDoor
