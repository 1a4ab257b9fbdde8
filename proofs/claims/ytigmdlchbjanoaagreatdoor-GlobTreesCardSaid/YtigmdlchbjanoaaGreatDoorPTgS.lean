/- Put together: Dn1, Dn2, Dn3, Dn4, Dn5. -/
import Derived.Test.YtigmdlchbjanoaaGreatDoorPTgL
import Derived.Test.YtigmdlchbjanoaaGreatDoorPTgC
import Derived.Deep.MidRow
import Derived.Great.FillDense
import Derived.Great.BuildSlice
import Derived.Test.YtigmdlchbjanoaaGreatDoorPTgA
import Derived.Test.YtigmdlchbjanoaaGreatDoorPTgN
import Derived.Test.YtigmdlchbjanoaaGreatDoorPTgM
namespace Go.Proofs.YtigmdlchbjanoaaGreatDoor
open Go Go.RowKit
def dnC (k m:Int) (z:Bool) (p:Nat→Bool) (A:Option Addr) (n c:Nat):List Value:=[.int .i64 k,.int .i64 m,.bool z] ++ (bcs p).toList ++ [.slice A n c]
theorem dn_len (k m:Int) (z:Bool) (p:Nat→Bool) (A:Option Addr) (n c:Nat):(dnC k m z p A n c).length=260:=by
 unfold dnC
 have:=bcs_size p
 simp only [List.length_append,List.length_cons,List.length_nil,Array.length_toList]
 omega
theorem dn_0 (k m:Int) (z:Bool) (p:Nat→Bool) (A:Option Addr) (n c:Nat):(dnC k m z p A n c)[0]?=some (.int .i64 k):=rfl
theorem dn_1 (k m:Int) (z:Bool) (p:Nat→Bool) (A:Option Addr) (n c:Nat):(dnC k m z p A n c)[1]?=some (.int .i64 m):=rfl
theorem dn_2 (k m:Int) (z:Bool) (p:Nat→Bool) (A:Option Addr) (n c:Nat):(dnC k m z p A n c)[2]?=some (.bool z):=rfl
theorem dn_set (k m:Int) (z:Bool) (p:Nat→Bool) (A:Option Addr) (n c:Nat) {j:Nat} (hj:j<256):(dnC k m z p A n c)[3+j]?=some (.bool (p j)):=by
 unfold dnC
 have hs:=bcs_size p
 have h1:=bcs_get p hj
 rw [List.append_assoc,List.getElem?_append_right (by simp),List.getElem?_append_left (by simp;omega)]
 simp only [List.length_cons,List.length_nil]
 rw [show 3+j-(0+1+1+1)=j by omega,Array.getElem?_toList,h1]
theorem dn_259 (k m:Int) (z:Bool) (p:Nat→Bool) (A:Option Addr) (n c:Nat):(dnC k m z p A n c)[259]?=some (.slice A n c):=by
 unfold dnC
 have hs:=bcs_size p
 rw [List.getElem?_append_right (by simp;omega)]
 simp [hs]
theorem dn_one (k m:Int) (z:Bool) (p:Nat→Bool) (A:Option Addr) (n c:Nat):(dnC k m z p A n c).all (·.oneCell')=true:=by
 unfold dnC
 have h:(bcs p).toList.all (·.oneCell')=true:=by rw [Array.all_toList];exact bcs_one p
 rw [List.all_append,List.all_append,h]
 rfl
theorem dn_k {k m:Int} {z:Bool} {p:Nat→Bool} {A:Option Addr} {n c:Nat} {k' m':Int} {z':Bool} {p':Nat→Bool} {A':Option Addr} {n' c':Nat} (h:dnC k m z p A n c=dnC k' m' z' p' A' n' c'):k=k' ∧ m=m' ∧ z=z' ∧ (∀ j,j<256→p j=p' j)∧A=A' ∧ n=n' ∧ c=c':=by
 have e0:=dn_0 k m z p A n c
 have e1:=dn_1 k m z p A n c
 have e2:=dn_2 k m z p A n c
 have e3:=dn_259 k m z p A n c
 rw [h,dn_0] at e0
 rw [h,dn_1] at e1
 rw [h,dn_2] at e2
 rw [h,dn_259] at e3
 simp only [Option.some.injEq,Value.int.injEq,Value.bool.injEq,Value.slice.injEq,true_and] at e0 e1 e2 e3
 refine ⟨e0.symm,e1.symm,e2.symm,fun j hj=>?_,e3.1.symm,e3.2.1.symm,e3.2.2.symm⟩
 have e4:=dn_set k m z p A n c hj
 rw [h,dn_set _ _ _ _ _ _ _ hj] at e4
 simpa using e4.symm
theorem dn_congr {k m:Int} {z:Bool} {p q:Nat→Bool} {A:Option Addr} {n c:Nat} (h:∀ j,j<256→p j=q j):dnC k m z p A n c=dnC k m z q A n c:=by
 unfold dnC
 rw [bcs_congr h]
theorem dn_size:(Tryz.prog.info? 38).map (·.size)=some 260:=by kernel_rfl
attribute [irreducible] dnC
mutual
def DNodeV (S:Nat→Prop) (w:World):T→List Value→Prop
 | .node k m z p ks,v=>∃ A c cs,v=dnC k m z p A ks.length c∧ks.length≤c∧c≤maxLen∧Rd w 260 A ks.length cs∧(∀ b o x,A=some ⟨b,o,x⟩→0<ks.length→S b)∧DKidsV S w ks cs
def DKidsV (S:Nat→Prop) (w:World):List T→List Value→Prop
 | [],cs=>cs=[]
 | t :: ts,cs=>∃ v cs',cs=v ++ cs' ∧ DNodeV S w t v∧DKidsV S w ts cs'
end
theorem dnodeV_len {S:Nat→Prop} {w:World} {t:T} {v:List Value} (h:DNodeV S w t v):v.length=260:=by
 cases t
 unfold DNodeV at h
 obtain ⟨A,c,cs,rfl,_⟩:=h
 exact dn_len _ _ _ _ _ _ _
theorem dkidsV_len {S:Nat→Prop} {w:World}:∀ {ks:List T} {cs:List Value},DKidsV S w ks cs→cs.length=ks.length*260:=by
 intro ks
 induction ks with
 | nil=>intro cs h;unfold DKidsV at h;subst h;rfl
 | cons t ts ih =>
  intro cs h
  unfold DKidsV at h
  obtain ⟨v,cs',rfl,h1,h2⟩:=h
  rw [List.length_append,dnodeV_len h1,ih h2,List.length_cons]
  omega
theorem dkidsV_at {S:Nat→Prop} {w:World}:∀ {ks:List T} {cs:List Value},DKidsV S w ks cs→∀ {i:Nat} (hi:i<ks.length),∃ v,DNodeV S w (ks[i]'hi) v∧∀ j,j<260→cs[i*260+j]?=v[j]?:=by
 intro ks
 induction ks with
 | nil=>intro cs _ i hi;simp at hi
 | cons t ts ih =>
  intro cs h i hi
  unfold DKidsV at h
  obtain ⟨v,cs',rfl,h1,h2⟩:=h
  have hv:=dnodeV_len h1
  cases i with
  | zero=>exact ⟨v,h1,fun j hj=>by rw [List.getElem?_append_left (by omega)];simp⟩
  | succ i =>
   obtain ⟨u,hu,hc⟩:=ih h2 (i:=i) (by simpa using hi)
   refine ⟨u,by simpa using hu,fun j hj=>?_⟩
   rw [List.getElem?_append_right (by omega),show (i+1)*260+j-v.length=i*260+j by omega]
   exact hc j hj
theorem dkidsV_append {S:Nat→Prop} {w:World}:∀ {ks ls:List T} {cs ds:List Value},DKidsV S w ks cs→DKidsV S w ls ds→DKidsV S w (ks ++ ls) (cs ++ ds):=by
 intro ks
 induction ks with
 | nil=>intro ls cs ds h h2;unfold DKidsV at h;subst h;exact h2
 | cons t ts ih =>
  intro ls cs ds h h2
  unfold DKidsV at h
  obtain ⟨v,cs',rfl,h3,h4⟩:=h
  rw [List.cons_append]
  unfold DKidsV
  exact ⟨v,cs' ++ ds,by rw [List.append_assoc],h3,ih h4 h2⟩
theorem dkidsV_one {S:Nat→Prop} {w:World} {t:T} {v:List Value} (h:DNodeV S w t v):DKidsV S w [t] v:=by
 unfold DKidsV
 exact ⟨v,[],by simp,h,by unfold DKidsV;rfl⟩
theorem dnodeV_stay {S S':Nat→Prop} {w w':World} (hs:w.heap.size≤w'.heap.size) (hk:∀ b,S b→b<w.heap.size→S' b∧w'.heap[b]?=w.heap[b]?):∀ (n:Nat) (t:T),t.size≤n→∀ v,DNodeV S w t v→DNodeV S' w' t v:=by
 intro n
 induction n with
 | zero=>intro t ht;have:=size_pos t;omega
 | succ n ih =>
  intro t ht v h
  cases t with
  | node k m z p ks =>
   unfold DNodeV at h ⊢
   obtain ⟨A,c,cs,rfl,h1,h2,h3,h4,h5⟩:=h
   rw [size_node] at ht
   have hkids:∀ (ls:List T) (ds:List Value),(∀ x ∈ ls,x ∈ ks)→DKidsV S w ls ds→DKidsV S' w' ls ds:=by
    intro ls
    induction ls with
    | nil=>intro ds _ h;unfold DKidsV at h ⊢;exact h
    | cons x r ih2 =>
     intro ds hm h
     unfold DKidsV at h ⊢
     obtain ⟨u,ds',e,h6,h7⟩:=h
     have hx:=sizeL_mem (hm x List.mem_cons_self)
     exact ⟨u,ds',e,ih x (by omega) u h6,ih2 ds' (fun y hy=>hm y (List.mem_cons_of_mem _ hy)) h7⟩
   refine ⟨A,c,cs,rfl,h1,h2,⟨h3.1,fun hp=>?_⟩,fun b o x e hp=>?_,hkids ks cs (fun _ h=>h) h5⟩
   ·obtain ⟨b,o,e,hb,hc⟩:=h3.2 hp
    have hb2:=hk b (h4 b o none e (by have:=h3.1;omega)) hb
    exact ⟨b,o,e,by omega,fun j u hu=>(World.cell?_of_block hb2.2).trans (hc j u hu)⟩
   ·obtain ⟨b',o',e',hb,_⟩:=h3.2 (by rw [h3.1];omega)
    rw [e] at e'
    cases e'
    exact (hk _ (h4 _ _ _ e hp) hb).1
theorem DNodeV.keep {S:Nat→Prop} {w w':World} {t:T} {v:List Value} (h:DNodeV S w t v) (hx:Ext w w'):DNodeV S w' t v:=
 dnodeV_stay hx.size (fun b hb hlt=>⟨hb,hx.block b hlt⟩) t.size t (Nat.le_refl _) v h
theorem DNodeV.mono {S S':Nat→Prop} {w:World} {t:T} {v:List Value} (h:DNodeV S w t v) (hs:∀ b,b<w.heap.size→S b→S' b):DNodeV S' w t v:=
 dnodeV_stay (Nat.le_refl _) (fun b hb hlt=>⟨hs b hlt hb,rfl⟩) t.size t (Nat.le_refl _) v h
theorem DNodeV.chg {S:Nat→Prop} {w w':World} {t:T} {v:List Value} {X:List Nat} (h:DNodeV S w t v) (hx:Chg X w w') (hs:∀ x ∈ X,¬ S x):DNodeV S w' t v:=
 dnodeV_stay hx.size (fun b hb hlt=>⟨hb,hx.block b hlt (fun hm=>hs b hm hb)⟩) t.size t (Nat.le_refl _) v h
theorem DNodeV.grew {S:Nat→Prop} {w w':World} {t:T} {v:List Value} {base:Nat} {u:Value} (h:DNodeV S w t v) (hx:Grew base w w' u) (hs:∀ b,S b→some b ≠ u.ownBlock):DNodeV S w' t v:=
 dnodeV_stay hx.size (fun b hb hlt=>⟨hb,hx.by_.block b hlt (hs b hb)⟩) t.size t (Nat.le_refl _) v h
theorem dkidsV_map {S S':Nat→Prop} {w w':World} (hf:∀ t v,DNodeV S w t v→DNodeV S' w' t v):∀ {ks:List T} {cs:List Value},DKidsV S w ks cs→DKidsV S' w' ks cs:=by
 intro ks
 induction ks with
 | nil=>intro cs h;unfold DKidsV at h ⊢;exact h
 | cons t ts ih =>
  intro cs h
  unfold DKidsV at h ⊢
  obtain ⟨v,cs',e,h1,h2⟩:=h
  exact ⟨v,cs',e,hf _ _ h1,ih h2⟩
theorem dkid_at {S:Nat→Prop} {w:World} {A:Option Addr} {ks:List T} {cs:List Value} (hR:Rd w 260 A ks.length cs) (hK:DKidsV S w ks cs) {i:Nat} (hi:i<ks.length) :
  ∃ b o k m z p B n c,A=some ⟨b,o,none⟩∧DNodeV S w (ks[i]'hi) (dnC k m z p B n c)∧Hid (∀ w',Ext w w' → w'.rangeAt b (o+i*260) (dnC k m z p B n c)):=by
 obtain ⟨v,hv,hc⟩:=dkidsV_at hK hi
 have hl:=dkidsV_len hK
 obtain ⟨b,o,rfl,hb,hcell⟩:=hR.2 (by omega)
 have hform:∃ k m z p B n c,v=dnC k m z p B n c:=by
  generalize ks[i]'hi=t at hv
  cases t
  unfold DNodeV at hv
  obtain ⟨B,c,_,e,_⟩:=hv
  exact ⟨_,_,_,_,_,_,_,e⟩
 obtain ⟨k,m,z,p,B,n,c,rfl⟩:=hform
 refine ⟨b,o,k,m,z,p,B,n,c,rfl,hv,Lib.hid fun w' hx j x hj=>?_⟩
 have hlt:j<260:=by
  have:=(List.getElem?_eq_some_iff.1 hj).1
  rw [dn_len] at this
  exact this
 have:=hcell (i*260+j) x (by rw [hc j hlt];exact hj)
 rw [show o+i*260+j=o+(i*260+j) by omega]
 exact (hx.cell (p:=⟨b,o+(i*260+j),none⟩) hb).trans this
theorem dnodeV_form {S:Nat→Prop} {w:World} {t:T} {v:List Value} (h:DNodeV S w t v):∃ k m z p B n c,v=dnC k m z p B n c:=by
 cases t
 unfold DNodeV at h
 obtain ⟨B,c,_,e,_⟩:=h
 exact ⟨_,_,_,_,_,_,_,e⟩
def DB (w:World) (g:Nat) (k m:Int) (z:Bool) (p:Nat→Bool) (A:Option Addr) (n c:Nat):Prop:=Blk w g 38 (dnC k m z p A n c)
section
variable {w w':World} {g:Nat} {k m:Int} {z:Bool} {p:Nat→Bool} {A:Option Addr} {n c:Nat}
theorem DB.new (w:World) (k m:Int) (z:Bool) (p:Nat→Bool) (A:Option Addr) (n c:Nat):DB (w.alloc (.cells (dnC k m z p A n c).toArray 38)) w.heap.size k m z p A n c:=Blk.newL w _ _
theorem DB.keep (h:DB w g k m z p A n c) (hx:Ext w w'):DB w' g k m z p A n c:=Blk.keep h hx
theorem DB.lt (h:DB w g k m z p A n c):g<w.heap.size:=Blk.lt h
theorem DB.kind (h:DB w g k m z p A n c):w.cell? ⟨g,0,none⟩=some (.int .i64 k):=(Blk.cell h 0).trans (dn_0 _ _ _ _ _ _ _)
theorem DB.num (h:DB w g k m z p A n c):w.cell? ⟨g,1,none⟩=some (.int .i64 m):=(Blk.cell h 1).trans (dn_1 _ _ _ _ _ _ _)
theorem DB.lazy (h:DB w g k m z p A n c):w.cell? ⟨g,2,none⟩=some (.bool z):=(Blk.cell h 2).trans (dn_2 _ _ _ _ _ _ _)
theorem DB.kids (h:DB w g k m z p A n c):w.cell? ⟨g,259,none⟩=some (.slice A n c):=(Blk.cell h 259).trans (dn_259 _ _ _ _ _ _ _)
theorem DB.set (h:DB w g k m z p A n c):w.rangeAt g 3 (bcs p).toList:=fun j v hj=>by
 have hlt:j<256:=by
  have:=(List.getElem?_eq_some_iff.1 hj).1
  have hs:=bcs_size p
  rw [Array.length_toList] at this
  omega
 rw [Array.getElem?_toList,bcs_get p hlt] at hj
 rw [Blk.cell h,dn_set _ _ _ _ _ _ _ hlt,← hj]
end
section
variable {w:World} {ops:Array Oper} {rest:List Oper} {o:Oper} {a:Act} {Q:Exit→Act→World→Prop}
theorem load_dn (hgd:o.guard=none) (x:Operand) (ho:o.op=.load 38 x)
  {g:Nat} {k m:Int} {z:Bool} {p:Nat→Bool} {A:Option Addr} {n c:Nat} (hx:a.eval x=.pointer (some ⟨g,0,none⟩)) (hg:DB w g k m z p A n c)
  (h:wpList Tryz.prog ops Q rest (a.put o.dst (.agg (dnC k m z p A n c).toArray)) w):wpList Tryz.prog ops Q (o :: rest) a w:=
 wpList_load_row hgd _ x ho g hx _ _ _ _ hg Tryz.underlying38 rfl (by simp only [List.size_toArray,dn_len];exact dn_size) h
theorem load_el (hgd:o.guard=none) (x:Operand) (ho:o.op=.load 38 x)
  {b q:Nat} {k m:Int} {z:Bool} {p:Nat→Bool} {A:Option Addr} {n c:Nat} (hx:a.eval x=.pointer (some ⟨b,q,none⟩)) (hg:w.rangeAt b q (dnC k m z p A n c))
  (h:wpList Tryz.prog ops Q rest (a.put o.dst (.agg (dnC k m z p A n c).toArray)) w):wpList Tryz.prog ops Q (o :: rest) a w:=
 wpList_load_mid hgd _ x ho b q hx _ _ hg Tryz.underlying38 rfl (by rw [dn_len];exact dn_size) h
theorem store_dn (hgd:o.guard=none) (x y:Operand) (ho:o.op=.store 38 x y)
  {g:Nat} {old:List Value} {k m:Int} {z:Bool} {p:Nat→Bool} {A:Option Addr} {n c:Nat} (hx:a.eval x=.pointer (some ⟨g,0,none⟩)) (hy:a.eval y=.agg (dnC k m z p A n c).toArray) (hg:Blk w g 38 old) (hl:old.length=260)
  (h:wpList Tryz.prog ops Q rest (a.put o.dst undef) (w.setRow g (dnC k m z p A n c).toArray)):wpList Tryz.prog ops Q (o :: rest) a w:=
 wpList_store_row hgd _ x y ho g _ hx hy _ _ hg (by simp only [List.size_toArray,dn_len];exact dn_size) (by simp only [List.size_toArray,dn_len,hl]) (by rw [List.all_toArray];exact dn_one _ _ _ _ _ _ _) h
theorem store_dn_new {w:World} (hgd:o.guard=none) (x y:Operand) (ho:o.op=.store 38 x y) {zc:Array Value}
  {k m:Int} {z:Bool} {p:Nat→Bool} {A:Option Addr} {n c:Nat} (hx:a.eval x=.pointer (some ⟨w.heap.size,0,none⟩)) (hy:a.eval y=.agg (dnC k m z p A n c).toArray) (hl:zc.size=260)
  (h:wpList Tryz.prog ops Q rest (a.put o.dst undef) (w.alloc (.cells (dnC k m z p A n c).toArray 38))):wpList Tryz.prog ops Q (o :: rest) a (w.alloc (.cells zc 38)):=by
 refine wpList_store_row hgd _ x y ho w.heap.size _ hx hy _ zc (heap_alloc_last w _) (by simp only [List.size_toArray,dn_len];exact dn_size) (by simp only [List.size_toArray,dn_len,hl]) (by rw [List.all_toArray];exact dn_one _ _ _ _ _ _ _) ?_
 rw [World.setRow_alloc_new]
 exact h
end
theorem results_dn {fn:Func} {p:Tmp} (h:fn.results=#[.cell p 38]) (tmps:Array Value) (w:World) (g:Nat) {k m:Int} {z:Bool} {q:Nat→Bool} {A:Option Addr} {n c:Nat}
  (hp:tmps.getD p undef=.pointer (some ⟨g,0,none⟩)) (hg:DB w g k m z q A n c):(results fn tmps).run Tryz.prog w=.ok (.agg (dnC k m z q A n c).toArray) w:=
 results_cell_row h tmps w g _ _ _ _ hp hg Tryz.underlying38 rfl (by simp only [List.size_toArray,dn_len];exact dn_size)
theorem zsize40:Tryz.zeroCells38.size=260:=by kernel_rfl
theorem zero40:Tryz.zeroCells38=(dnC 0 0 false (fun _=>false) none 0 0).toArray:=by
 unfold dnC bcs
 kernel_rfl
end Go.Proofs.YtigmdlchbjanoaaGreatDoor
namespace Go.Proofs.YtigmdlchbjanoaaGreatDoor
open Go Go.RowKit
theorem DNodeV.kids {S:Nat→Prop} {w:World} {k m:Int} {z:Bool} {p:Nat→Bool} {ks:List T} {v:List Value} (h:DNodeV S w (.node k m z p ks) v):∃ A c cs,v=dnC k m z p A ks.length c∧ks.length≤c∧c≤maxLen∧Rd w 260 A ks.length cs∧DKidsV S w ks cs:=by
 unfold DNodeV at h
 obtain ⟨A,c,cs,rfl,h1,h2,h3,_,h5⟩:=h
 exact ⟨A,c,cs,rfl,h1,h2,h3,h5⟩
end Go.Proofs.YtigmdlchbjanoaaGreatDoor
namespace Go.Proofs.YtigmdlchbjanoaaGreatDoor
open Go Go.RowKit
theorem fill_step (place:Nat→Option (Nat × Nat)) (cells:Array Value) (i off size:Nat) (v:Value) (rest:List (Nat × Value)) (hp:place i=some (off,size)) (hv:v.cells.size=size) (hle:off+size≤cells.size) :
  ∃ c,Instr.fill place cells ((i,v) :: rest)=Instr.fill place c rest∧c.size=cells.size∧∀ k,c[k]?=if off≤k∧k<off+size then v.cells[k-off]? else cells[k]?:=by
 obtain ⟨g1,g2⟩:=Great.foldl_set off v.cells.toList 0 cells
 refine ⟨(v.cells.toList.zipIdx 0).foldl (fun cs (x:Value × Nat)=>cs.setIfInBounds (off+x.2) x.1) cells,?_,g1,fun k=>?_⟩
 ·conv=>lhs;unfold Instr.fill
  simp only [hp,hv]
  rw [if_neg (by simp;omega),← Array.foldl_toList,Array.toList_zipIdx]
 ·rw [g2 k,Array.length_toList,hv,Nat.add_zero]
  by_cases hk:off≤k∧k<off+size
  ·rw [if_pos ⟨hk.1,hk.2,by omega⟩,if_pos hk,Array.getElem?_toList]
  ·rw [if_neg (by intro h;exact hk ⟨h.1,h.2.1⟩),if_neg hk]
theorem built40 (parts:List (Nat × Value)):Tryz.prog.built 38 parts=Instr.fill (#[(0,1),(1,1),(2,1),(3,256),(259,1)][·]?) Tryz.zeroCells38 parts:=by kernel_rfl
theorem dn_at (k m:Int) (z:Bool) (p:Nat→Bool) (A:Option Addr) (n c j:Nat):(dnC k m z p A n c)[j]?=if j=0 then some (.int .i64 k) else if j=1 then some (.int .i64 m) else if j=2 then some (.bool z) else if j<259 then some (.bool (p (j-3))) else if j=259 then some (.slice A n c) else none:=by
 by_cases h0:j=0
 ·subst h0;exact dn_0 _ _ _ _ _ _ _
 rw [if_neg h0]
 by_cases h1:j=1
 ·subst h1;exact dn_1 _ _ _ _ _ _ _
 rw [if_neg h1]
 by_cases h2:j=2
 ·subst h2;exact dn_2 _ _ _ _ _ _ _
 rw [if_neg h2]
 by_cases h3:j<259
 ·rw [if_pos h3]
  have:=dn_set k m z p A n c (j:=j-3) (by omega)
  rw [show 3+(j-3)=j by omega] at this
  exact this
 rw [if_neg h3]
 by_cases h4:j=259
 ·subst h4;exact dn_259 _ _ _ _ _ _ _
 rw [if_neg h4,List.getElem?_eq_none (by rw [dn_len];omega)]
theorem built_dn (k m:Int) (z:Bool) (p:Nat→Bool):Tryz.prog.built 38 [(0,.int .i64 k),(1,.int .i64 m),(2,.bool z),(3,bp p)]=some (dnC k m z p none 0 0).toArray:=by
 rw [built40,zero40]
 have hs:(dnC 0 0 false (fun _=>false) none 0 0).toArray.size=260:=by rw [List.size_toArray,dn_len]
 obtain ⟨c1,e1,s1,g1⟩:=fill_step (#[(0,1),(1,1),(2,1),(3,256),(259,1)][·]?) (dnC 0 0 false (fun _=>false) none 0 0).toArray 0 0 1 (.int .i64 k) [(1,.int .i64 m),(2,.bool z),(3,bp p)] rfl rfl (by omega)
 obtain ⟨c2,e2,s2,g2⟩:=fill_step (#[(0,1),(1,1),(2,1),(3,256),(259,1)][·]?) c1 1 1 1 (.int .i64 m) [(2,.bool z),(3,bp p)] rfl rfl (by omega)
 obtain ⟨c3,e3,s3,g3⟩:=fill_step (#[(0,1),(1,1),(2,1),(3,256),(259,1)][·]?) c2 2 2 1 (.bool z) [(3,bp p)] rfl rfl (by omega)
 obtain ⟨c4,e4,s4,g4⟩:=fill_step (#[(0,1),(1,1),(2,1),(3,256),(259,1)][·]?) c3 3 3 256 (bp p) [] rfl (bcs_size p) (by omega)
 rw [e1,e2,e3,e4]
 show some c4=_
 congr 1
 apply Array.ext_getElem?
 intro j
 have e0:(dnC 0 0 false (fun _=>false) none 0 0).toArray[j]?=_:=(List.getElem?_toArray).trans (dn_at 0 0 false (fun _=>false) none 0 0 j)
 have e9:(dnC k m z p none 0 0).toArray[j]?=_:=(List.getElem?_toArray).trans (dn_at k m z p none 0 0 j)
 rw [g4,g3,g2,g1,e0,e9]
 have hb:∀ i,(bp p).cells[i]?=if i<256 then some (.bool (p i)) else none:=fun i=>by
  show (bcs p)[i]?=_
  by_cases h:i<256
  ·rw [bcs_get p h,if_pos h]
  ·rw [bcs_out p h,if_neg h]
 rw [hb]
 by_cases h0:j=0
 ·subst h0;rfl
 by_cases h1:j=1
 ·subst h1;rfl
 by_cases h2:j=2
 ·subst h2;rfl
 by_cases h3:j<259
 ·rw [if_pos ⟨by omega,by omega⟩,if_pos (by omega),if_neg h0,if_neg h1,if_neg h2,if_pos h3]
 ·rw [if_neg (by omega),if_neg (by omega),if_neg (by omega),if_neg (by omega),if_neg h0,if_neg h1,if_neg h2,if_neg h3,if_neg h0,if_neg h1,if_neg h2,if_neg h3]
theorem build_dn {w:World} {ops:Array Oper} {rest:List Oper} {o:Oper} {a:Act} {Q:Exit→Act→World→Prop} (hg:o.guard=none) (x0 x1 x2 x3:Operand) (ho:o.op=.build 38 #[(0,x0),(1,x1),(2,x2),(3,x3)])
  {k m:Int} {z:Bool} {p:Nat→Bool} (h0:a.eval x0=.int .i64 k) (h1:a.eval x1=.int .i64 m) (h2:a.eval x2=.bool z) (h3:a.eval x3=bp p)
  (h:wpList Tryz.prog ops Q rest (a.put o.dst (.agg (dnC k m z p none 0 0).toArray)) w):wpList Tryz.prog ops Q (o :: rest) a w:=by
 have e:(Array.map (fun (y:Nat × Operand)=>(y.1,a.eval y.2)) #[(0,x0),(1,x1),(2,x2),(3,x3)]).toList=[(0,.int .i64 k),(1,.int .i64 m),(2,.bool z),(3,bp p)]:=by simp [h0,h1,h2,h3]
 refine wpList_build hg _ _ ho (by rw [e,built_dn];rfl) ?_
 rw [e,built_dn]
 exact h
theorem mk_dn {w:World} {ops:Array Oper} {rest:List Oper} {o:Oper} {a:Act} {Q:Exit→Act→World→Prop} (hg:o.guard=none) (x:Operand) (ho:o.op=.buildSlice 36 1 #[(0,x)]) {v:List Value} (hl:v.length=260) (hx:a.eval x=.agg v.toArray)
  (h:wpList Tryz.prog ops Q rest (a.put o.dst (.slice (some ⟨w.heap.size,0,none⟩) 1 1)) (w.alloc (.cells v.toArray 38))):wpList Tryz.prog ops Q (o :: rest) a w:=by
 cases hie:Tryz.prog.info? 38 with
 | none=>have:=dn_size;rw [hie] at this;cases this
 | some ie =>
  have hsz:=dn_size
  rw [hie] at hsz
  simp only [Option.map_some,Option.some.injEq] at hsz
  have hz:((Tryz.prog.info? 38).bind (·.zero)).isSome=true:=by kernel_rfl
  rw [hie] at hz
  simp only [Option.bind_some] at hz
  obtain ⟨z,hzz⟩:=Option.isSome_iff_exists.1 hz
  refine wpList_buildSlice hg _ 38 1 #[(0,x)] ho v.toArray ie z Tryz.underlying36 hie hzz (by rw [hsz];omega) (by rw [hsz];omega) ?_ h
  have:=Great.fill_whole (s:=260) (by omega) [.agg v.toArray] ((Array.range (1*ie.size)).map (z.cells[· % z.cells.size]!)) (fun u hu=>by simp at hu;subst hu;show v.toArray.size=260;rw [List.size_toArray,hl]) (by rw [Array.size_map,Array.size_range,hsz];rfl)
  rw [hsz] at this ⊢
  have e3:(Array.map (fun (y:Nat × Operand)=>(y.1,a.eval y.2)) #[(0,x)]).toList=[(0,Value.agg v.toArray)]:=by simp [hx]
  rw [e3]
  have e:([Value.agg v.toArray].flatMap fun v=>v.cells.toList)=v:=by simp [Value.cells]
  rw [e] at this
  exact this
theorem elemDn:Elem Tryz.prog 36 38 (.agg Tryz.zeroCells38) 260 304:=⟨Tryz.underlying36,by kernel_rfl,by show Tryz.zeroCells38.size=260;exact zsize40,by omega⟩
end Go.Proofs.YtigmdlchbjanoaaGreatDoor
namespace Go.Proofs.YtigmdlchbjanoaaGreatDoor
open Go Go.RowKit
attribute [local irreducible] wd
theorem grew_chg {base:Nat} {w w':World} {v:Value} (h:Grew base w w' v):Chg v.ownBlock.toList w w':=by
 obtain ⟨a1,a2,a3,a4,a5⟩:=h.by_
 exact ⟨a1,a2,a3,a4,fun k hk hx=>a5 k hk (fun e=>hx (by rw [← e];simp))⟩
theorem rowChg4 (w:World) (g:Nat) (cs:Array Value):Chg [g] w (w.setRow g cs):=
 ⟨rfl,rfl,rfl,by rw [setRow_size];exact Nat.le_refl _,fun k _ hx=>setRow_other w g k cs (by simpa using hx)⟩
theorem blk_rd1 {w:World} {g:Nat} {l:List Value} (h:Blk w g 38 l) (hl:l.length=260):Rd w 260 (some ⟨g,0,none⟩) 1 l:=by
 have:=Blk.rd (n:=1) (size:=260) h 0 (by omega)
 rw [List.drop_zero,List.take_of_length_le (by omega)] at this
 exact this
theorem dnode_one {S:Nat→Prop} {w:World} {t:T} {l:List Value} (h:DNodeV S w t l):∀ u ∈ l,u.oneCell'=true:=by
 obtain ⟨k,m,z,p,B,n,c,rfl⟩:=dnodeV_form h
 have:=dn_one k m z p B n c
 rw [List.all_eq_true] at this
 exact this
theorem DB.setKids {w:World} {g:Nat} {k m:Int} {z:Bool} {p:Nat→Bool} {A:Option Addr} {n c:Nat} (h:DB w g k m z p A n c) (A':Option Addr) (n' c':Nat):DB (w.setCell ⟨g,259,none⟩ (.slice A' n' c')) g k m z p A' n' c':=by
 have e:(dnC k m z p A n c).set 259 (.slice A' n' c')=dnC k m z p A' n' c':=by
  apply List.ext_getElem?
  intro j
  rw [List.getElem?_set,dn_len,dn_at,dn_at]
  by_cases hj:259=j
  ·subst hj;simp
  ·rw [if_neg hj]
   by_cases h0:j=0
   ·subst h0;rfl
   by_cases h1:j=1
   ·subst h1;rfl
   by_cases h2:j=2
   ·subst h2;rfl
   rw [if_neg h0,if_neg h1,if_neg h2,if_neg h0,if_neg h1,if_neg h2,if_neg (show ¬ j=259 by omega),if_neg (show ¬ j=259 by omega)]
 have:=Blk.set_ h 259 (.slice A' n' c')
 rw [e] at this
 exact this
structure DRow (B gz:Nat) (kv:Value) (acc:List T) (w:World):Prop where
 own:∃ cs,w.ownsRow B 38 260 kv acc.length cs∧DKidsV (fun b=>gz<b∧some b ≠ kv.ownBlock) w acc cs
 gt:∀ b,kv.ownBlock=some b→gz<b
theorem DRow.nil {B gz:Nat} {w:World}:DRow B gz (.slice none 0 0) [] w:=⟨⟨[],⟨rfl,.inl ⟨rfl,rfl⟩⟩,by unfold DKidsV;rfl⟩,fun b h=>by cases h⟩
theorem DRow.ext {B gz:Nat} {w w':World} {kv:Value} {acc:List T} (h:DRow B gz kv acc w) (hx:Ext w w'):DRow B gz kv acc w':=by
 obtain ⟨⟨cs,h1,h2⟩,h3⟩:=h
 exact ⟨⟨cs,own_ext h1 hx,dkidsV_map (fun t v h=>DNodeV.keep h hx) h2⟩,h3⟩
theorem DRow.chg {B gz p:Nat} {w w':World} {kv:Value} {acc:List T} (h:DRow B gz kv acc w) (hx:Chg [p] w w') (hp:p≤gz):DRow B gz kv acc w':=by
 obtain ⟨⟨cs,h1,h2⟩,h3⟩:=h
 exact ⟨⟨cs,own_chg h1 hx (fun k hk=>by simp;intro e;have:=h3 k hk;omega),dkidsV_map (fun t v h=>DNodeV.chg h hx (by intro y hy;simp at hy;omega)) h2⟩,h3⟩
theorem DRow.app {B gz:Nat} {w w':World} {kv kv':Value} {acc:List T} {t:T} {cs v:List Value} (hk:DKidsV (fun b=>gz<b∧some b ≠ kv.ownBlock) w acc cs) (hgt:∀ b,kv.ownBlock=some b→gz<b)
  (hv:DNodeV (fun b=>gz<b∧some b ≠ kv.ownBlock) w t v) (hown:w'.ownsRow B 38 260 kv' (acc.length+1) (cs ++ v)) (hg:Grew B w w' kv) (hat:kv'.ownBlock=kv.ownBlock∨kv'.ownBlock=some w.heap.size) (hz:gz<w.heap.size):DRow B gz kv' (acc ++ [t]) w':=by
 have key:∀ x u,DNodeV (fun b=>gz<b∧some b ≠ kv.ownBlock) w x u→DNodeV (fun b=>gz<b∧some b ≠ kv'.ownBlock) w' x u:=fun x u hx =>
  dnodeV_stay hg.size (fun b hb hlt=>⟨⟨hb.1,by rcases hat with e | e;(rw [e];exact hb.2);(rw [e];intro e2;injection e2 with e2;omega)⟩,hg.by_.block b hlt hb.2⟩) x.size x (Nat.le_refl _) u hx
 refine ⟨⟨cs ++ v,by rw [List.length_append];exact hown,dkidsV_append (dkidsV_map key hk) (dkidsV_one (key t v hv))⟩,fun b hb=>?_⟩
 rcases hat with e | e
 ·rw [e] at hb;exact hgt b hb
 ·rw [e] at hb;injection hb with hb;omega
set_option maxHeartbeats 16000000 in
set_option maxRecDepth 20000 in
theorem lawOf:∀ n,∀ t:T,t.size≤n→t.size≤1000000→∀ S w v,NodeV S w t v →
  Calls Tryz.prog 13 #[.agg v.toArray] w fun e w'=>∃ l:List Value,e=.returned (.agg l.toArray)∧DNodeV (fun b=>w.heap.size≤b) w' t l∧Ext w w':=by
 intro n
 induction n with
 | zero=>intro t ht;have:=size_pos t;omega
 | succ n ih =>
  intro t ht hsz S w v h
  cases t with
  | node k m z p ks =>
   have h:=h.mono (S':=fun b=>b<w.heap.size) (fun b hb _=>hb)
   unfold NodeV at h
   obtain ⟨A,c,cs,rfl,h1,h2,h3,h4,h5⟩:=h
   rw [size_node] at ht hsz
   have hlk:=sizeL_len ks
   have HR:=Lib.hid h3
   have HK:=Lib.hid h5
   have hx0:=Ext.new1 w (.cells (nodeC k m z p A ks.length c).toArray 28)
   have hx1:=Ext.trans hx0 (Ext.new1 _ (.cells Tryz.zeroCells38 38))
   have HX1:=Lib.hid hx1
   have HBA:=Lib.hid ((NodeB.new w k m z p A ks.length c).keep (Ext.new1 _ (.cells Tryz.zeroCells38 38)))
   have HB2:=Lib.hid (show Blk ((w.alloc (.cells (nodeC k m z p A ks.length c).toArray 28)).alloc (.cells Tryz.zeroCells38 38)) (w.heap.size+1) 38 Tryz.zeroCells38.toList from by
    have:=Blk.new (w.alloc (.cells (nodeC k m z p A ks.length c).toArray 28)) 38 Tryz.zeroCells38
    rw [show (w.alloc (.cells (nodeC k m z p A ks.length c).toArray 28)).heap.size=w.heap.size+1 by simp] at this
    exact this)
   have HGA:=Lib.hid (HBA.out.lt)
   have HB0:=Lib.hid (show w.heap.size+1<((w.alloc (.cells (nodeC k m z p A ks.length c).toArray 28)).alloc (.cells Tryz.zeroCells38 38)).heap.size by simp)
   clear h3 h4 h5 hx0 hx1
   unfold nodeC at HX1 HBA HGA HB0 HB2 ⊢
   go_enter Tryz.func13,Tryz.ntmps13
   go_upto_region 1 with fail
   generalize World.alloc _ (.cells Tryz.zeroCells38 38)=w1 at *
   obtain ⟨B0,hB0⟩:∃ B0,w.heap.size=B0:=⟨_,rfl⟩
   have HBE:=Lib.hid hB0
   rw [hB0]
   rw [hB0] at HBA HGA HB0 HB2 HK
   clear hB0
   refine wp_region_dagF (E:=EG w1.heap.size 38 (fun _ cs=>cs=dnC k m z p none 0 0)) (w0:=w1) (Φ:=fun i f v w=>match i with | 0=>(v=.pointer (some ⟨B0,0,none⟩)) | 1=>(v=.int .i64 k) | 2=>(v=.pointer (some ⟨B0,1,none⟩)) | 3=>(v=.int .i64 m) | 4=>(v=.pointer (some ⟨B0,2,none⟩)) | 5=>(v=.bool z) | 6=>(v=.pointer (some ⟨B0,3,none⟩)) | 7=>(v=sp p) | 8=>(v=bp p) | 9=>(v=.agg (dnC k m z p none 0 0).toArray) | 10=>(∃ g,v=.pointer (some ⟨g,0,none⟩)∧w1.heap.size≤g∧∃ cs,cs.length=260∧Blk w g 38 cs) | 11=>(∃ g,f 3=some (.pointer (some ⟨g,0,none⟩))∧w1.heap.size≤g∧∃ cs,cs=dnC k m z p none 0 0∧Blk w g 38 cs) | _=>True) (show Tryz.prog.follows .mixedOrders=true from Checked.mixed Tryz.checked) 32 rfl (by decide +kernel) ?_ (.of_ext ((Below.refl _ _).drew)) ?_ ⟨?_,?_,?_,?_,?_,?_,?_,?_,?_,?_,?_,?_,trivial⟩ ?_
   ·intro i f v w w' h hE
    match i,h with
    | 0,h=>exact h
    | 1,h=>exact h
    | 2,h=>exact h
    | 3,h=>exact h
    | 4,h=>exact h
    | 5,h=>exact h
    | 6,h=>exact h
    | 7,h=>exact h
    | 8,h=>exact h
    | 9,h=>exact h
    | 10,h=>exact (by obtain ⟨g,h1,h2,h3⟩:=h;exact ⟨g,h1,h2,hE.four (fun _ _ h=>by subst h;exact dn_len _ _ _ _ _ _ _) h3⟩)
    | 11,h=>exact (by obtain ⟨g,h1,h2,h3⟩:=h;exact ⟨g,h1,h2,hE.good (fun _ _ _ h _=>h) h3⟩)
    | _+12,_=>trivial
   ·exact fun w w' h h'=>h.trans (fun _ _ _ h _=>h) h'
   ·
    intro ac wx hE hsz hdf h
    have e1:ac.tmps[1]?=some (.pointer (some ⟨B0,0,none⟩)):=by obtain ⟨v,h1,h2⟩:=h 1 (by decide +kernel);exact h1.trans (h2.symm.trans rfl)
    clear h hsz hdf
    go_wp2
    exact ⟨_,rfl,rfl,EG.refl _⟩
   ·
    intro ac wx hE hsz hdf h
    have e6:ac.tmps[6]?=some (.pointer (some ⟨B0,0,none⟩)):=by obtain ⟨v,h1,f,h2⟩:=h 6 (by decide +kernel);rw [h1];exact congrArg some h2
    clear h hsz hdf
    obtain ⟨q0,q1,q2,q3,q4,q5,q6,q7⟩:=(NodeB.cells (Blk.below HBA.out (hE.below (Below.refl _ _) (Nat.le_refl _)) HGA.out))
    go_wp2
    exact ⟨_,rfl,rfl,EG.refl _⟩
   ·
    intro ac wx hE hsz hdf h
    have e1:ac.tmps[1]?=some (.pointer (some ⟨B0,0,none⟩)):=by obtain ⟨v,h1,h2⟩:=h 1 (by decide +kernel);exact h1.trans (h2.symm.trans rfl)
    clear h hsz hdf
    go_wp2
    exact ⟨_,rfl,rfl,EG.refl _⟩
   ·
    intro ac wx hE hsz hdf h
    have e8:ac.tmps[8]?=some (.pointer (some ⟨B0,1,none⟩)):=by obtain ⟨v,h1,f,h2⟩:=h 8 (by decide +kernel);rw [h1];exact congrArg some h2
    clear h hsz hdf
    obtain ⟨q0,q1,q2,q3,q4,q5,q6,q7⟩:=(NodeB.cells (Blk.below HBA.out (hE.below (Below.refl _ _) (Nat.le_refl _)) HGA.out))
    go_wp2
    exact ⟨_,rfl,rfl,EG.refl _⟩
   ·
    intro ac wx hE hsz hdf h
    have e1:ac.tmps[1]?=some (.pointer (some ⟨B0,0,none⟩)):=by obtain ⟨v,h1,h2⟩:=h 1 (by decide +kernel);exact h1.trans (h2.symm.trans rfl)
    clear h hsz hdf
    go_wp2
    exact ⟨_,rfl,rfl,EG.refl _⟩
   ·
    intro ac wx hE hsz hdf h
    have e10:ac.tmps[10]?=some (.pointer (some ⟨B0,2,none⟩)):=by obtain ⟨v,h1,f,h2⟩:=h 10 (by decide +kernel);rw [h1];exact congrArg some h2
    clear h hsz hdf
    obtain ⟨q0,q1,q2,q3,q4,q5,q6,q7⟩:=(NodeB.cells (Blk.below HBA.out (hE.below (Below.refl _ _) (Nat.le_refl _)) HGA.out))
    go_wp2
    exact ⟨_,rfl,rfl,EG.refl _⟩
   ·
    intro ac wx hE hsz hdf h
    have e1:ac.tmps[1]?=some (.pointer (some ⟨B0,0,none⟩)):=by obtain ⟨v,h1,h2⟩:=h 1 (by decide +kernel);exact h1.trans (h2.symm.trans rfl)
    clear h hsz hdf
    go_wp2
    exact ⟨_,rfl,rfl,EG.refl _⟩
   ·
    intro ac wx hE hsz hdf h
    have e12:ac.tmps[12]?=some (.pointer (some ⟨B0,3,none⟩)):=by obtain ⟨v,h1,f,h2⟩:=h 12 (by decide +kernel);rw [h1];exact congrArg some h2
    clear h hsz hdf
    obtain ⟨q0,q1,q2,q3,q4,q5,q6,q7⟩:=(NodeB.cells (Blk.below HBA.out (hE.below (Below.refl _ _) (Nat.le_refl _)) HGA.out))
    go_wp2
    exact ⟨_,rfl,rfl,EG.refl _⟩
   ·
    intro ac wx hE hsz hdf h
    have e13:ac.tmps[13]?=some (sp p):=by obtain ⟨v,h1,f,h2⟩:=h 13 (by decide +kernel);rw [h1];exact congrArg some h2
    clear h hsz hdf
    go_wp2_with ((go_at_call 34;refine (refOf p _).mono ?_;rintro e w9 ⟨rfl,hb9⟩))
    exact ⟨_,rfl,rfl,.of_ext hb9⟩
   ·
    intro ac wx hE hsz hdf h
    have e7:ac.tmps[7]?=some (.int .i64 k):=by obtain ⟨v,h1,f,h2⟩:=h 7 (by decide +kernel);rw [h1];exact congrArg some h2
    have e9:ac.tmps[9]?=some (.int .i64 m):=by obtain ⟨v,h1,f,h2⟩:=h 9 (by decide +kernel);rw [h1];exact congrArg some h2
    have e11:ac.tmps[11]?=some (.bool z):=by obtain ⟨v,h1,f,h2⟩:=h 11 (by decide +kernel);rw [h1];exact congrArg some h2
    have e14:ac.tmps[14]?=some (bp p):=by obtain ⟨v,h1,f,h2⟩:=h 14 (by decide +kernel);rw [h1];exact congrArg some h2
    clear h hsz hdf
    refine build_dn rfl (.tmp 7) (.tmp 9) (.tmp 11) (.tmp 14) rfl (k:=k) (m:=m) (z:=z) (p:=p) ?_ ?_ ?_ ?_ ?_
    ·simp [Act.eval,e7]
    ·simp [Act.eval,e9]
    ·simp [Act.eval,e11]
    ·simp [Act.eval,e14]
    ·go_wp2;exact ⟨_,rfl,rfl,EG.refl _⟩
   ·
    intro ac wx hE hsz hdf h
    clear h hsz hdf
    go_wp2
    exact ⟨_,rfl,⟨_,rfl,hE.size,_,by rw [Array.length_toList];exact zsize40,Blk.new wx _ _⟩,.of_ext (Ext.new1 _ _)⟩
   ·
    intro ac wx hE hsz hdf h
    have e3:∃ g,ac.tmps[3]?=some (.pointer (some ⟨g,0,none⟩))∧w1.heap.size≤g∧∃ cs,cs.length=260∧Blk wx g 38 cs:=by obtain ⟨v,h1,f,⟨g,h2,h3,h4⟩⟩:=h 3 (by decide +kernel);exact ⟨g,h1.trans (congrArg some h2),h3,h4⟩
    have e15:ac.tmps[15]?=some (.agg (dnC k m z p none 0 0).toArray):=by obtain ⟨v,h1,f,h2⟩:=h 15 (by decide +kernel);rw [h1];exact congrArg some h2
    obtain ⟨gy,e3,hgy,cs8,hcs8,hby⟩:=e3
    clear h hsz hdf
    refine store_dn rfl (.tmp 3) (.tmp 15) rfl (g:=gy) (k:=k) (m:=m) (z:=z) (p:=p) (A:=none) (n:=0) (c:=0) ?_ ?_ hby hcs8 ?_
    ·simp [Act.eval,e3]
    ·simp [Act.eval,e15]
    ·go_wp2;exact ⟨undef,rfl,⟨gy,e3,hgy,_,rfl,Blk.row hby _⟩,EG.store (rowChg4 _ _ _) hgy hby (Blk.row hby _) rfl⟩
   ·intro ac w9 hE hsz hdf h hrest
    obtain ⟨v0,f0,s0,g0,-⟩:=h 0 _ rfl
    have e0:=g0 6 rfl
    obtain rfl:v0=.pointer (some ⟨B0,0,none⟩):=s0
    obtain ⟨v1,f1,s1,g1,-⟩:=h 1 _ rfl
    have e1:=g1 7 rfl
    obtain rfl:v1=.int .i64 k:=s1
    obtain ⟨v2,f2,s2,g2,-⟩:=h 2 _ rfl
    have e2:=g2 8 rfl
    obtain rfl:v2=.pointer (some ⟨B0,1,none⟩):=s2
    obtain ⟨v3,f3,s3,g3,-⟩:=h 3 _ rfl
    have e3:=g3 9 rfl
    obtain rfl:v3=.int .i64 m:=s3
    obtain ⟨v4,f4,s4,g4,-⟩:=h 4 _ rfl
    have e4:=g4 10 rfl
    obtain rfl:v4=.pointer (some ⟨B0,2,none⟩):=s4
    obtain ⟨v5,f5,s5,g5,-⟩:=h 5 _ rfl
    have e5:=g5 11 rfl
    obtain rfl:v5=.bool z:=s5
    obtain ⟨v6,f6,s6,g6,-⟩:=h 6 _ rfl
    have e6:=g6 12 rfl
    obtain rfl:v6=.pointer (some ⟨B0,3,none⟩):=s6
    obtain ⟨v7,f7,s7,g7,-⟩:=h 7 _ rfl
    have e7:=g7 13 rfl
    obtain rfl:v7=sp p:=s7
    obtain ⟨v8,f8,s8,g8,-⟩:=h 8 _ rfl
    have e8:=g8 14 rfl
    obtain rfl:v8=bp p:=s8
    obtain ⟨v9,f9,s9,g9,-⟩:=h 9 _ rfl
    have e9:=g9 15 rfl
    obtain rfl:v9=.agg (dnC k m z p none 0 0).toArray:=s9
    obtain ⟨v10,f10,s10,g10,-⟩:=h 10 _ rfl
    have e10:=g10 3 rfl
    replace s10:∃ g,v10=.pointer (some ⟨g,0,none⟩)∧w1.heap.size≤g∧∃ cs,cs.length=260∧Blk w9 g 38 cs:=s10
    obtain ⟨v11,f11,s11,-,fe11⟩:=h 11 _ rfl
    replace s11:∃ g,f11 3=some (.pointer (some ⟨g,0,none⟩))∧w1.heap.size≤g∧∃ cs,cs=dnC k m z p none 0 0∧Blk w9 g 38 cs:=s11
    have l11_3:=fe11 3 (by decide +kernel)
    have l11_15:=fe11 15 (by decide +kernel)
    clear fe11
    obtain ⟨gd,hf3,hg3,cs3,rfl,hb3⟩:=s11
    obtain rfl:v10=.pointer (some ⟨gd,0,none⟩):=Option.some.inj (e10.symm.trans (l11_3.trans hf3))
    clear l11_3 l11_15 hf3 s10
    have ha:=act_of [(6,.pointer (some ⟨B0,0,none⟩)),(7,.int .i64 k),(8,.pointer (some ⟨B0,1,none⟩)),(9,.int .i64 m),(10,.pointer (some ⟨B0,2,none⟩)),(11,.bool z),(12,.pointer (some ⟨B0,3,none⟩)),(13,sp p),(14,bp p),(15,.agg (dnC k m z p none 0 0).toArray),(3,.pointer (some ⟨gd,0,none⟩))] rfl hsz hdf (by intro p hp;simp only [List.mem_cons,List.not_mem_nil,or_false] at hp;rcases hp with rfl | rfl | rfl | rfl | rfl | rfl | rfl | rfl | rfl | rfl | rfl <;> first | exact e0 | exact e1 | exact e2 | exact e3 | exact e4 | exact e5 | exact e6 | exact e7 | exact e8 | exact e9 | exact e10) hrest
    clear h hrest hsz hdf e0 e1 e2 e3 e4 e5 e6 e7 e8 e9 e10 g0 g1 g2 g3 g4 g5 g6 g7 g8 g9 g10
    clear f0 f1 f2 f3 f4 f5 f6 f7 f8 f9 f10 f11
    subst ha
    simp only [List.foldl_cons,List.foldl_nil,Act.put,List.setIfInBounds_toArray,List.set_cons_succ,List.set_cons_zero]
    have hEb:=hE.below (Below.refl _ _) (Nat.le_refl _)
    have HX9:=Lib.hid (Ext.trans HX1.out hEb)
    have HBA9:=Lib.hid (Blk.below HBA.out hEb HGA.out)
    have HB29:=Lib.hid (Blk.below HB2.out hEb HB2.out.lt)
    have HG3:=Lib.hid (show B0+1<gd by have:=HB0.out;omega)
    have HD0:=Lib.hid (show DB w9 gd k m z p none 0 0 from hb3)
    clear hE hEb hg3 hb3 HX1 HBA HB2 HGA HB0
    obtain ⟨q0,q1,q2,q3,q4,q5,q6,q7⟩:=NodeB.cells HBA9.out
    go_wp2
    clear q0 q1 q2 q3 q4 q5 q6 q7
    go_loopg [19] (ks.length) (fun gg iv wr=>∃ i A9 c9,i≤ks.length∧gg=ks.length-i∧iv=.int .i64 (i:Nat)∧DB wr gd k m z p A9 i c9∧DRow B0 gd (.slice A9 i c9) (ks.take i) wr∧Blk wr (B0+1) 38 Tryz.zeroCells38.toList∧Ext w wr)
    case atStart=>exact ⟨0,none,0,by omega,rfl,rfl,HD0.out,DRow.nil,HB29.out,HX9.out⟩
    case round =>
     obtain ⟨iq,A9,c9,hi,rfl,rfl,hdb,hrw,hb2,hx⟩:=hrel
     have hdb':=Lib.hid hdb
     have hrw':=Lib.hid hrw
     have hb2':=Lib.hid hb2
     clear hdb hrw hb2
     by_cases hlt:iq<ks.length
     ·obtain ⟨b,o,k',m',z',p',B',n',c',rfl,hv,hk⟩:=kid_at HR.out HK.out hlt
      obtain ⟨c0,c1,c2,c3,c4,c5,c6,c7⟩:=hk.out wr hx
      have hmem:=sizeL_mem (List.getElem_mem hlt)
      have hw2:IntKind.i64.wrap ((iq:Int)+1)=(iq:Int)+1:=wrap_id (by omega) (by omega)
      have hlt':(iq:Int)<(ks.length:Int):=by omega
      have hxb:=Ext.new1 wr (.cells (nodeC k' m' z' p' B' n' c').toArray 28)
      obtain ⟨tk,htk⟩:∃ tk,ks[iq]'hlt=tk:=⟨_,rfl⟩
      rw [htk] at hmem hv
      have HTT:=Lib.hid (show ks.take (iq+1)=ks.take iq ++ [tk] by rw [List.take_succ_eq_append_getElem hlt,htk])
      have HT:=Lib.hid (show tk.size≤n by omega)
      have HTS:=Lib.hid (show tk.size≤1000000 by omega)
      have HIL:=Lib.hid (show iq≤ks.length by omega)
      have H63:=Lib.hid (show (iq+1)*304≤140737488355328 by omega)
      have H64:=Lib.hid (show iq+1≤maxLen by unfold maxLen;omega)
      have hgd:=hdb'.out.lt
      have HKB:=Lib.hid (NodeB.new wr k' m' z' p' B' n' c')
      have HVK:=Lib.hid ((hv.keep hx).keep hxb)
      have HDB:=Lib.hid (hdb'.out.keep hxb)
      have HRW:=Lib.hid (hrw'.out.ext hxb)
      have HB2K:=Lib.hid (Blk.keep hb2'.out hxb)
      have HXK:=Lib.hid (Ext.trans hx hxb)
      have hgt:=hrw'.out.gt
      have hob:∀ x ∈ (Value.slice A9 iq c9).ownBlock.toList,B0≤x∧gd<x∧x<wr.heap.size:=fun x hx=>by
       have e:(Value.slice A9 iq c9).ownBlock=some x:=by simpa using hx
       obtain ⟨⟨cs8,hown8,_⟩,_⟩:=hrw'.out
       have:=hown8.lt x e
       exact ⟨this.1,hgt x e,this.2⟩
      have HB0L:=Lib.hid (show B0≤wr.heap.size by have:=hx.size;have:=HBE.out;omega)
      have hg3':=HG3.out
      have hap:gd ∉ (Value.slice A9 iq c9).ownBlock.toList:=fun hm=>by have:=(hob gd hm).2.1;omega
      have hlo:∀ x ∈ (Value.slice A9 iq c9).ownBlock.toList,x<wr.heap.size+1:=fun x hx=>by have:=(hob x hx).2.2;omega
      have hlo3:gd<wr.heap.size+1:=by omega
      have hkX:wr.heap.size ∉ ((Value.slice A9 iq c9).ownBlock.toList ++ [gd]):=fun hm=>by
       rcases List.mem_append.1 hm with h | h
       ·have:=(hob _ h).2.2;omega
       ·simp at h;omega
      have hXB:∀ x ∈ ((Value.slice A9 iq c9).ownBlock.toList ++ [gd]),B0≤x∧x ≠ B0+1:=fun x hm=>by
       rcases List.mem_append.1 hm with h | h
       ·have:=hob _ h;omega
       ·simp at h;omega
      have HSX:=Lib.hid (show ∀ x ∈ ((Value.slice A9 iq c9).ownBlock.toList ++ [gd]),¬ x<B0 from fun x hm=>by have:=hXB x hm;omega)
      have hsk:(wr.alloc (.cells #[.int .i64 k',.int .i64 m',.bool z',.int .u64 (wd p' 0:Nat),.int .u64 (wd p' 1:Nat),.int .u64 (wd p' 2:Nat),.int .u64 (wd p' 3:Nat),.slice B' n' c'] 28)).heap.size=wr.heap.size+1:=by simp
      have HHAP:=Lib.hid hap
      have HLO:=Lib.hid hlo
      have HLO3:=Lib.hid hlo3
      have HKX:=Lib.hid hkX
      have HXB:=Lib.hid hXB
      have HSK:=Lib.hid hsk
      clear hv hk hmem htk hxb hgd hgt hob hg3' hap hlo hlo3 hkX hXB hsk hx
      unfold nodeC at HVK HDB HRW HB2K HXK
      go_upto_region 5 with fail
      clear c0 c1 c2 c3 c4 c5 c6 c7
      generalize wr.alloc (.cells #[.int .i64 k',.int .i64 m',.bool z',.int .u64 (wd p' 0:Nat),.int .u64 (wd p' 1:Nat),.int .u64 (wd p' 2:Nat),.int .u64 (wd p' 3:Nat),.slice B' n' c'] 28)=wk at *
      have hap:=HHAP.out
      have hlo:∀ x ∈ (Value.slice A9 iq c9).ownBlock.toList,x<wk.heap.size:=by rw [HSK.out];exact HLO.out
      have hlo3:gd<wk.heap.size:=by rw [HSK.out];exact HLO3.out
      have hkX:=HKX.out
      have HB0M:=Lib.hid (show B0≤wk.heap.size by have:=HB0L.out;have:=HSK.out;omega)
      clear HHAP HLO HLO3 HKX HSK
      generalize wr.heap.size=gk at *
      refine wp_region_dagQ (X:=fun j=>if j=5 then (Value.slice A9 iq c9).ownBlock.toList else if j=7 then [gd] else []) (XX:=((Value.slice A9 iq c9).ownBlock.toList ++ [gd])) (late:=fun j=>if j=1 then [5,7] else if j=5 then [7] else if j=7 then [] else []) (Pre:=fun i w=>(i=1→DB w gd k m z p A9 iq c9)∧(i=5→DRow B0 gd (.slice A9 iq c9) (ks.take iq) w)∧(i=7→DB w gd k m z p A9 iq c9)∧True) (w0:=wk) (Φ:=fun i v w=>match i with | 0=>(v=.pointer (some ⟨gd,259,none⟩)) | 1=>(v=.slice A9 iq c9) | 2=>(v=.agg #[.int .i64 k',.int .i64 m',.bool z',.int .u64 (wd p' 0:Nat),.int .u64 (wd p' 1:Nat),.int .u64 (wd p' 2:Nat),.int .u64 (wd p' 3:Nat),.slice B' n' c']) | 3=>(∃ l:List Value,v=.agg l.toArray∧DNodeV (fun b=>wk.heap.size≤b) w tk l) | 4=>(∃ g,∃ l:List Value,v=.slice (some ⟨g,0,none⟩) 1 1∧Blk w g 38 l∧wk.heap.size≤g∧DNodeV (fun b=>wk.heap.size≤b) w tk l) | 5=>(∃ A8 c8,v=.slice A8 (iq+1) c8∧DRow B0 gd (.slice A8 (iq+1) c8) (ks.take (iq+1)) w) | 6=>(v=.pointer (some ⟨gd,259,none⟩)) | 7=>(∃ A8 c8,DB w gd k m z p A8 (iq+1) c8∧DRow B0 gd (.slice A8 (iq+1) c8) (ks.take (iq+1)) w) | _=>True) (show Tryz.prog.follows .mixedOrders=true from Checked.mixed Tryz.checked) 32 rfl (by decide +kernel) ?_ ?_ ?_ ?_ ?_ ⟨?_,?_,?_,?_,?_,?_,?_,?_,trivial⟩ ?_
      ·intro j x hx
       by_cases hj5:j=5
       ·subst hj5;have hx':x ∈ (Value.slice A9 iq c9).ownBlock.toList:=hx;first | exact hx' | (rw [List.mem_append];first | exact .inl hx' | exact .inr hx')
       by_cases hj7:j=7
       ·subst hj7;have hx':x ∈ [gd]:=hx;first | exact hx' | (rw [List.mem_append];first | exact .inl hx' | exact .inr hx')
       simp [hj5,hj7] at hx
      ·intro j
       by_cases hj1:j=1
       ·subst hj1;decide +kernel
       by_cases hj5:j=5
       ·subst hj5;decide +kernel
       by_cases hj7:j=7
       ·subst hj7;decide +kernel
       simp [hj1,hj5,hj7,lateOk]
      ·intro i
       exact ⟨fun _=>HDB.out.keep ((Below.refl _ _).drew),fun _=>HRW.out.ext ((Below.refl _ _).drew),fun _=>HDB.out.keep ((Below.refl _ _).drew),trivial⟩
      ·intro i j w w' hij hnl h hc
       refine ⟨?_,?_,?_,trivial⟩
       ·intro hi
        subst hi
        have hp:=h.1 rfl
        have hc':Chg [] w w':=hc.mono (fun x hx=>by
         by_cases hj5:j=5
         ·subst hj5;exact absurd (by decide) hnl
         by_cases hj7:j=7
         ·subst hj7;exact absurd (by decide) hnl
         simp [hj5,hj7] at hx)
        exact Blk.chg hp hc' (by simp)
       ·intro hi
        subst hi
        have hp:=h.2.1 rfl
        have hc':Chg [] w w':=hc.mono (fun x hx=>by
         by_cases hj5:j=5
         ·exact absurd hj5 (by omega)
         by_cases hj7:j=7
         ·subst hj7;exact absurd (by decide) hnl
         simp [hj5,hj7] at hx)
        exact hp.ext (hc'.ext (by simp))
       ·intro hi
        subst hi
        have hp:=h.2.2.1 rfl
        have hc':Chg ((Value.slice A9 iq c9).ownBlock.toList) w w':=hc.mono (fun x hx=>by
         by_cases hj5:j=5
         ·subst hj5;have hx':x ∈ (Value.slice A9 iq c9).ownBlock.toList:=hx;first | exact hx' | (rw [List.mem_append];first | exact .inl hx' | exact .inr hx')
         by_cases hj7:j=7
         ·exact absurd hj7 (by omega)
         simp [hj5,hj7] at hx)
        exact Blk.chg hp hc' hap
      ·intro i j v w w' hij hla h hc
       by_cases hj5:j=5
       ·subst hj5
        have hc':Chg (Value.slice A9 iq c9).ownBlock.toList w w':=hc
        match i,hij,hla,h with
        | 0,_,_,h=>exact h
        | 1,_,_,h=>exact h
        | 2,_,_,h=>exact h
        | 3,_,_,h=>exact (by obtain ⟨l,g1,g2⟩:=h;exact ⟨l,g1,g2.chg hc' (fun x hx hs=>by have:=hlo x hx;omega)⟩)
        | 4,_,_,h=>exact (by obtain ⟨g,l,g1,g2,g3,g4⟩:=h;exact ⟨g,l,g1,g2.chg hc' (fun hm=>by have:=hlo g hm;omega),g3,g4.chg hc' (fun x hx hs=>by have:=hlo x hx;omega)⟩)
        | 5,hij,_,_=>exact absurd rfl hij
        | 6,_,_,h=>exact h
        | 7,_,hla,_=>exact absurd (by decide) hla
        | _+8,_,_,_=>trivial
       by_cases hj7:j=7
       ·subst hj7
        have hc':Chg [gd] w w':=hc
        match i,hij,hla,h with
        | 0,_,_,h=>exact h
        | 1,_,_,h=>exact h
        | 2,_,_,h=>exact h
        | 3,_,_,h=>exact (by obtain ⟨l,g1,g2⟩:=h;exact ⟨l,g1,g2.chg hc' (fun x hx hs=>by simp at hx;have:=hlo3;omega)⟩)
        | 4,_,_,h=>exact (by obtain ⟨g,l,g1,g2,g3,g4⟩:=h;exact ⟨g,l,g1,g2.chg hc' (fun hm=>by simp at hm;have:=hlo3;omega),g3,g4.chg hc' (fun x hx hs=>by simp at hx;have:=hlo3;omega)⟩)
        | 5,_,_,h=>exact (by obtain ⟨A8,c8,g1,g2⟩:=h;exact ⟨A8,c8,g1,g2.chg hc' (Nat.le_refl _)⟩)
        | 6,_,_,h=>exact h
        | 7,hij,_,_=>exact absurd rfl hij
        | _+8,_,_,_=>trivial
       have hc0:Chg [] w w':=by simpa [hj5,hj7] using hc
       have hE:Ext w w':=hc0.ext (by simp)
       match i,h with
       | 0,h=>exact h
       | 1,h=>exact h
       | 2,h=>exact h
       | 3,h=>exact (by obtain ⟨l,g1,g2⟩:=h;exact ⟨l,g1,g2.keep hE⟩)
       | 4,h=>exact (by obtain ⟨g,l,g1,g2,g3,g4⟩:=h;exact ⟨g,l,g1,g2.keep hE,g3,g4.keep hE⟩)
       | 5,h=>exact (by obtain ⟨A8,c8,g1,g2⟩:=h;exact ⟨A8,c8,g1,g2.ext hE⟩)
       | 6,h=>exact h
       | 7,h=>exact (by obtain ⟨A8,c8,g1,g2⟩:=h;exact ⟨A8,c8,g1.keep hE,g2.ext hE⟩)
       | _+8,_=>trivial
      ·
       intro ac wx hE hP hsz hdf h
       have e3:ac.tmps[3]?=some (.pointer (some ⟨gd,0,none⟩)):=by obtain ⟨v,h1,h2⟩:=h 3 (by decide +kernel);exact h1.trans (h2.symm.trans rfl)
       clear h hsz hdf
       go_wp2
       exact ⟨_,rfl,rfl,Chg.refl _ _⟩
      ·
       intro ac wx hE hP hsz hdf h
       have e23:ac.tmps[23]?=some (.pointer (some ⟨gd,259,none⟩)):=by obtain ⟨v,h1,h2⟩:=h 23 (by decide +kernel);rw [h1];exact congrArg some h2
       clear h hsz hdf
       have hy:=(hP.1 rfl).kids
       go_wp2
       exact ⟨_,rfl,rfl,Chg.refl _ _⟩
      ·
       intro ac wx hE hP hsz hdf h
       have e5:ac.tmps[5]?=some (.pointer (some ⟨gk,0,none⟩)):=by obtain ⟨v,h1,h2⟩:=h 5 (by decide +kernel);exact h1.trans (h2.symm.trans rfl)
       clear h hsz hdf
       obtain ⟨q0,q1,q2,q3,q4,q5,q6,q7⟩:=NodeB.cells (Blk.chg HKB.out hE hkX)
       go_wp2
       exact ⟨_,rfl,rfl,Chg.refl _ _⟩
      ·
       intro ac wx hE hP hsz hdf h
       have e25:ac.tmps[25]?=some (.agg #[.int .i64 k',.int .i64 m',.bool z',.int .u64 (wd p' 0:Nat),.int .u64 (wd p' 1:Nat),.int .u64 (wd p' 2:Nat),.int .u64 (wd p' 3:Nat),.slice B' n' c']):=by obtain ⟨v,h1,h2⟩:=h 25 (by decide +kernel);rw [h1];exact congrArg some h2
       clear h hsz hdf
       go_wp2_with ((go_at_call 13;refine (ih tk HT.out HTS.out _ wx (nodeC k' m' z' p' B' n' c') (HVK.out.chg hE (fun x hx=>HSX.out x hx))).mono ?_;rintro e w9 ⟨l9,rfl,hv9,hb9⟩))
       exact ⟨_,rfl,⟨l9,rfl,hv9.mono (fun b _ hb=>Nat.le_trans hE.size hb)⟩,.of_ext hb9⟩
      ·
       intro ac wx hE hP hsz hdf h
       have e26:∃ l:List Value,ac.tmps[26]?=some (.agg l.toArray)∧DNodeV (fun b=>wk.heap.size≤b) wx tk l:=by obtain ⟨v,h1,l,h2,h3⟩:=h 26 (by decide +kernel);exact ⟨l,h1.trans (congrArg some h2),h3⟩
       obtain ⟨l8,e26,hl8⟩:=e26
       clear h hsz hdf
       refine mk_dn rfl (.tmp 26) rfl (dnodeV_len hl8) ?_ ?_
       ·simp [Act.eval,e26]
       ·go_wp2;exact ⟨_,rfl,⟨_,l8,rfl,Blk.newL wx _ _,hE.size,hl8.keep (Ext.new1 _ _)⟩,.of_ext (Ext.new1 _ _)⟩
      ·
       intro ac wx hE hP hsz hdf h
       have e24:ac.tmps[24]?=some (.slice A9 iq c9):=by obtain ⟨v,h1,h2⟩:=h 24 (by decide +kernel);rw [h1];exact congrArg some h2
       have e27:∃ g,∃ l:List Value,ac.tmps[27]?=some (.slice (some ⟨g,0,none⟩) 1 1)∧Blk wx g 38 l∧wk.heap.size≤g∧DNodeV (fun b=>wk.heap.size≤b) wx tk l:=by obtain ⟨v,h1,g,l,h2,h3⟩:=h 27 (by decide +kernel);exact ⟨g,l,h1.trans (congrArg some h2),h3⟩
       obtain ⟨g8,l8,e27,hb8,hg8,hl8⟩:=e27
       have ho8:=hP.2.1 rfl
       have hz8:=hE.size
       clear h hsz hdf
       obtain ⟨⟨cs8,hown8,hks8⟩,hgt8⟩:=ho8
       refine wpList_app2 elemDn rfl (.tmp 24) (.tmp 27) rfl (v:=.slice A9 iq c9) (n:=iq) (xs:=cs8) ?_ (by rw [List.length_take_of_le HIL.out] at hown8;exact hown8) (by have:=HB0M.out;omega) (A:=some ⟨g8,0,none⟩) (m:=1) (c:=1) (news:=l8) ?_ (blk_rd1 hb8 (dnodeV_len hl8)) (dnode_one hl8) H63.out H64.out ?_
       ·simp [Act.eval,e24]
       ·simp [Act.eval,e27]
       ·intro v7 w7 hown7 hgr7 _ hat7
        obtain ⟨A7,c7,rfl,_,_,_⟩:=own_rd hown7
        go_wp2
        exact ⟨_,rfl,⟨A7,c7,rfl,by rw [HTT.out];exact DRow.app hks8 hgt8 (hl8.mono (fun b _ hb=>⟨by have:=hlo3;omega,fun e=>by have:=hlo b (by rw [← e];simp);omega⟩)) (by rw [List.length_take_of_le HIL.out];exact hown7) hgr7 hat7 (by omega)⟩,grew_chg hgr7⟩
      ·
       intro ac wx hE hP hsz hdf h
       have e3:ac.tmps[3]?=some (.pointer (some ⟨gd,0,none⟩)):=by obtain ⟨v,h1,h2⟩:=h 3 (by decide +kernel);exact h1.trans (h2.symm.trans rfl)
       clear h hsz hdf
       go_wp2
       exact ⟨_,rfl,rfl,Chg.refl _ _⟩
      ·
       intro ac wx hE hP hsz hdf h
       have e28:∃ A8 c8,ac.tmps[28]?=some (.slice A8 (iq+1) c8)∧DRow B0 gd (.slice A8 (iq+1) c8) (ks.take (iq+1)) wx:=by obtain ⟨v,h1,A8,c8,h2,h3⟩:=h 28 (by decide +kernel);exact ⟨A8,c8,h1.trans (congrArg some h2),h3⟩
       have e29:ac.tmps[29]?=some (.pointer (some ⟨gd,259,none⟩)):=by obtain ⟨v,h1,h2⟩:=h 29 (by decide +kernel);rw [h1];exact congrArg some h2
       obtain ⟨A8,c8,e28,hr8⟩:=e28
       have hb11:=hP.2.2.1 rfl
       clear h hsz hdf
       have f11:=Blk.frozen hb11 259
       have y11:=hb11.kids
       go_wp2
       exact ⟨⟨A8,c8,DB.setKids hb11 _ _ _,hr8.chg ((Chg.refl [gd] wx).setCell (by simp) _) (Nat.le_refl _)⟩,(Chg.refl [gd] wx).setCell (by simp) _⟩
      ·intro ac w9 hE hsz hdf h hrest
       obtain ⟨v0,s0,g0⟩:=h 0 _ rfl
       have e0:=g0 23 rfl
       obtain rfl:v0=.pointer (some ⟨gd,259,none⟩):=s0
       obtain ⟨v1,s1,g1⟩:=h 1 _ rfl
       have e1:=g1 24 rfl
       obtain rfl:v1=.slice A9 iq c9:=s1
       obtain ⟨v2,s2,g2⟩:=h 2 _ rfl
       have e2:=g2 25 rfl
       obtain rfl:v2=.agg #[.int .i64 k',.int .i64 m',.bool z',.int .u64 (wd p' 0:Nat),.int .u64 (wd p' 1:Nat),.int .u64 (wd p' 2:Nat),.int .u64 (wd p' 3:Nat),.slice B' n' c']:=s2
       obtain ⟨v3,s3,g3⟩:=h 3 _ rfl
       have e3:=g3 26 rfl
       replace s3:∃ l:List Value,v3=.agg l.toArray∧DNodeV (fun b=>wk.heap.size≤b) w9 tk l:=s3
       obtain ⟨v4,s4,g4⟩:=h 4 _ rfl
       have e4:=g4 27 rfl
       replace s4:∃ g,∃ l:List Value,v4=.slice (some ⟨g,0,none⟩) 1 1∧Blk w9 g 38 l∧wk.heap.size≤g∧DNodeV (fun b=>wk.heap.size≤b) w9 tk l:=s4
       obtain ⟨v5,s5,g5⟩:=h 5 _ rfl
       have e5:=g5 28 rfl
       replace s5:∃ A8 c8,v5=.slice A8 (iq+1) c8∧DRow B0 gd (.slice A8 (iq+1) c8) (ks.take (iq+1)) w9:=s5
       obtain ⟨v6,s6,g6⟩:=h 6 _ rfl
       have e6:=g6 29 rfl
       obtain rfl:v6=.pointer (some ⟨gd,259,none⟩):=s6
       obtain ⟨v7,s7,-⟩:=h 7 _ rfl
       replace s7:∃ A8 c8,DB w9 gd k m z p A8 (iq+1) c8∧DRow B0 gd (.slice A8 (iq+1) c8) (ks.take (iq+1)) w9:=s7
       have ha:=act_of [(23,.pointer (some ⟨gd,259,none⟩)),(24,.slice A9 iq c9),(25,.agg #[.int .i64 k',.int .i64 m',.bool z',.int .u64 (wd p' 0:Nat),.int .u64 (wd p' 1:Nat),.int .u64 (wd p' 2:Nat),.int .u64 (wd p' 3:Nat),.slice B' n' c']),(26,v3),(27,v4),(28,v5),(29,.pointer (some ⟨gd,259,none⟩))] rfl hsz hdf (by intro p hp;simp only [List.mem_cons,List.not_mem_nil,or_false] at hp;rcases hp with rfl | rfl | rfl | rfl | rfl | rfl | rfl <;> first | exact e0 | exact e1 | exact e2 | exact e3 | exact e4 | exact e5 | exact e6) hrest
       clear h hrest hsz hdf e0 e1 e2 e3 e4 e5 e6 g0 g1 g2 g3 g4 g5 g6
       subst ha
       simp only [List.foldl_cons,List.foldl_nil,Act.put,List.setIfInBounds_toArray,List.set_cons_succ,List.set_cons_zero]
       obtain ⟨A8,c8,hdb8,hrw8⟩:=s7
       have HDB8:=Lib.hid hdb8
       have HRW8:=Lib.hid hrw8
       have HB28:=Lib.hid (Blk.chg HB2K.out hE (fun hm=>(HXB.out _ hm).2 rfl))
       have HX8:=Lib.hid (show Ext w w9 from hE.below HXK.out (HXK.out.size) (fun y hy=>by rw [HBE.out];exact (HXB.out y hy).1))
       clear s3 s4 s5 hdb8 hrw8 hE HDB HRW HKB HVK HB2K HXK hap hlo hlo3 hkX
       go_wp2
       go_roundg (ks.length-(iq+1))
       case measure=>omega
       case rel=>exact ⟨iq+1,A8,c8,by omega,rfl,by go_num,HDB8.out,HRW8.out,HB28.out,HX8.out⟩
     ·obtain rfl:iq=ks.length:=by omega
      have hlt':¬ (ks.length:Int)<(ks.length:Int):=by omega
      have hrw:=hrw'.out
      rw [List.take_length] at hrw
      have hg3':=HG3.out
      have hne:¬ gd=B0+1:=by omega
      obtain ⟨⟨cs8,hown8,hks8⟩,hgt8⟩:=hrw.chg (rowChg4 wr (B0+1) (dnC k m z p A9 ks.length c9).toArray) (by omega)
      obtain ⟨A7,c7,hve,hc1,hc2,hrd⟩:=own_rd hown8
      cases hve
      have hob:∀ b o x,A9=some ⟨b,o,x⟩→0<ks.length→w.heap.size≤b:=fun b o x e _=>by
       have:=hown8.lt b (by subst e;rfl)
       rw [HBE.out];omega
      have HN:=Lib.hid (show DNodeV (fun b=>w.heap.size≤b) (wr.setRow (B0+1) (dnC k m z p A9 ks.length c9).toArray) (.node k m z p ks) (dnC k m z p A9 ks.length c9) from by
       unfold DNodeV
       refine ⟨A9,c9,cs8,rfl,hc1,hc2,hrd,hob,dkidsV_map (fun t v h=>h.mono (fun b _ hb=>?_)) hks8⟩
       have:=hb.1
       rw [HBE.out];omega)
      have HXF:=Lib.hid (show Ext w (wr.setRow (B0+1) (dnC k m z p A9 ks.length c9).toArray) from hx.row _ _ (by rw [HBE.out];omega))
      have HDF:=Lib.hid (show DB (wr.setRow (B0+1) (dnC k m z p A9 ks.length c9).toArray) (B0+1) k m z p A9 ks.length c9 from by exact Blk.row hb2'.out _)
      clear hrw hown8 hks8 hgt8 hrd hob hg3' hc1 hc2 hx
      go_wp2_with (first
       | (refine load_dn rfl (.tmp 3) rfl (g:=gd) rfl hdb'.out ?_)
       | (refine store_dn rfl (.tmp 2) (.tmp 31) rfl (g:=B0+1) (k:=k) (m:=m) (z:=z) (p:=p) (A:=A9) (n:=ks.length) (c:=c9) rfl rfl hb2'.out (by rw [Array.length_toList];exact zsize40) ?_))
      exact bodyPost_ret (v:=.agg (dnC k m z p A9 ks.length c9).toArray) (results_dn rfl _ _ (B0+1) (by simp) HDF.out) rfl ⟨_,rfl,HN.out,HXF.out⟩
end Go.Proofs.YtigmdlchbjanoaaGreatDoor
namespace Go.Proofs.YtigmdlchbjanoaaGreatDoor
open Go Go.RowKit
section
variable {w:World} {ops:Array Oper} {rest:List Oper} {o:Oper} {a:Act} {Q:Exit→Act→World→Prop}
theorem load_elH {j:Nat} {b0:Bool} {d:Nat} (hgd:o.guard=some (j,b0)) (hj:(ops[j]?).bind (·.dst)=some d) (hd:a.tmps[d]?=some (.bool b0)) (x:Operand) (ho:o.op=.load 38 x)
  {b q:Nat} {k m:Int} {z:Bool} {p:Nat→Bool} {A:Option Addr} {n c:Nat} (hx:a.eval x=.pointer (some ⟨b,q,none⟩)) (hg:w.rangeAt b q (dnC k m z p A n c))
  (h:wpList Tryz.prog ops Q rest (a.put o.dst (.agg (dnC k m z p A n c).toArray)) w):wpList Tryz.prog ops Q (o :: rest) a w:=
 wpList_step fun K hK=>by
  rw [if_pos (by simp [Region.wanted,hgd,yielded,hj,hd])]
  exact wp_load_mid _ x ho b q hx _ _ hg Tryz.underlying38 rfl (by rw [dn_len];exact dn_size) (hK _ _ h)
theorem load_dnH {j:Nat} {b0:Bool} {d:Nat} (hgd:o.guard=some (j,b0)) (hj:(ops[j]?).bind (·.dst)=some d) (hd:a.tmps[d]?=some (.bool b0)) (x:Operand) (ho:o.op=.load 38 x)
  {g:Nat} {k m:Int} {z:Bool} {p:Nat→Bool} {A:Option Addr} {n c:Nat} (hx:a.eval x=.pointer (some ⟨g,0,none⟩)) (hg:DB w g k m z p A n c)
  (h:wpList Tryz.prog ops Q rest (a.put o.dst (.agg (dnC k m z p A n c).toArray)) w):wpList Tryz.prog ops Q (o :: rest) a w:=
 wpList_step fun K hK=>by
  rw [if_pos (by simp [Region.wanted,hgd,yielded,hj,hd])]
  exact wp_load_row _ x ho g hx _ _ _ _ hg Tryz.underlying38 rfl (by simp only [List.size_toArray,dn_len];exact dn_size) (hK _ _ h)
theorem load_dsetH {j:Nat} {b0:Bool} {d:Nat} (hgd:o.guard=some (j,b0)) (hj:(ops[j]?).bind (·.dst)=some d) (hd:a.tmps[d]?=some (.bool b0)) (x:Operand) (ho:o.op=.load 35 x)
  {g:Nat} {k m:Int} {z:Bool} {p:Nat→Bool} {A:Option Addr} {n c:Nat} (hx:a.eval x=.pointer (some ⟨g,3,none⟩)) (hg:DB w g k m z p A n c)
  (h:wpList Tryz.prog ops Q rest (a.put o.dst (.agg (bcs p))) w):wpList Tryz.prog ops Q (o :: rest) a w:=
 wpList_step fun K hK=>by
  rw [if_pos (by simp [Region.wanted,hgd,yielded,hj,hd])]
  exact wp_load_mid _ x ho g 3 hx _ _ hg.set Tryz.underlying35 rfl (by rw [Array.length_toList,bcs_size];exact set_size) (hK _ _ (by rw [Array.toArray_toList];exact h))
end
theorem allN_append (a b:List T):allN (a ++ b)=(allN a && allN b):=by
 induction a with
 | nil=>simp [allN]
 | cons x r ih=>simp only [List.cons_append,allN,ih,Bool.and_assoc]
theorem allN_take {ks:List T} {i:Nat} (hi:i<ks.length):allN (ks.take (i+1))=(allN (ks.take i) && (ks[i]'hi).nullable):=by
 rw [List.take_succ_eq_append_getElem hi,allN_append,allN,allN,Bool.and_true]
theorem anyN_take {ks:List T} {i:Nat} (hi:i<ks.length):anyN (ks.take (i+1))=(anyN (ks.take i) || (ks[i]'hi).nullable):=by
 rw [List.take_succ_eq_append_getElem hi,any_append,anyN,anyN,Bool.or_false]
theorem headN_get {ks:List T} (h:0<ks.length):headN ks=(ks[0]'h).nullable:=by
 cases ks with
 | nil=>simp at h
 | cons x r=>rfl
set_option maxHeartbeats 8000000 in
set_option maxRecDepth 20000 in
theorem refNullable:∀ n,∀ t:T,t.size≤n→∀ S w v,DNodeV S w t v →
  Calls Tryz.prog 31 #[.agg v.toArray] w fun e w'=>e=.returned (.bool t.nullable)∧Ext w w':=by
 intro n
 induction n with
 | zero=>intro t ht;have:=size_pos t;omega
 | succ n ih =>
  intro t ht S w v h
  cases t with
  | node k m z p ks =>
   obtain ⟨A,c,cs,rfl,h1,h2,h3,h5⟩:=h.kids
   rw [size_node] at ht
   have hlk:=sizeL_len ks
   have hx0:=Lib.hid (Ext.new1 w (.cells (dnC k m z p A ks.length c).toArray 38))
   have HR:=Lib.hid (h3.keep hx0.out)
   have HK:=Lib.hid (dkidsV_map (fun t v h=>DNodeV.keep h hx0.out) h5)
   have HB0:=Lib.hid (DB.new w k m z p A ks.length c)
   unfold maxLen at h2
   have hkl:ks.length≤9223372036854775807:=by omega
   clear h3 h5 h h2
   have hnl:(T.node k m z p ks).nullable=if k=1∨k=5∨k=7 then true else if k=3 then allN ks else if k=4 then anyN ks else if k=6∨k=8 then headN ks else false:=by rw [T.nullable]
   obtain ⟨rv,hrv⟩:∃ rv,(T.node k m z p ks).nullable=rv:=⟨_,rfl⟩
   rw [hrv] at hnl ⊢
   have HNL:=Lib.hid hnl
   clear hrv hnl
   go_enter Tryz.func31,Tryz.ntmps31
   go_upto_region 2 with fail
   generalize w.alloc (.cells (dnC k m z p A ks.length c).toArray 38)=wb at *
   generalize w.heap.size=g0 at *
   have y7:=HB0.out.kids
   go_wp2
   clear y7
   go_loopg [3,4,11] (ks.length) (fun g a b iv wr=>∃ i:Nat,i≤ks.length∧g=ks.length-i∧a=.bool (allN (ks.take i))∧b=.bool (anyN (ks.take i))∧iv=.int .i64 (i:Nat)∧Ext wb wr)
   case atStart=>exact ⟨0,by omega,rfl,by rw [List.take_zero,allN],by rw [List.take_zero,anyN],rfl,Ext.refl _⟩
   case round =>
    obtain ⟨i,hi,rfl,rfl,rfl,rfl,hx⟩:=hrel
    by_cases hlt:i<ks.length
    ·obtain ⟨b,o,k',m',z',p',B,n',c',rfl,hv,hk⟩:=dkid_at HR.out HK.out hlt
     have hrg:=Lib.hid (hk.out wr hx)
     have hmem:=sizeL_mem (List.getElem_mem hlt)
     have hs1:=allN_take hlt
     have hs2:=anyN_take hlt
     obtain ⟨qa,hqa⟩:∃ q,allN (ks.take i)=q:=⟨_,rfl⟩
     obtain ⟨qb,hqb⟩:∃ q,anyN (ks.take i)=q:=⟨_,rfl⟩
     obtain ⟨r,hr⟩:∃ r,(ks[i]'hlt).nullable=r:=⟨_,rfl⟩
     rw [hqa,hr] at hs1
     rw [hqb,hr] at hs2
     have hw2:IntKind.i64.wrap ((i:Int)+1)=(i:Int)+1:=wrap_id (by omega) (by omega)
     have hlt':(i:Int)<(ks.length:Int):=by omega
     have HV:=Lib.hid ((hv.keep hx).keep (Ext.new1 wr (.cells (dnC k' m' z' p' B n' c').toArray 38)))
     have HX:=Lib.hid (Ext.trans hx (Ext.new1 wr (.cells (dnC k' m' z' p' B n' c').toArray 38)))
     have HS:=Lib.hid hs1
     have HS2:=Lib.hid hs2
     have HT:=Lib.hid (show (ks[i]'hlt).size≤n by omega)
     have HRR:=Lib.hid hr
     rw [hqa,hqb]
     clear hv hs1 hs2 hmem hqa hqb hr ht hk
     cases qa <;> cases qb
     all_goals
      go_wp2_with (first
       | (refine load_el rfl (.tmp 13) rfl (b:=b) (q:=o+i*260) rfl hrg.out ?_)
       | (refine store_dn_new rfl (.tmp 6) (.tmp 14) rfl rfl rfl zsize40 ?_)
       | (refine load_dn rfl (.tmp 6) rfl (g:=wr.heap.size) rfl (DB.new wr _ _ _ _ _ _ _) ?_)
       | (go_at_call 31;refine (ih _ HT.out S _ (dnC k' m' z' p' B n' c') HV.out).mono ?_;rintro e w1 ⟨rfl,hx1⟩;rw [HRR.out]))
      go_roundg (ks.length-(i+1))
      case measure=>omega
      case rel=>exact ⟨i+1,by omega,rfl,by rw [HS.out];simp,by rw [HS2.out];simp,by go_num,Ext.trans HX.out hx1⟩
    ·obtain rfl:i=ks.length:=by omega
     have hlt':¬ (ks.length:Int)<(ks.length:Int):=by omega
     rw [List.take_length]
     have hb:=HB0.out.keep hx
     have HBr:=Lib.hid hb
     have y0:=hb.kind
     have y7:=hb.kids
     have HXr:=Lib.hid hx
     clear hb hx
     have hnl:=HNL.out
     by_cases k1:k=1
     ·subst k1
      rw [if_pos (by decide)] at hnl
      have E:=Lib.hid hnl
      clear hnl
      go_wp2
      go_ret
      exact ⟨by rw [E.out];rfl,Ext.trans hx0.out HXr.out⟩
     have d1:(k == 1)=false:=by simp [k1]
     by_cases k5:k=5
     ·subst k5
      rw [if_pos (by decide)] at hnl
      have E:=Lib.hid hnl
      clear hnl
      go_wp2
      go_ret
      exact ⟨by rw [E.out];rfl,Ext.trans hx0.out HXr.out⟩
     have d5:(k == 5)=false:=by simp [k5]
     by_cases k7:k=7
     ·subst k7
      rw [if_pos (by decide)] at hnl
      have E:=Lib.hid hnl
      clear hnl
      go_wp2
      go_ret
      exact ⟨by rw [E.out];rfl,Ext.trans hx0.out HXr.out⟩
     have d7:(k == 7)=false:=by simp [k7]
     rw [if_neg (by omega)] at hnl
     by_cases k3:k=3
     ·subst k3
      rw [if_pos rfl] at hnl
      have E:=Lib.hid hnl
      clear hnl
      go_wp2
      go_ret
      exact ⟨by rw [E.out];rfl,Ext.trans hx0.out HXr.out⟩
     have d3:(k == 3)=false:=by simp [k3]
     rw [if_neg k3] at hnl
     by_cases k4:k=4
     ·subst k4
      rw [if_pos rfl] at hnl
      have E:=Lib.hid hnl
      clear hnl
      go_wp2
      go_ret
      exact ⟨by rw [E.out];rfl,Ext.trans hx0.out HXr.out⟩
     have d4:(k == 4)=false:=by simp [k4]
     rw [if_neg k4] at hnl
     by_cases k68:k=6∨k=8
     ·rw [if_pos k68] at hnl
      by_cases hpos:0<ks.length
      ·obtain ⟨b,o,k',m',z',p',B,n',c',rfl,hv,hk⟩:=dkid_at HR.out HK.out hpos
       have hrg:=hk.out wr HXr.out
       rw [Nat.zero_mul,Nat.add_zero] at hrg
       have HRG:=Lib.hid hrg
       have hmem:=sizeL_mem (List.getElem_mem hpos)
       have HT:=Lib.hid (show (ks[0]'hpos).size≤n by omega)
       have HV:=Lib.hid (hv.keep HXr.out)
       have HH:=Lib.hid (headN_get hpos)
       have hpos':(0:Int)<(ks.length:Int):=by omega
       rw [HH.out] at hnl
       have E:=Lib.hid hnl
       clear hnl hrg hk hv hmem k1 k5 k7 k3 k4
       rcases k68 with rfl | rfl
       all_goals
        go_wp2_with (first
         | (refine load_elH (j:=4) (b0:=true) (d:=45) rfl rfl rfl (.tmp 48) rfl (b:=b) (q:=o) rfl HRG.out ?_)
         | (go_at_call 31;refine (ih _ HT.out S _ (dnC k' m' z' p' B n' c') HV.out).mono ?_;rintro e w1 ⟨rfl,hx1⟩))
        go_ret
        exact ⟨by rw [E.out];rfl,Ext.trans hx0.out (Ext.trans HXr.out hx1)⟩
      ·obtain rfl:ks=[]:=List.eq_nil_of_length_eq_zero (by omega)
       rw [headN] at hnl
       have E:=Lib.hid hnl
       clear hnl k1 k5 k7 k3 k4
       rcases k68 with rfl | rfl
       all_goals
        go_wp2
        go_ret
        exact ⟨by rw [E.out];rfl,Ext.trans hx0.out HXr.out⟩
     ·rw [if_neg k68] at hnl
      have E:=Lib.hid hnl
      have d6:(k == 6)=false:=by simp;exact fun e=>k68 (.inl e)
      have d8:(k == 8)=false:=by simp;exact fun e=>k68 (.inr e)
      clear hnl k1 k5 k7 k3 k4 k68
      go_wp2
      go_ret
      exact ⟨by rw [E.out];rfl,Ext.trans hx0.out HXr.out⟩
end Go.Proofs.YtigmdlchbjanoaaGreatDoor
