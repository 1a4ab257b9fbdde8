/- The document's parser in memory: a row of what is open, each with two rows of nodes of its own. Types are letters here: eN a node's, eO what is open. -/
import Derived.Test.YtigmdlchbjanoaaDoorPTgS
import Derived.Test.YtigmdlchbjanoaaDoorPRp1
namespace Go.Proofs.YtigmdlchbjanoaaDoor
open Go Go.RowKit
/-- What is open, in its place: with the values of its two rows. -/
structure OpS where
 o:Op
 va:Value
 vi:Value
def OpS.cells (x:OpS):List Value:=[.int .i64 (x.o.num:Nat),x.va,x.vi]
def OpS.live (x:OpS):List Nat:=x.va.ownBlock.toList ++ x.vi.ownBlock.toList
def cellsO (st:List OpS):List Value:=st.flatMap OpS.cells
def liveO (vs:Value) (st:List OpS):List Nat:=vs.ownBlock.toList ++ st.flatMap OpS.live
/-- Two rows of nodes. -/
structure OpV (B:Nat) (eN:TypeId) (S:Nat→Prop) (w:World) (x:OpS):Prop where
 a:∃ cs,w.ownsRow B eN 260 x.va x.o.alts.length cs∧DKidsV S w x.o.alts cs
 i:∃ cs,w.ownsRow B eN 260 x.vi x.o.items.length cs∧DKidsV S w x.o.items cs
/-- The whole row. -/
structure PStk (B:Nat) (eN eO:TypeId) (w:World) (vs:Value) (st:List OpS):Prop where
 row:w.ownsRow B eO 3 vs st.length (cellsO st)
 each:∀ x ∈ st,OpV B eN (fun b=>B≤b∧b ∉ liveO vs st) w x
 nodup:(liveO vs st).Nodup
theorem DKidsV.chgX {S S':Nat→Prop} {w w':World} {ks:List T} {cs:List Value} {X:List Nat} (h:DKidsV S w ks cs) (hx:Chg X w w') (hs:∀ b,b<w.heap.size→S b→b ∉ X∧S' b):DKidsV S' w' ks cs:=
 dkidsV_map (fun t v hn=>dnodeV_stay hx.size (fun b hb hlt=>⟨(hs b hlt hb).2,hx.block b hlt (hs b hlt hb).1⟩) t.size t (Nat.le_refl _) v hn) h
theorem OpV.chgX {B:Nat} {eN:TypeId} {S S':Nat→Prop} {w w':World} {x:OpS} {X:List Nat} (h:OpV B eN S w x) (hx:Chg X w w') (hl:∀ k ∈ x.live,k ∉ X) (hs:∀ b,b<w.heap.size→S b→b ∉ X∧S' b):OpV B eN S' w' x:=by
 obtain ⟨⟨ca,a1,a2⟩,⟨ci,i1,i2⟩⟩:=h
 refine ⟨⟨ca,own_chg a1 hx (fun k hk hm=>hl k ?_ hm),a2.chgX hx hs⟩,⟨ci,own_chg i1 hx (fun k hk hm=>hl k ?_ hm),i2.chgX hx hs⟩⟩
 ·unfold OpS.live;rw [List.mem_append];exact .inl (by simp [hk])
 ·unfold OpS.live;rw [List.mem_append];exact .inr (by simp [hk])
theorem PStk.liveLt {B:Nat} {eN eO:TypeId} {w:World} {vs:Value} {st:List OpS} (h:PStk B eN eO w vs st):∀ k ∈ liveO vs st,k<w.heap.size:=fun k hk=>by
 unfold liveO at hk
 rcases List.mem_append.1 hk with h1 | h1
 ·exact (h.row.lt k (by simpa using h1)).2
 ·obtain ⟨x,hx,hk⟩:=List.mem_flatMap.1 h1
  obtain ⟨⟨ca,a1,_⟩,⟨ci,i1,_⟩⟩:=h.each x hx
  unfold OpS.live at hk
  rcases List.mem_append.1 hk with h2 | h2
  ·exact (a1.lt k (by simpa using h2)).2
  ·exact (i1.lt k (by simpa using h2)).2
theorem PStk.keep {B:Nat} {eN eO:TypeId} {w w':World} {vs:Value} {st:List OpS} (h:PStk B eN eO w vs st) (hx:Ext w w'):PStk B eN eO w' vs st:=
 ⟨own_ext h.row hx,fun x hm=>(h.each x hm).chgX (X:=[]) (.of_ext hx) (fun _ _=>by simp) (fun b _ hb=>⟨by simp,hb⟩),h.nodup⟩
theorem liveO_snoc (vs:Value) (st:List OpS) (x:OpS):liveO vs (st ++ [x])=liveO vs st ++ x.live:=by simp [liveO]
theorem cellsO_snoc (st:List OpS) (x:OpS):cellsO (st ++ [x])=cellsO st ++ x.cells:=by simp [cellsO]
theorem cellsO_len (st:List OpS):(cellsO st).length=st.length*3:=by
 unfold cellsO
 induction st with
 | nil=>rfl
 | cons x st ih=>rw [List.flatMap_cons,List.length_append,ih,List.length_cons];simp [OpS.cells];omega
/-- The innermost one's rows have turned: all others, and the row itself, stay. -/
theorem PStk.turn {B:Nat} {eN eO:TypeId} {w w':World} {vs:Value} {st:List OpS} {x y:OpS} (h:PStk B eN eO w vs (st ++ [x])) (hc:Chg x.live w w') (hy:∀ k ∈ y.live,k ∈ x.live∨w.heap.size≤k) (hyn:y.live.Nodup) :
  w'.ownsRow B eO 3 vs (st.length+1) (cellsO st ++ x.cells)∧(∀ z ∈ st,OpV B eN (fun b=>B≤b∧b ∉ liveO vs (st ++ [y])) w' z)∧(liveO vs (st ++ [y])).Nodup:=by
 have hnd:=h.nodup
 rw [liveO_snoc,List.nodup_append] at hnd
 obtain ⟨n1,n2,n3⟩:=hnd
 have hll:∀ k ∈ liveO vs st,k<w.heap.size:=fun k hk=>h.liveLt k (by rw [liveO_snoc,List.mem_append];exact .inl hk)
 have hny:∀ a ∈ liveO vs st,∀ b ∈ y.live,a ≠ b:=fun a ha b hb e=>by
  subst e
  rcases hy a hb with h1 | h1
  ·exact n3 a ha a h1 rfl
  ·have:=hll a ha;omega
 refine ⟨?_,fun z hz=>?_,?_⟩
 ·have hr:=own_chg h.row hc (fun k hk hm=>n3 k (by unfold liveO;rw [List.mem_append];exact .inl (by simp [hk])) k hm rfl)
  rwa [cellsO_snoc,List.length_append,List.length_singleton] at hr
 ·refine (h.each z (by simp [hz])).chgX hc (fun k hk hm=>?_) (fun b hlt hb=>?_)
  ·exact n3 k (by unfold liveO;rw [List.mem_append];exact .inr (List.mem_flatMap.2 ⟨z,hz,hk⟩)) k hm rfl
  ·rw [liveO_snoc,List.mem_append] at hb
   refine ⟨fun hm=>hb.2 (.inr hm),hb.1,?_⟩
   rw [liveO_snoc,List.mem_append]
   rintro (h1 | h1)
   ·exact hb.2 (.inl h1)
   ·rcases hy b h1 with h2 | h2
    ·exact hb.2 (.inr h2)
    ·omega
 ·rw [liveO_snoc,List.nodup_append]
  exact ⟨n1,hyn,hny⟩
/-- And once its cells are told in the row. -/
theorem PStk.put {B:Nat} {eN eO:TypeId} {w w' w'':World} {vs:Value} {st:List OpS} {x y:OpS} {Y:List Nat} (h:PStk B eN eO w vs (st ++ [x])) (hc:Chg x.live w w') (hy:∀ k ∈ y.live,k ∈ x.live∨w.heap.size≤k) (hyn:y.live.Nodup)
  (hO:OpV B eN (fun b=>B≤b∧b ∉ liveO vs (st ++ [y])) w' y) (hYs:∀ k ∈ Y,vs.ownBlock=some k) (hc2:Chg Y w' w'') (hrow:w''.ownsRow B eO 3 vs (st.length+1) (cellsO st ++ y.cells)):PStk B eN eO w'' vs (st ++ [y]):=by
 obtain ⟨t1,t2,t3⟩:=h.turn hc hy hyn
 have hmem:∀ k ∈ Y,k ∈ vs.ownBlock.toList:=fun k hk=>by simp [hYs k hk]
 have hin:∀ k ∈ Y,k ∈ liveO vs (st ++ [y]):=fun k hk=>by unfold liveO;rw [List.mem_append];exact .inl (hmem k hk)
 have hapart:∀ z ∈ st ++ [y],∀ k ∈ z.live,k ∉ Y:=fun z hz k hk hm=>by
  have h1:=t3
  unfold liveO at h1
  rw [List.nodup_append] at h1
  exact h1.2.2 k (hmem k hm) k (List.mem_flatMap.2 ⟨z,hz,hk⟩) rfl
 refine ⟨by rw [cellsO_snoc,List.length_append,List.length_singleton];exact hrow,fun z hz=>?_,t3⟩
 have hV:OpV B eN (fun b=>B≤b∧b ∉ liveO vs (st ++ [y])) w' z:=by
  rcases List.mem_append.1 hz with h1 | h1
  ·exact t2 z h1
  ·rw [List.mem_singleton.1 h1];exact hO
 exact hV.chgX hc2 (hapart z hz) (fun b _ hb=>⟨fun hm=>hb.2 (hin b hm),hb⟩)
/-- The innermost one goes: what it held may be held by others. -/
theorem PStk.pop {B:Nat} {eN eO:TypeId} {w:World} {vs vs':Value} {st:List OpS} {x:OpS} (h:PStk B eN eO w vs (st ++ [x])) (hv:vs'.ownBlock=vs.ownBlock) (hrow:w.ownsRow B eO 3 vs' st.length (cellsO st)):PStk B eN eO w vs' st∧OpV B eN (fun b=>B≤b∧b ∉ liveO vs' st) w x∧∀ k ∈ x.live,k ∉ liveO vs' st:=by
 have hnd:=h.nodup
 rw [liveO_snoc,List.nodup_append] at hnd
 obtain ⟨n1,n2,n3⟩:=hnd
 have e:liveO vs' st=liveO vs st:=by unfold liveO;rw [hv]
 have hS:∀ b,b<w.heap.size→(B≤b∧b ∉ liveO vs (st ++ [x]))→b ∉ ([]:List Nat)∧B≤b∧b ∉ liveO vs' st:=fun b _ hb=>⟨by simp,hb.1,fun hm=>hb.2 (by rw [liveO_snoc,List.mem_append];exact .inl (e ▸ hm))⟩
 refine ⟨⟨hrow,fun z hz=>(h.each z (by simp [hz])).chgX (Chg.refl [] w) (fun _ _=>by simp) hS,e ▸ n1⟩,(h.each x (by simp)).chgX (Chg.refl [] w) (fun _ _=>by simp) hS,fun k hk hm=>n3 k (e ▸ hm) k hk rfl⟩
/-- One more is opened. -/
theorem PStk.push {B:Nat} {eN eO:TypeId} {w w':World} {vs vs':Value} {st:List OpS} (h:PStk B eN eO w vs st) (num:Nat) (hc:Chg vs.ownBlock.toList w w') (hv:∀ k,vs'.ownBlock=some k→vs.ownBlock=some k∨w.heap.size≤k)
  (hrow:w'.ownsRow B eO 3 vs' (st.length+1) (cellsO st ++ [.int .i64 (num:Nat),.slice none 0 0,.slice none 0 0])):PStk B eN eO w' vs' (st ++ [⟨⟨num,[],[]⟩,.slice none 0 0,.slice none 0 0⟩]):=by
 have hnd:=h.nodup
 unfold liveO at hnd
 rw [List.nodup_append] at hnd
 obtain ⟨n1,n2,n3⟩:=hnd
 have e:liveO vs' (st ++ [⟨⟨num,[],[]⟩,.slice none 0 0,.slice none 0 0⟩])=vs'.ownBlock.toList ++ st.flatMap OpS.live:=by simp [liveO,OpS.live,Value.ownBlock]
 have hlt:∀ k ∈ st.flatMap OpS.live,k<w.heap.size:=fun k hk=>h.liveLt k (by unfold liveO;rw [List.mem_append];exact .inr hk)
 refine ⟨by rw [cellsO_snoc,List.length_append,List.length_singleton];exact hrow,fun z hz=>?_,?_⟩
 ·rcases List.mem_append.1 hz with h1 | h1
  ·refine (h.each z h1).chgX hc (fun k hk hm=>n3 k hm k (List.mem_flatMap.2 ⟨z,h1,hk⟩) rfl) (fun b hb hs=>?_)
   unfold liveO at hs
   rw [List.mem_append] at hs
   refine ⟨fun hm=>hs.2 (.inl hm),hs.1,?_⟩
   rw [e,List.mem_append]
   rintro (h2 | h2)
   ·rcases hv b (by simpa using h2) with h3 | h3
    ·exact hs.2 (.inl (by simp [h3]))
    ·omega
   ·exact hs.2 (.inr h2)
  ·rw [List.mem_singleton.1 h1]
   exact ⟨⟨[],World.ownsRow_nil _ _ _ _,by unfold DKidsV;rfl⟩,⟨[],World.ownsRow_nil _ _ _ _,by unfold DKidsV;rfl⟩⟩
 ·rw [e,List.nodup_append]
  refine ⟨?_,n2,fun a ha b hb e2=>?_⟩
  ·cases vs'.ownBlock <;> simp
  ·subst e2
   rcases hv a (by simpa using ha) with h3 | h3
   ·exact n3 a (by simp [h3]) a hb rfl
   ·have:=hlt a hb;omega
/-- The first one. -/
theorem PStk.first {B:Nat} {eN eO:TypeId} {w:World} {vs:Value} (num:Nat) (hrow:w.ownsRow B eO 3 vs 1 [.int .i64 (num:Nat),.slice none 0 0,.slice none 0 0]):PStk B eN eO w vs [⟨⟨num,[],[]⟩,.slice none 0 0,.slice none 0 0⟩]:=by
 refine ⟨by simpa [cellsO,OpS.cells] using hrow,fun z hz=>?_,?_⟩
 ·rw [List.mem_singleton.1 hz]
  exact ⟨⟨[],World.ownsRow_nil _ _ _ _,by unfold DKidsV;rfl⟩,⟨[],World.ownsRow_nil _ _ _ _,by unfold DKidsV;rfl⟩⟩
 ·have e:liveO vs [⟨⟨num,[],[]⟩,.slice none 0 0,.slice none 0 0⟩]=vs.ownBlock.toList:=by simp [liveO,OpS.live,Value.ownBlock]
  rw [e]
  cases vs.ownBlock <;> simp
/-- Where an own row lies, and its cells. -/
theorem own_blkS {w:World} {base size n:Nat} {e:TypeId} {v:Value} {xs:List Value} (h:w.ownsRow base e size v n xs) (hn:0<n):∃ g c,v=.slice (some ⟨g,0,none⟩) n c∧n≤c∧c≤maxLen∧base≤g∧g<w.heap.size∧(∀ j,w.frozen? ⟨g,j,none⟩=false)∧∀ j u,xs[j]?=some u→w.cell? ⟨g,j,none⟩=some u:=by
 have h0:=h
 rcases h.2 with ⟨h1,h2⟩ | ⟨g,cap,cur,he,hb,hg,h1,h2,h3,h4⟩
 ·omega
 ·subst he
  refine ⟨g,cap,rfl,h1,h2,hb,(h0.lt g rfl).2,fun j=>Lib.frozen_of_heap hg j,fun j u hu=>?_⟩
  have:=h0.cells (g:=g) rfl j u hu
  simpa [Addr.add_lit] using this
/-- An own row cut short. -/
theorem own_cut {w:World} {base size n m g c:Nat} {e:TypeId} {xs:List Value} (h:w.ownsRow base e size (.slice (some ⟨g,0,none⟩) n c) n xs) (hm:m≤n):w.ownsRow base e size (.slice (some ⟨g,0,none⟩) m c) m (xs.take (m*size)):=by
 have hms:m*size≤n*size:=Nat.mul_le_mul_right _ hm
 refine ⟨by rw [List.length_take,h.1];omega,?_⟩
 rcases h.2 with ⟨h1,_⟩ | ⟨g',cap,cur,he,hb,hg,h1,h2,h3,h4⟩
 ·cases h1
 ·cases he
  refine .inr ⟨g,c,cur,rfl,hb,hg,by omega,h2,h3,?_⟩
  rw [← h4,List.take_take]
  congr 1
  omega
theorem cellsO_top (st:List OpS) (x:OpS) (j:Nat) (hj:j<3):(cellsO (st ++ [x]))[st.length*3+j]?=x.cells[j]?:=by
 rw [cellsO_snoc,List.getElem?_append_right (by rw [cellsO_len];omega),cellsO_len]
 congr 1
 omega
theorem cellsO_set1 (st:List OpS) (x:OpS) (v:Value):(cellsO st ++ x.cells).set (st.length*3+1) v=cellsO st ++ OpS.cells ⟨x.o,v,x.vi⟩:=by
 rw [List.set_append_right _ _ (by rw [cellsO_len];omega),cellsO_len]
 congr 1
 rw [show st.length*3+1-st.length*3=1 by omega]
 rfl
theorem cellsO_set2 (st:List OpS) (x:OpS) (v:Value):(cellsO st ++ x.cells).set (st.length*3+2) v=cellsO st ++ OpS.cells ⟨x.o,x.va,v⟩:=by
 rw [List.set_append_right _ _ (by rw [cellsO_len];omega),cellsO_len]
 congr 1
 rw [show st.length*3+2-st.length*3=2 by omega]
 rfl
/-- The row without its last one. -/
theorem PStk.cutRow {B:Nat} {eN eO:TypeId} {w:World} {g c:Nat} {st:List OpS} {x:OpS} (h:PStk B eN eO w (.slice (some ⟨g,0,none⟩) (st.length+1) c) (st ++ [x])):w.ownsRow B eO 3 (.slice (some ⟨g,0,none⟩) st.length c) st.length (cellsO st):=by
 have hr:=h.row
 rw [List.length_append,List.length_singleton] at hr
 have:=own_cut (m:=st.length) hr (by omega)
 rw [cellsO_snoc,← cellsO_len,List.take_left'] at this
 ·exact this
 ·rfl
/-- The row says where the document's parser stands. -/
def OfCfg (top:Op) (rest:List Op) (st:List OpS):Prop:=st.map OpS.o=rest.reverse ++ [top]
theorem ofCfg_split {top:Op} {rest:List Op} {st:List OpS} (h:OfCfg top rest st):∃ st0 x,st=st0 ++ [x]∧x.o=top∧st0.map OpS.o=rest.reverse:=by
 unfold OfCfg at h
 obtain ⟨st0,l2,rfl,h1,h2⟩:=List.map_eq_append_iff.1 h
 obtain ⟨x,l3,rfl,h3,h4⟩:=List.map_eq_cons_iff.1 h2
 obtain rfl:=List.map_eq_nil_iff.1 h4
 exact ⟨st0,x,rfl,h3,h1⟩
/-- Behind the innermost one's going: the next, with one item more. -/
theorem ofCfg_pop {p:Op} {r:List Op} {st0:List OpS} (h:st0.map OpS.o=(p :: r).reverse):∃ st1 z,st0=st1 ++ [z]∧z.o=p∧st1.map OpS.o=r.reverse:=by
 rw [List.reverse_cons] at h
 exact ofCfg_split (top:=p) (rest:=r) h
theorem ofCfg_len {rest:List Op} {st0:List OpS} (h:st0.map OpS.o=rest.reverse):st0.length=rest.length:=by
 have:=congrArg List.length h
 simpa using this
end Go.Proofs.YtigmdlchbjanoaaDoor
