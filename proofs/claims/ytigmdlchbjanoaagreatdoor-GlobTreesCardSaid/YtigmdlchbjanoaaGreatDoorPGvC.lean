/- Put together: Rp3, Rp4, Rp6, Rp7p. -/
import Derived.Test.YtigmdlchbjanoaaGreatDoorPTgS
import Derived.Test.YtigmdlchbjanoaaGreatDoorPGvB
import Derived.Test.YtigmdlchbjanoaaGreatDoorPGvA
namespace Go.Proofs.YtigmdlchbjanoaaGreatDoor
open Go Go.RowKit
structure OpS where
 o:Op
 va:Value
 vi:Value
def OpS.cells (x:OpS):List Value:=[.int .i64 (x.o.num:Nat),x.va,x.vi]
def OpS.live (x:OpS):List Nat:=x.va.ownBlock.toList ++ x.vi.ownBlock.toList
def cellsO (st:List OpS):List Value:=st.flatMap OpS.cells
def liveO (vs:Value) (st:List OpS):List Nat:=vs.ownBlock.toList ++ st.flatMap OpS.live
structure OpV (B:Nat) (eN:TypeId) (S:Nat→Prop) (w:World) (x:OpS):Prop where
 a:∃ cs,w.ownsRow B eN 260 x.va x.o.alts.length cs∧DKidsV S w x.o.alts cs
 i:∃ cs,w.ownsRow B eN 260 x.vi x.o.items.length cs∧DKidsV S w x.o.items cs
structure PStk (B:Nat) (eN eO:TypeId) (w:World) (vs:Value) (st:List OpS):Prop where
 row:w.ownsRow B eO 3 vs st.length (cellsO st)
 each:∀ x ∈ st,OpV B eN (fun b=>B≤b∧b ∉ liveO vs st) w x
 nodup:(liveO vs st).Nodup
theorem DKidsV.chgX {S S':Nat→Prop} {w w':World} {ks:List T} {cs:List Value} {X:List Nat} (h:DKidsV S w ks cs) (hx:Chg X w w') (hs:∀ b,b<w.heap.size→S b→b ∉ X∧S' b):DKidsV S' w' ks cs:=
 dkidsV_map (fun t v hn=>dnodeV_stay hx.size (fun b hb hlt=>⟨(hs b hlt hb).2,hx.block b hlt (hs b hlt hb).1⟩) t.size t (Nat.le_refl _) v hn) h
theorem OpV.chgX {B:Nat} {eN:TypeId} {S S':Nat→Prop} {w w':World} {x:OpS} {X:List Nat} (h:OpV B eN S w x) (hx:Chg X w w') (hl:∀ k ∈ x.live,k ∉ X) (hs:∀ b,b<w.heap.size→S b→b ∉ X∧S' b):OpV B eN S' w' x:=by
 obtain ⟨⟨ca,a1,a2⟩,⟨ci,i1,i2⟩⟩:=h
 refine ⟨⟨ca,own_chg a1 hx (fun k hk hm=>hl k ?_ hm),a2.chgX hx hs⟩,⟨ci,own_chg i1 hx (fun k hk hm=>hl k ?_ hm),i2.chgX hx hs⟩⟩
 ·unfold OpS.live;rw [List.mem_append];exact .inl (by simp [hk])
 ·unfold OpS.live;rw [List.mem_append];exact .inr (by simp [hk])
theorem PStk.liveLt {B:Nat} {eN eO:TypeId} {w:World} {vs:Value} {st:List OpS} (h:PStk B eN eO w vs st):∀ k ∈ liveO vs st,k<w.heap.size:=fun k hk=>by
 unfold liveO at hk
 rcases List.mem_append.1 hk with h1 | h1
 ·exact (h.row.lt k (by simpa using h1)).2
 ·obtain ⟨x,hx,hk⟩:=List.mem_flatMap.1 h1
  obtain ⟨⟨ca,a1,_⟩,⟨ci,i1,_⟩⟩:=h.each x hx
  unfold OpS.live at hk
  rcases List.mem_append.1 hk with h2 | h2
  ·exact (a1.lt k (by simpa using h2)).2
  ·exact (i1.lt k (by simpa using h2)).2
theorem PStk.keep {B:Nat} {eN eO:TypeId} {w w':World} {vs:Value} {st:List OpS} (h:PStk B eN eO w vs st) (hx:Ext w w'):PStk B eN eO w' vs st:=
 ⟨own_ext h.row hx,fun x hm=>(h.each x hm).chgX (X:=[]) (.of_ext hx) (fun _ _=>by simp) (fun b _ hb=>⟨by simp,hb⟩),h.nodup⟩
theorem liveO_snoc (vs:Value) (st:List OpS) (x:OpS):liveO vs (st ++ [x])=liveO vs st ++ x.live:=by simp [liveO]
theorem cellsO_snoc (st:List OpS) (x:OpS):cellsO (st ++ [x])=cellsO st ++ x.cells:=by simp [cellsO]
theorem cellsO_len (st:List OpS):(cellsO st).length=st.length*3:=by
 unfold cellsO
 induction st with
 | nil=>rfl
 | cons x st ih=>rw [List.flatMap_cons,List.length_append,ih,List.length_cons];simp [OpS.cells];omega
theorem PStk.turn {B:Nat} {eN eO:TypeId} {w w':World} {vs:Value} {st:List OpS} {x y:OpS} (h:PStk B eN eO w vs (st ++ [x])) (hc:Chg x.live w w') (hy:∀ k ∈ y.live,k ∈ x.live∨w.heap.size≤k) (hyn:y.live.Nodup) :
  w'.ownsRow B eO 3 vs (st.length+1) (cellsO st ++ x.cells)∧(∀ z ∈ st,OpV B eN (fun b=>B≤b∧b ∉ liveO vs (st ++ [y])) w' z)∧(liveO vs (st ++ [y])).Nodup:=by
 have hnd:=h.nodup
 rw [liveO_snoc,List.nodup_append] at hnd
 obtain ⟨n1,n2,n3⟩:=hnd
 have hll:∀ k ∈ liveO vs st,k<w.heap.size:=fun k hk=>h.liveLt k (by rw [liveO_snoc,List.mem_append];exact .inl hk)
 have hny:∀ a ∈ liveO vs st,∀ b ∈ y.live,a ≠ b:=fun a ha b hb e=>by
  subst e
  rcases hy a hb with h1 | h1
  ·exact n3 a ha a h1 rfl
  ·have:=hll a ha;omega
 refine ⟨?_,fun z hz=>?_,?_⟩
 ·have hr:=own_chg h.row hc (fun k hk hm=>n3 k (by unfold liveO;rw [List.mem_append];exact .inl (by simp [hk])) k hm rfl)
  rwa [cellsO_snoc,List.length_append,List.length_singleton] at hr
 ·refine (h.each z (by simp [hz])).chgX hc (fun k hk hm=>?_) (fun b hlt hb=>?_)
  ·exact n3 k (by unfold liveO;rw [List.mem_append];exact .inr (List.mem_flatMap.2 ⟨z,hz,hk⟩)) k hm rfl
  ·rw [liveO_snoc,List.mem_append] at hb
   refine ⟨fun hm=>hb.2 (.inr hm),hb.1,?_⟩
   rw [liveO_snoc,List.mem_append]
   rintro (h1 | h1)
   ·exact hb.2 (.inl h1)
   ·rcases hy b h1 with h2 | h2
    ·exact hb.2 (.inr h2)
    ·omega
 ·rw [liveO_snoc,List.nodup_append]
  exact ⟨n1,hyn,hny⟩
theorem PStk.put {B:Nat} {eN eO:TypeId} {w w' w'':World} {vs:Value} {st:List OpS} {x y:OpS} {Y:List Nat} (h:PStk B eN eO w vs (st ++ [x])) (hc:Chg x.live w w') (hy:∀ k ∈ y.live,k ∈ x.live∨w.heap.size≤k) (hyn:y.live.Nodup)
  (hO:OpV B eN (fun b=>B≤b∧b ∉ liveO vs (st ++ [y])) w' y) (hYs:∀ k ∈ Y,vs.ownBlock=some k) (hc2:Chg Y w' w'') (hrow:w''.ownsRow B eO 3 vs (st.length+1) (cellsO st ++ y.cells)):PStk B eN eO w'' vs (st ++ [y]):=by
 obtain ⟨t1,t2,t3⟩:=h.turn hc hy hyn
 have hmem:∀ k ∈ Y,k ∈ vs.ownBlock.toList:=fun k hk=>by simp [hYs k hk]
 have hin:∀ k ∈ Y,k ∈ liveO vs (st ++ [y]):=fun k hk=>by unfold liveO;rw [List.mem_append];exact .inl (hmem k hk)
 have hapart:∀ z ∈ st ++ [y],∀ k ∈ z.live,k ∉ Y:=fun z hz k hk hm=>by
  have h1:=t3
  unfold liveO at h1
  rw [List.nodup_append] at h1
  exact h1.2.2 k (hmem k hm) k (List.mem_flatMap.2 ⟨z,hz,hk⟩) rfl
 refine ⟨by rw [cellsO_snoc,List.length_append,List.length_singleton];exact hrow,fun z hz=>?_,t3⟩
 have hV:OpV B eN (fun b=>B≤b∧b ∉ liveO vs (st ++ [y])) w' z:=by
  rcases List.mem_append.1 hz with h1 | h1
  ·exact t2 z h1
  ·rw [List.mem_singleton.1 h1];exact hO
 exact hV.chgX hc2 (hapart z hz) (fun b _ hb=>⟨fun hm=>hb.2 (hin b hm),hb⟩)
theorem PStk.pop {B:Nat} {eN eO:TypeId} {w:World} {vs vs':Value} {st:List OpS} {x:OpS} (h:PStk B eN eO w vs (st ++ [x])) (hv:vs'.ownBlock=vs.ownBlock) (hrow:w.ownsRow B eO 3 vs' st.length (cellsO st)):PStk B eN eO w vs' st∧OpV B eN (fun b=>B≤b∧b ∉ liveO vs' st) w x∧∀ k ∈ x.live,k ∉ liveO vs' st:=by
 have hnd:=h.nodup
 rw [liveO_snoc,List.nodup_append] at hnd
 obtain ⟨n1,n2,n3⟩:=hnd
 have e:liveO vs' st=liveO vs st:=by unfold liveO;rw [hv]
 have hS:∀ b,b<w.heap.size→(B≤b∧b ∉ liveO vs (st ++ [x]))→b ∉ ([]:List Nat)∧B≤b∧b ∉ liveO vs' st:=fun b _ hb=>⟨by simp,hb.1,fun hm=>hb.2 (by rw [liveO_snoc,List.mem_append];exact .inl (e ▸ hm))⟩
 refine ⟨⟨hrow,fun z hz=>(h.each z (by simp [hz])).chgX (Chg.refl [] w) (fun _ _=>by simp) hS,e ▸ n1⟩,(h.each x (by simp)).chgX (Chg.refl [] w) (fun _ _=>by simp) hS,fun k hk hm=>n3 k (e ▸ hm) k hk rfl⟩
theorem PStk.push {B:Nat} {eN eO:TypeId} {w w':World} {vs vs':Value} {st:List OpS} (h:PStk B eN eO w vs st) (num:Nat) (hc:Chg vs.ownBlock.toList w w') (hv:∀ k,vs'.ownBlock=some k→vs.ownBlock=some k∨w.heap.size≤k)
  (hrow:w'.ownsRow B eO 3 vs' (st.length+1) (cellsO st ++ [.int .i64 (num:Nat),.slice none 0 0,.slice none 0 0])):PStk B eN eO w' vs' (st ++ [⟨⟨num,[],[]⟩,.slice none 0 0,.slice none 0 0⟩]):=by
 have hnd:=h.nodup
 unfold liveO at hnd
 rw [List.nodup_append] at hnd
 obtain ⟨n1,n2,n3⟩:=hnd
 have e:liveO vs' (st ++ [⟨⟨num,[],[]⟩,.slice none 0 0,.slice none 0 0⟩])=vs'.ownBlock.toList ++ st.flatMap OpS.live:=by simp [liveO,OpS.live,Value.ownBlock]
 have hlt:∀ k ∈ st.flatMap OpS.live,k<w.heap.size:=fun k hk=>h.liveLt k (by unfold liveO;rw [List.mem_append];exact .inr hk)
 refine ⟨by rw [cellsO_snoc,List.length_append,List.length_singleton];exact hrow,fun z hz=>?_,?_⟩
 ·rcases List.mem_append.1 hz with h1 | h1
  ·refine (h.each z h1).chgX hc (fun k hk hm=>n3 k hm k (List.mem_flatMap.2 ⟨z,h1,hk⟩) rfl) (fun b hb hs=>?_)
   unfold liveO at hs
   rw [List.mem_append] at hs
   refine ⟨fun hm=>hs.2 (.inl hm),hs.1,?_⟩
   rw [e,List.mem_append]
   rintro (h2 | h2)
   ·rcases hv b (by simpa using h2) with h3 | h3
    ·exact hs.2 (.inl (by simp [h3]))
    ·omega
   ·exact hs.2 (.inr h2)
  ·rw [List.mem_singleton.1 h1]
   exact ⟨⟨[],World.ownsRow_nil _ _ _ _,by unfold DKidsV;rfl⟩,⟨[],World.ownsRow_nil _ _ _ _,by unfold DKidsV;rfl⟩⟩
 ·rw [e,List.nodup_append]
  refine ⟨?_,n2,fun a ha b hb e2=>?_⟩
  ·cases vs'.ownBlock <;> simp
  ·subst e2
   rcases hv a (by simpa using ha) with h3 | h3
   ·exact n3 a (by simp [h3]) a hb rfl
   ·have:=hlt a hb;omega
theorem PStk.first {B:Nat} {eN eO:TypeId} {w:World} {vs:Value} (num:Nat) (hrow:w.ownsRow B eO 3 vs 1 [.int .i64 (num:Nat),.slice none 0 0,.slice none 0 0]):PStk B eN eO w vs [⟨⟨num,[],[]⟩,.slice none 0 0,.slice none 0 0⟩]:=by
 refine ⟨by simpa [cellsO,OpS.cells] using hrow,fun z hz=>?_,?_⟩
 ·rw [List.mem_singleton.1 hz]
  exact ⟨⟨[],World.ownsRow_nil _ _ _ _,by unfold DKidsV;rfl⟩,⟨[],World.ownsRow_nil _ _ _ _,by unfold DKidsV;rfl⟩⟩
 ·have e:liveO vs [⟨⟨num,[],[]⟩,.slice none 0 0,.slice none 0 0⟩]=vs.ownBlock.toList:=by simp [liveO,OpS.live,Value.ownBlock]
  rw [e]
  cases vs.ownBlock <;> simp
theorem own_blkS {w:World} {base size n:Nat} {e:TypeId} {v:Value} {xs:List Value} (h:w.ownsRow base e size v n xs) (hn:0<n):∃ g c,v=.slice (some ⟨g,0,none⟩) n c∧n≤c∧c≤maxLen∧base≤g∧g<w.heap.size∧(∀ j,w.frozen? ⟨g,j,none⟩=false)∧∀ j u,xs[j]?=some u→w.cell? ⟨g,j,none⟩=some u:=by
 have h0:=h
 rcases h.2 with ⟨h1,h2⟩ | ⟨g,cap,cur,he,hb,hg,h1,h2,h3,h4⟩
 ·omega
 ·subst he
  refine ⟨g,cap,rfl,h1,h2,hb,(h0.lt g rfl).2,fun j=>Lib.frozen_of_heap hg j,fun j u hu=>?_⟩
  have:=h0.cells (g:=g) rfl j u hu
  simpa [Addr.add_lit] using this
theorem own_cut {w:World} {base size n m g c:Nat} {e:TypeId} {xs:List Value} (h:w.ownsRow base e size (.slice (some ⟨g,0,none⟩) n c) n xs) (hm:m≤n):w.ownsRow base e size (.slice (some ⟨g,0,none⟩) m c) m (xs.take (m*size)):=by
 have hms:m*size≤n*size:=Nat.mul_le_mul_right _ hm
 refine ⟨by rw [List.length_take,h.1];omega,?_⟩
 rcases h.2 with ⟨h1,_⟩ | ⟨g',cap,cur,he,hb,hg,h1,h2,h3,h4⟩
 ·cases h1
 ·cases he
  refine .inr ⟨g,c,cur,rfl,hb,hg,by omega,h2,h3,?_⟩
  rw [← h4,List.take_take]
  congr 1
  omega
theorem cellsO_top (st:List OpS) (x:OpS) (j:Nat) (hj:j<3):(cellsO (st ++ [x]))[st.length*3+j]?=x.cells[j]?:=by
 rw [cellsO_snoc,List.getElem?_append_right (by rw [cellsO_len];omega),cellsO_len]
 congr 1
 omega
theorem cellsO_set1 (st:List OpS) (x:OpS) (v:Value):(cellsO st ++ x.cells).set (st.length*3+1) v=cellsO st ++ OpS.cells ⟨x.o,v,x.vi⟩:=by
 rw [List.set_append_right _ _ (by rw [cellsO_len];omega),cellsO_len]
 congr 1
 rw [show st.length*3+1-st.length*3=1 by omega]
 rfl
theorem cellsO_set2 (st:List OpS) (x:OpS) (v:Value):(cellsO st ++ x.cells).set (st.length*3+2) v=cellsO st ++ OpS.cells ⟨x.o,x.va,v⟩:=by
 rw [List.set_append_right _ _ (by rw [cellsO_len];omega),cellsO_len]
 congr 1
 rw [show st.length*3+2-st.length*3=2 by omega]
 rfl
theorem PStk.cutRow {B:Nat} {eN eO:TypeId} {w:World} {g c:Nat} {st:List OpS} {x:OpS} (h:PStk B eN eO w (.slice (some ⟨g,0,none⟩) (st.length+1) c) (st ++ [x])):w.ownsRow B eO 3 (.slice (some ⟨g,0,none⟩) st.length c) st.length (cellsO st):=by
 have hr:=h.row
 rw [List.length_append,List.length_singleton] at hr
 have:=own_cut (m:=st.length) hr (by omega)
 rw [cellsO_snoc,← cellsO_len,List.take_left'] at this
 ·exact this
 ·rfl
def OfCfg (top:Op) (rest:List Op) (st:List OpS):Prop:=st.map OpS.o=rest.reverse ++ [top]
theorem ofCfg_split {top:Op} {rest:List Op} {st:List OpS} (h:OfCfg top rest st):∃ st0 x,st=st0 ++ [x]∧x.o=top∧st0.map OpS.o=rest.reverse:=by
 unfold OfCfg at h
 obtain ⟨st0,l2,rfl,h1,h2⟩:=List.map_eq_append_iff.1 h
 obtain ⟨x,l3,rfl,h3,h4⟩:=List.map_eq_cons_iff.1 h2
 obtain rfl:=List.map_eq_nil_iff.1 h4
 exact ⟨st0,x,rfl,h3,h1⟩
theorem ofCfg_pop {p:Op} {r:List Op} {st0:List OpS} (h:st0.map OpS.o=(p :: r).reverse):∃ st1 z,st0=st1 ++ [z]∧z.o=p∧st1.map OpS.o=r.reverse:=by
 rw [List.reverse_cons] at h
 exact ofCfg_split (top:=p) (rest:=r) h
theorem ofCfg_len {rest:List Op} {st0:List OpS} (h:st0.map OpS.o=rest.reverse):st0.length=rest.length:=by
 have:=congrArg List.length h
 simpa using this
end Go.Proofs.YtigmdlchbjanoaaGreatDoor
namespace Go.Proofs.YtigmdlchbjanoaaGreatDoor
open Go Go.RowKit
theorem dn_ext {c:Array Value} {k m:Int} {z:Bool} {p:Nat→Bool} {A:Option Addr} {n cc:Nat} (h:∀ j,c[j]?=if j=0 then some (.int .i64 k) else if j=1 then some (.int .i64 m) else if j=2 then some (.bool z) else if j<259 then some (.bool (p (j-3))) else if j=259 then some (.slice A n cc) else none):c=(dnC k m z p A n cc).toArray:=by
 apply Array.ext_getElem?
 intro j
 rw [h,List.getElem?_toArray,dn_at]
theorem zn_at (j:Nat):(dnC 0 0 false (fun _=>false) none 0 0).toArray[j]?=if j=0 then some (.int .i64 0) else if j=1 then some (.int .i64 0) else if j=2 then some (.bool false) else if j<259 then some (.bool false) else if j=259 then some (.slice none 0 0) else none:=(List.getElem?_toArray).trans (dn_at 0 0 false (fun _=>false) none 0 0 j)
theorem one_at (v:Value) (h:v.cells=#[v]) (i:Nat):v.cells[i]?=if i=0 then some v else none:=by
 rw [h]
 cases i with
 | zero=>rfl
 | succ i=>simp
theorem set_at (p:Nat→Bool) (i:Nat):(bp p).cells[i]?=if i<256 then some (.bool (p i)) else none:=by
 show (bcs p)[i]?=_
 by_cases h:i<256
 ·rw [bcs_get p h,if_pos h]
 ·rw [bcs_out p h,if_neg h]
theorem built_z:Tryz.prog.built 38 []=some (dnC 0 0 false (fun _=>false) none 0 0).toArray:=by
 rw [built40,zero40]
 rfl
theorem built_k (k:Int):Tryz.prog.built 38 [(0,.int .i64 k)]=some (dnC k 0 false (fun _=>false) none 0 0).toArray:=by
 rw [built40,zero40]
 have hs:(dnC 0 0 false (fun _=>false) none 0 0).toArray.size=260:=by rw [List.size_toArray,dn_len]
 obtain ⟨c1,e1,s1,g1⟩:=fill_step (#[(0,1),(1,1),(2,1),(3,256),(259,1)][·]?) (dnC 0 0 false (fun _=>false) none 0 0).toArray 0 0 1 (.int .i64 k) [] rfl rfl (by omega)
 rw [e1]
 show some c1=_
 congr 1
 refine dn_ext fun j=>?_
 rw [g1,zn_at,one_at _ rfl]
 by_cases h0:j=0
 ·subst h0;rfl
 rw [if_neg (by omega),if_neg h0,if_neg h0]
theorem built_kk (k:Int) (A:Option Addr) (n c:Nat):Tryz.prog.built 38 [(0,.int .i64 k),(4,.slice A n c)]=some (dnC k 0 false (fun _=>false) A n c).toArray:=by
 rw [built40,zero40]
 have hs:(dnC 0 0 false (fun _=>false) none 0 0).toArray.size=260:=by rw [List.size_toArray,dn_len]
 obtain ⟨c1,e1,s1,g1⟩:=fill_step (#[(0,1),(1,1),(2,1),(3,256),(259,1)][·]?) (dnC 0 0 false (fun _=>false) none 0 0).toArray 0 0 1 (.int .i64 k) [(4,.slice A n c)] rfl rfl (by omega)
 obtain ⟨c2,e2,s2,g2⟩:=fill_step (#[(0,1),(1,1),(2,1),(3,256),(259,1)][·]?) c1 4 259 1 (.slice A n c) [] rfl rfl (by omega)
 rw [e1,e2]
 show some c2=_
 congr 1
 refine dn_ext fun j=>?_
 rw [g2,g1,zn_at,one_at _ rfl,one_at _ rfl]
 by_cases h0:j=0
 ·subst h0;rfl
 by_cases h9:j=259
 ·subst h9;rfl
 rw [if_neg (by omega),if_neg (by omega),if_neg h0,if_neg h0]
 by_cases h1:j=1
 ·subst h1;rfl
 rw [if_neg h1,if_neg h1]
 by_cases h2:j=2
 ·subst h2;rfl
 rw [if_neg h2,if_neg h2]
 by_cases h3:j<259
 ·rw [if_pos h3,if_pos h3]
 rw [if_neg h3,if_neg h3,if_neg h9,if_neg h9]
theorem built_kmk (k m:Int) (A:Option Addr) (n c:Nat):Tryz.prog.built 38 [(0,.int .i64 k),(1,.int .i64 m),(4,.slice A n c)]=some (dnC k m false (fun _=>false) A n c).toArray:=by
 rw [built40,zero40]
 have hs:(dnC 0 0 false (fun _=>false) none 0 0).toArray.size=260:=by rw [List.size_toArray,dn_len]
 obtain ⟨c1,e1,s1,g1⟩:=fill_step (#[(0,1),(1,1),(2,1),(3,256),(259,1)][·]?) (dnC 0 0 false (fun _=>false) none 0 0).toArray 0 0 1 (.int .i64 k) [(1,.int .i64 m),(4,.slice A n c)] rfl rfl (by omega)
 obtain ⟨c2,e2,s2,g2⟩:=fill_step (#[(0,1),(1,1),(2,1),(3,256),(259,1)][·]?) c1 1 1 1 (.int .i64 m) [(4,.slice A n c)] rfl rfl (by omega)
 obtain ⟨c3,e3,s3,g3⟩:=fill_step (#[(0,1),(1,1),(2,1),(3,256),(259,1)][·]?) c2 4 259 1 (.slice A n c) [] rfl rfl (by omega)
 rw [e1,e2,e3]
 show some c3=_
 congr 1
 refine dn_ext fun j=>?_
 rw [g3,g2,g1,zn_at,one_at _ rfl,one_at _ rfl,one_at _ rfl]
 by_cases h0:j=0
 ·subst h0;rfl
 by_cases h9:j=259
 ·subst h9;rfl
 by_cases h1:j=1
 ·subst h1;rfl
 rw [if_neg (by omega),if_neg (by omega),if_neg (by omega),if_neg h0,if_neg h0,if_neg h1,if_neg h1]
 by_cases h2:j=2
 ·subst h2;rfl
 rw [if_neg h2,if_neg h2]
 by_cases h3:j<259
 ·rw [if_pos h3,if_pos h3]
 rw [if_neg h3,if_neg h3,if_neg h9,if_neg h9]
theorem built_ks (k:Int) (p:Nat→Bool):Tryz.prog.built 38 [(0,.int .i64 k),(3,bp p)]=some (dnC k 0 false p none 0 0).toArray:=by
 rw [built40,zero40]
 have hs:(dnC 0 0 false (fun _=>false) none 0 0).toArray.size=260:=by rw [List.size_toArray,dn_len]
 obtain ⟨c1,e1,s1,g1⟩:=fill_step (#[(0,1),(1,1),(2,1),(3,256),(259,1)][·]?) (dnC 0 0 false (fun _=>false) none 0 0).toArray 0 0 1 (.int .i64 k) [(3,bp p)] rfl rfl (by omega)
 obtain ⟨c2,e2,s2,g2⟩:=fill_step (#[(0,1),(1,1),(2,1),(3,256),(259,1)][·]?) c1 3 3 256 (bp p) [] rfl (bcs_size p) (by omega)
 rw [e1,e2]
 show some c2=_
 congr 1
 refine dn_ext fun j=>?_
 rw [g2,g1,zn_at,set_at,one_at _ rfl]
 by_cases h0:j=0
 ·subst h0;rfl
 rw [if_neg (show ¬ (0≤j∧j<0+1) by omega),if_neg h0,if_neg h0]
 by_cases h1:j=1
 ·subst h1;rfl
 rw [if_neg h1,if_neg h1]
 by_cases h2:j=2
 ·subst h2;rfl
 rw [if_neg h2,if_neg h2]
 by_cases h3:j<259
 ·rw [if_pos ⟨by omega,by omega⟩,if_pos (by omega),if_pos h3]
 ·rw [if_neg (by omega),if_neg h3,if_neg h3]
section
variable {w:World} {ops:Array Oper} {rest:List Oper} {o:Oper} {a:Act} {Q:Exit→Act→World→Prop}
theorem build_z (hg:o.guard=none) (ho:o.op=.build 38 #[])
  (h:wpList Tryz.prog ops Q rest (a.put o.dst (.agg (dnC 0 0 false (fun _=>false) none 0 0).toArray)) w):wpList Tryz.prog ops Q (o :: rest) a w:=by
 refine wpList_build hg _ _ ho (by simp only [Array.map_empty,Array.toList_empty];rw [built_z];rfl) ?_
 simp only [List.map_toArray,List.map_nil]
 rw [built_z]
 exact h
theorem build_k {k:Int} (hg:o.guard=none) (ho:o.op=.build 38 #[(0,.const (.int .i64 k))])
  (h:wpList Tryz.prog ops Q rest (a.put o.dst (.agg (dnC k 0 false (fun _=>false) none 0 0).toArray)) w):wpList Tryz.prog ops Q (o :: rest) a w:=by
 have e:(Array.map (fun (y:Nat × Operand)=>(y.1,a.eval y.2)) #[(0,.const (.int .i64 k))]).toList=[(0,.int .i64 k)]:=by simp [Act.eval]
 refine wpList_build hg _ _ ho (by rw [e,built_k];rfl) ?_
 rw [e,built_k]
 exact h
theorem build_kk {k:Int} (hg:o.guard=none) (y:Operand) (ho:o.op=.build 38 #[(0,.const (.int .i64 k)),(4,y)]) {A:Option Addr} {n c:Nat} (hy:a.eval y=.slice A n c)
  (h:wpList Tryz.prog ops Q rest (a.put o.dst (.agg (dnC k 0 false (fun _=>false) A n c).toArray)) w):wpList Tryz.prog ops Q (o :: rest) a w:=by
 have e:(Array.map (fun (y:Nat × Operand)=>(y.1,a.eval y.2)) #[(0,.const (.int .i64 k)),(4,y)]).toList=[(0,.int .i64 k),(4,.slice A n c)]:=by simp [hy];simp [Act.eval]
 refine wpList_build hg _ _ ho (by rw [e,built_kk];rfl) ?_
 rw [e,built_kk]
 exact h
theorem build_kmk {k m:Int} (hg:o.guard=none) (x y:Operand) (ho:o.op=.build 38 #[(0,.const (.int .i64 k)),(1,x),(4,y)]) {A:Option Addr} {n c:Nat} (hx:a.eval x=.int .i64 m) (hy:a.eval y=.slice A n c)
  (h:wpList Tryz.prog ops Q rest (a.put o.dst (.agg (dnC k m false (fun _=>false) A n c).toArray)) w):wpList Tryz.prog ops Q (o :: rest) a w:=by
 have e:(Array.map (fun (y:Nat × Operand)=>(y.1,a.eval y.2)) #[(0,.const (.int .i64 k)),(1,x),(4,y)]).toList=[(0,.int .i64 k),(1,.int .i64 m),(4,.slice A n c)]:=by simp [hx,hy];simp [Act.eval]
 refine wpList_build hg _ _ ho (by rw [e,built_kmk];rfl) ?_
 rw [e,built_kmk]
 exact h
theorem build_ks {k:Int} (hg:o.guard=none) (y:Operand) (ho:o.op=.build 38 #[(0,.const (.int .i64 k)),(3,y)]) {p:Nat→Bool} (hy:a.eval y=bp p)
  (h:wpList Tryz.prog ops Q rest (a.put o.dst (.agg (dnC k 0 false p none 0 0).toArray)) w):wpList Tryz.prog ops Q (o :: rest) a w:=by
 have e:(Array.map (fun (y:Nat × Operand)=>(y.1,a.eval y.2)) #[(0,.const (.int .i64 k)),(3,y)]).toList=[(0,.int .i64 k),(3,bp p)]:=by simp [hy];simp [Act.eval]
 refine wpList_build hg _ _ ho (by rw [e,built_ks];rfl) ?_
 rw [e,built_ks]
 exact h
end
theorem dnode_one4 {S:Nat→Prop} {w:World} {A:Option Addr} {t:T} {cs:List Value} {c:Nat} (k m:Int) (z:Bool) (hR:Rd w 260 A 1 cs) (hc:1≤c) (hm:c≤maxLen) (hS:∀ b o x,A=some ⟨b,o,x⟩→S b) (hD:DNodeV S w t cs):DNodeV S w (.node k m z noP [t]) (dnC k m z noP A 1 c):=by
 unfold DNodeV
 exact ⟨A,c,cs,rfl,hc,hm,hR,fun b o x e _=>hS b o x e,dkidsV_one hD⟩
theorem dnode_leaf {S:Nat→Prop} {w:World} (k m:Int) (z:Bool) (p:Nat→Bool):DNodeV S w (.node k m z p []) (dnC k m z p none 0 0):=by
 unfold DNodeV
 exact ⟨none,0,[],rfl,by simp,by unfold maxLen;omega,⟨rfl,fun h=>(by simp at h)⟩,fun b o x e=>(by cases e),by unfold DKidsV;rfl⟩
def altC (n:Nat) (A:Option Addr) (c:Nat) (cs:List Value):List Value:=if n=0 then dnC 1 0 false noP none 0 0 else if n=1 then cs else dnC 3 0 false noP A n c
theorem altC_dn {S:Nat→Prop} {ks:List T} {A:Option Addr} {c:Nat} {cs:List Value} {w:World} (hc:ks.length≤c) (hm:c≤maxLen) (hR:Rd w 260 A ks.length cs) (hK:DKidsV S w ks cs) (hS:∀ b o x,A=some ⟨b,o,x⟩→0<ks.length→S b):DNodeV S w (mkCat ks) (altC ks.length A c cs):=by
 rcases ks with _ | ⟨t,_ | ⟨t2,ks⟩⟩
 ·exact dnode_leaf 1 0 false noP
 ·unfold DKidsV at hK
  obtain ⟨v,cs',rfl,h1,h2⟩:=hK
  unfold DKidsV at h2
  subst h2
  rw [List.append_nil]
  exact h1
 ·unfold altC
  rw [if_neg (by simp),if_neg (by simp)]
  show DNodeV S w (.node 3 0 false noP (t :: t2 :: ks)) _
  unfold DNodeV
  exact ⟨A,c,cs,rfl,hc,hm,hR,hS,hK⟩
set_option maxHeartbeats 2000000 in
set_option maxRecDepth 20000 in
theorem refAlternative (S:Nat→Prop) (ks:List T) (A:Option Addr) (c:Nat) (cs:List Value) (w:World) (hR:Rd w 260 A ks.length cs) (hK:DKidsV S w ks cs) :
  Calls Tryz.prog 53 #[.slice A ks.length c] w fun e w'=>e=.returned (.agg (altC ks.length A c cs).toArray)∧Ext w w':=by
 have hx0:=Ext.new1 w (.cells Tryz.zeroCells38 38)
 have HR:=Lib.hid hR
 have HK:=Lib.hid hK
 have HX0:=Lib.hid hx0
 clear hR hK hx0
 rcases ks with _ | ⟨t,_ | ⟨t2,ks⟩⟩
 ·have HE:=Lib.hid (show altC ([]:List T).length A c cs=dnC 1 0 false noP none 0 0 from rfl)
  rw [HE.out]
  have hL:([]:List T).length=0:=rfl
  rw [hL]
  clear hL HE
  go_enter Tryz.func53,Tryz.ntmps53
  go_wp2_with (first
   | (refine store_dn_new rfl (.tmp 2) (.tmp 6) rfl rfl rfl zsize40 ?_)
   | (refine build_k rfl rfl ?_))
  refine bodyPost_ret (results_dn rfl _ _ w.heap.size rfl (DB.new w _ _ _ _ _ _ _)) rfl ⟨rfl,Ext.new1 _ _⟩
 ·obtain ⟨b,o,k,m,z,p,B,n,c',rfl,hv,hrow⟩:=dkid_at HR.out HK.out (i:=0) (by simp)
  have hcs:cs=dnC k m z p B n c':=by
   obtain ⟨v,hv1,hv2⟩:=dkidsV_at HK.out (i:=0) (by simp)
   have hl:=dkidsV_len HK.out
   have hl1:=dnodeV_len hv
   apply List.ext_getElem?
   intro j
   by_cases hj:j<260
   ·have h9:=(hrow.out w (Ext.refl _)) j
    obtain ⟨x,hx⟩:∃ x,(dnC k m z p B n c')[j]?=some x:=⟨_,List.getElem?_eq_getElem (by omega)⟩
    obtain ⟨b',o',hbo,_,hcell⟩:=HR.out.2 (by rw [hl];simp)
    cases hbo
    obtain ⟨y,hy⟩:∃ y,cs[j]?=some y:=⟨_,List.getElem?_eq_getElem (by rw [hl];simpa using hj)⟩
    have h10:=hcell j y hy
    have h11:=h9 x hx
    rw [show o+0*260+j=o+j by omega,h10] at h11
    rw [hy,hx,h11]
   ·rw [List.getElem?_eq_none (by rw [hl];simp;omega),List.getElem?_eq_none (by omega)]
  have HE:=Lib.hid (show altC [t].length (some ⟨b,o,none⟩) c cs=dnC k m z p B n c' from hcs)
  rw [HE.out]
  have hel:=hrow.out _ HX0.out
  rw [show o+0*260=o by omega] at hel
  have HEL:=Lib.hid hel
  have hL:[t].length=1:=rfl
  rw [hL]
  clear hv hrow hel hcs hL HE HR HK
  go_enter Tryz.func53,Tryz.ntmps53
  go_wp2_with (first
   | (refine load_el rfl (.tmp 11) rfl rfl HEL.out ?_)
   | (refine store_dn_new rfl (.tmp 2) (.tmp 12) rfl rfl rfl zsize40 ?_))
  refine bodyPost_ret (results_dn rfl _ _ w.heap.size rfl (DB.new w _ _ _ _ _ _ _)) rfl ⟨rfl,Ext.new1 _ _⟩
 ·have hN:¬ (((t :: t2 :: ks).length:Int)=0):=by simp;omega
  have hN1:¬ (((t :: t2 :: ks).length:Int)=1):=by simp;omega
  have HE:=Lib.hid (show altC (t :: t2 :: ks).length A c cs=dnC 3 0 false noP A (t :: t2 :: ks).length c by unfold altC;rw [if_neg (by simp),if_neg (by simp)])
  rw [HE.out]
  clear HE HR HK
  generalize (t :: t2 :: ks).length=L at *
  go_enter Tryz.func53,Tryz.ntmps53
  go_wp2_with (first
   | (refine store_dn_new rfl (.tmp 2) (.tmp 14) rfl rfl rfl zsize40 ?_)
   | (refine build_kk rfl (.tmp 13) rfl rfl ?_))
  refine bodyPost_ret (results_dn rfl _ _ w.heap.size rfl (DB.new w _ _ _ _ _ _ _)) rfl ⟨rfl,Ext.new1 _ _⟩
theorem own_setCell {w:World} {base g i n c size:Nat} {e:TypeId} {xs:List Value} (h:w.ownsRow base e size (.slice (some ⟨g,0,none⟩) n c) n xs) (u:Value):(w.setCell ⟨g,i,none⟩ u).ownsRow base e size (.slice (some ⟨g,0,none⟩) n c) n (xs.set i u):=by
 refine ⟨by rw [List.length_set];exact h.1,?_⟩
 rcases h.2 with ⟨h1,_⟩ | ⟨g',cap,cur,he,hb,hg,h1,h2,h3,h4⟩
 ·cases h1
 ·cases he
  have hB:Blk w g e cur.toList:=hg
  have:=hB.set_ i u
  refine .inr ⟨g,c,(cur.toList.set i u).toArray,rfl,hb,this,h1,h2,by simpa using h3,?_⟩
  rw [← h4]
  exact (List.take_set ..).trans rfl
theorem cell_chg {w:World} {g i:Nat} (u:Value):Chg [g] w (w.setCell ⟨g,i,none⟩ u):=by
 refine ⟨rfl,rfl,rfl,by simp,fun k _ hk=>?_⟩
 simp at hk
 simp [World.setCell,Array.getElem?_modify,Ne.symm hk]
set_option maxRecDepth 20000 in
theorem store_last {w:World} {ops:Array Oper} {rest:List Oper} {o:Oper} {a:Act} {Q:Exit→Act→World→Prop} (hgd:o.guard=none) (x y:Operand) (ho:o.op=.store 38 x y)
  {B g n c:Nat} {cs l0 l:List Value} (hown:w.ownsRow B 38 260 (.slice (some ⟨g,0,none⟩) (n+1) c) (n+1) (cs ++ l0)) (hcs:cs.length=n*260) (hl:l.length=260) (h1:∀ u ∈ l,u.oneCell'=true)
  (hx:a.eval x=.pointer (some ⟨g,n*260,none⟩)) (hy:a.eval y=.agg l.toArray)
  (h:∀ w',w'.ownsRow B 38 260 (.slice (some ⟨g,0,none⟩) (n+1) c) (n+1) (cs ++ l)→Chg [g] w w' → wpList Tryz.prog ops Q rest (a.put o.dst undef) w'):wpList Tryz.prog ops Q (o :: rest) a w:=by
 have hlen:=hown.1
 rcases hown.2 with ⟨h2,_⟩ | ⟨g',cap,cur,he,hb,hg,h2,h3,h4,h5⟩
 ·cases h2
 ·cases he
  have hmul:(n+1)*260≤c*260:=Nat.mul_le_mul_right _ h2
  have hst:=run_storeCells_at Tryz.prog g (n*260) 38 l 0 cur w hg (by rw [h4,hl];omega) h1
  simp only [Nat.add_zero] at hst
  have hw:(Instr.storeAt 38 (.pointer (some ⟨g,n*260,none⟩)) (.agg l.toArray)).run Tryz.prog w=.ok () (w.setRow g (cur.toList.take (n*260) ++ l ++ cur.toList.drop (n*260+l.length)).toArray):=by
   cases hie:Tryz.prog.info? 38 with
   | none=>have:=dn_size;rw [hie] at this;cases this
   | some ie =>
    have hsz:=dn_size
    rw [hie] at hsz
    simp only [Option.map_some,Option.some.injEq] at hsz
    simp [Instr.storeAt,Instr.sureAddr,storeVar,sizeOf,typeInfo,hie,Value.cells,hsz,hl,hst]
  refine wpList_plain hgd fun _ hK=>?_
  unfold Oper.wp execOp
  simp only [ho,hx,hy,Sem.run_bind,hw,Result.andThen_ok,Sem.run_pure]
  refine hK _ _ (h _ ⟨by simp [hcs,hl];omega,.inr ⟨g,c,(cur.toList.take (n*260) ++ l ++ cur.toList.drop (n*260+l.length)).toArray,rfl,hb,setRow_heap w g cur _ _ _ hg,h2,h3,?_,?_⟩⟩ ⟨rfl,rfl,rfl,by simp,fun k _ hk=>setRow_other w g k _ (by simpa using hk)⟩)
  ·simp only [List.size_toArray,List.length_append,List.length_take,List.length_drop,Array.length_toList]
   omega
  ·have hpre:cur.toList.take (n*260)=cs:=by
    have:(cur.toList.take ((n+1)*260)).take (n*260)=cs:=by rw [h5,← hcs];exact List.take_left' rfl
    rw [List.take_take,Nat.min_eq_left (by omega)] at this
    exact this
   rw [hpre,List.append_assoc,List.take_append,List.take_of_length_le (by omega),hcs,show (n+1)*260-n*260=260 by omega,List.take_append,List.take_of_length_le (by omega),hl]
   simp
structure TwoApp (e:TypeId) (W:World) (n:Nat) (cs l:List Value) (z a1 mk a2:Option Value) (w:World):Prop where
 ext:Ext W w
 hz:∀ v,z=some v→a1=none→∃ g,v=.slice (some ⟨g,0,none⟩) 0 0∧W.heap.size≤g∧Blk w g e []
 hm:∀ v,mk=some v→a2=none→∃ g,v=.slice (some ⟨g,0,none⟩) 1 1∧W.heap.size≤g∧Blk w g e l
 h1:∀ v,a1=some v→a2=none→w.ownsRow W.heap.size e 260 v n cs
 h2:∀ v,a2=some v→w.ownsRow W.heap.size e 260 v (n+1) (cs ++ l)
section
variable {e:TypeId} {W:World} {n:Nat} {cs l:List Value} {z a1 mk a2:Option Value} {w w':World}
theorem TwoApp.start (hx:Ext W w):TwoApp e W n cs l none none none none w:=⟨hx,fun v h=>(by cases h),fun v h=>(by cases h),fun v h=>(by cases h),fun v h=>(by cases h)⟩
theorem TwoApp.keep (h:TwoApp e W n cs l z a1 mk a2 w) (hx:Ext w w'):TwoApp e W n cs l z a1 mk a2 w':=
 ⟨h.ext.trans hx,fun v hv hn=>by obtain ⟨g,e1,e2,e3⟩:=h.hz v hv hn;exact ⟨g,e1,e2,e3.keep hx⟩,fun v hv hn=>by obtain ⟨g,e1,e2,e3⟩:=h.hm v hv hn;exact ⟨g,e1,e2,e3.keep hx⟩,
  fun v hv hn=>own_ext (h.h1 v hv hn) hx,fun v hv=>own_ext (h.h2 v hv) hx⟩
theorem TwoApp.doZ (h:TwoApp e W n cs l none a1 mk a2 w):TwoApp e W n cs l (some (.slice (some ⟨w.heap.size,0,none⟩) 0 0)) a1 mk a2 (w.alloc (.cells #[] e)):=by
 have hk:=h.keep (Ext.new1 w (.cells #[] e))
 exact ⟨hk.ext,fun v hv _=>⟨w.heap.size,(Option.some.inj hv).symm,h.ext.size,Blk.newL w e []⟩,hk.hm,hk.h1,hk.h2⟩
theorem TwoApp.doM (h:TwoApp e W n cs l z a1 none a2 w):TwoApp e W n cs l z a1 (some (.slice (some ⟨w.heap.size,0,none⟩) 1 1)) a2 (w.alloc (.cells l.toArray e)):=by
 have hk:=h.keep (Ext.new1 w (.cells l.toArray e))
 exact ⟨hk.ext,hk.hz,fun v hv _=>⟨w.heap.size,(Option.some.inj hv).symm,h.ext.size,Blk.newL w e l⟩,hk.h1,hk.h2⟩
theorem TwoApp.do1 {g:Nat} {v':Value} (h:TwoApp e W n cs l (some (.slice (some ⟨g,0,none⟩) 0 0)) none mk none w) (hl:l.length=260) (hown:w'.ownsRow W.heap.size e 260 v' n cs) (hg:Grew W.heap.size w w' (.slice (some ⟨g,0,none⟩) 0 0)) :
  TwoApp e W n cs l (some (.slice (some ⟨g,0,none⟩) 0 0)) (some v') mk none w':=by
 refine ⟨hg.below h.ext (Nat.le_refl _) h.ext.size,fun v _ hn=>(by cases hn),fun v hv hn=>?_,fun v hv _=>(by cases hv;exact hown),fun v hv=>(by cases hv)⟩
 obtain ⟨g1,e1,e2,e3⟩:=h.hm v hv hn
 obtain ⟨g0,f1,f2,f3⟩:=h.hz _ rfl rfl
 cases f1
 refine ⟨g1,e1,e2,e3.grew hg ?_⟩
 intro hh
 have:g1=g:=by simpa [Value.ownBlock] using hh
 subst this
 have h9:l.toArray=([]:List Value).toArray:=by
  have:=e3.symm.trans f3
  simpa using this
 have:=congrArg Array.size h9
 simp [hl] at this
theorem TwoApp.do2 {v1 v':Value} (h:TwoApp e W n cs l z (some v1) mk none w) (hown:w'.ownsRow W.heap.size e 260 v' (n+1) (cs ++ l)) (hg:Grew W.heap.size w w' v1) :
  TwoApp e W n cs l z (some v1) mk (some v') w':=
 ⟨hg.below h.ext (Nat.le_refl _) h.ext.size,fun v _ hn=>(by cases hn),fun v _ hn=>(by cases hn),fun v _ hn=>(by cases hn),fun v hv=>(by cases hv;exact hown)⟩
end
end Go.Proofs.YtigmdlchbjanoaaGreatDoor
namespace Go.Proofs.YtigmdlchbjanoaaGreatDoor
open Go Go.RowKit
theorem PStk.put2 {B:Nat} {eN eO:TypeId} {w w':World} {vs:Value} {st:List OpS} {x y:OpS} {X:List Nat} (h:PStk B eN eO w vs (st ++ [x])) (hc:Chg X w w') (hX:∀ k ∈ X,k ∈ x.live∨vs.ownBlock=some k) (hy:∀ k ∈ y.live,k ∈ x.live∨w.heap.size≤k) (hyn:y.live.Nodup)
  (hO:OpV B eN (fun b=>B≤b∧b ∉ liveO vs (st ++ [y])) w' y) (hrow:w'.ownsRow B eO 3 vs (st.length+1) (cellsO st ++ y.cells)):PStk B eN eO w' vs (st ++ [y]):=by
 obtain ⟨_,_,t3⟩:=h.turn (Chg.refl _ _) hy hyn
 have hnd:=h.nodup
 rw [liveO_snoc,List.nodup_append] at hnd
 obtain ⟨n1,n2,n3⟩:=hnd
 have n1':=n1
 unfold liveO at n1'
 rw [List.nodup_append] at n1'
 refine ⟨by rw [cellsO_snoc,List.length_append,List.length_singleton];exact hrow,fun z hz=>?_,t3⟩
 rcases List.mem_append.1 hz with hz | hz
 ·refine (h.each z (by simp [hz])).chgX hc (fun k hk hm=>?_) (fun b hlt hb=>?_)
  ·have hkf:k ∈ st.flatMap OpS.live:=List.mem_flatMap.2 ⟨z,hz,hk⟩
   rcases hX k hm with h1 | h1
   ·exact n3 k (by unfold liveO;rw [List.mem_append];exact .inr hkf) k h1 rfl
   ·exact n1'.2.2 k (by simp [h1]) k hkf rfl
  ·rw [liveO_snoc,List.mem_append] at hb
   refine ⟨fun hm=>?_,hb.1,?_⟩
   ·rcases hX b hm with h1 | h1
    ·exact hb.2 (.inr h1)
    ·exact hb.2 (.inl (by unfold liveO;rw [List.mem_append];exact .inl (by simp [h1])))
   ·rw [liveO_snoc,List.mem_append]
    rintro (h1 | h1)
    ·exact hb.2 (.inl h1)
    ·rcases hy b h1 with h2 | h2
     ·exact hb.2 (.inr h2)
     ·omega
 ·rw [List.mem_singleton.1 hz];exact hO
def pickO (s:Option Value) (a b:List Value):List Value:=match s with | none=>a | some _=>b
structure OneApp (B:Nat) (e eO:TypeId) (W:World) (X:List Nat) (v0:Value) (n:Nat) (cs l0 l:List Value) (vs:Value) (m:Nat) (old:List Value) (new:Value→List Value) (mk ap sn ss:Option Value) (w:World):Prop where
 chg:Chg X W w
 row0:ss=none→w.ownsRow B eO 3 vs m old
 row1:∀ u v,ss=some u→ap=some v→w.ownsRow B eO 3 vs m (new v)
 it0:ap=none→w.ownsRow B e 260 v0 n cs
 hm:∀ v,mk=some v→ap=none→∃ g,v=.slice (some ⟨g,0,none⟩) 1 1∧W.heap.size≤g∧Blk w g e l0
 it1:∀ v,ap=some v→w.ownsRow B e 260 v (n+1) (cs ++ pickO sn l0 l)∧(v.ownBlock=v0.ownBlock∨∃ k,v.ownBlock=some k∧W.heap.size≤k)
structure OneAp0 (W:World) (X:List Nat) (v0 vs:Value):Prop where
 inX:∀ k,v0.ownBlock=some k→k ∈ X
 inS:∀ k,vs.ownBlock=some k→k ∈ X
 ap:∀ k,v0.ownBlock=some k→vs.ownBlock ≠ some k
 lt:∀ k,vs.ownBlock=some k→k<W.heap.size
section
variable {B:Nat} {e eO:TypeId} {W:World} {X:List Nat} {v0:Value} {n:Nat} {cs l0 l:List Value} {vs:Value} {m:Nat} {old:List Value} {new:Value→List Value} {mk ap sn ss:Option Value} {w w':World}
theorem OneApp.start (hx:Ext W w) (hr:W.ownsRow B eO 3 vs m old) (hi:W.ownsRow B e 260 v0 n cs):OneApp B e eO W X v0 n cs l0 l vs m old new none none none none w:=
 ⟨.of_ext hx,fun _=>own_ext hr hx,fun u v h=>(by cases h),fun _=>own_ext hi hx,fun v h=>(by cases h),fun v h=>by cases h⟩
theorem OneApp.keep (h:OneApp B e eO W X v0 n cs l0 l vs m old new mk ap sn ss w) (hx:Ext w w'):OneApp B e eO W X v0 n cs l0 l vs m old new mk ap sn ss w':=
 ⟨h.chg.trans (.of_ext hx),fun hs=>own_ext (h.row0 hs) hx,fun u v h1 h2=>own_ext (h.row1 u v h1 h2) hx,fun ha=>own_ext (h.it0 ha) hx,
  fun v hv ha=>by obtain ⟨g,e1,e2,e3⟩:=h.hm v hv ha;exact ⟨g,e1,e2,e3.keep hx⟩,fun v hv=>⟨own_ext (h.it1 v hv).1 hx,(h.it1 v hv).2⟩⟩
theorem OneApp.doM (h:OneApp B e eO W X v0 n cs l0 l vs m old new none ap sn ss w):OneApp B e eO W X v0 n cs l0 l vs m old new (some (.slice (some ⟨w.heap.size,0,none⟩) 1 1)) ap sn ss (w.alloc (.cells l0.toArray e)):=by
 have hk:=h.keep (Ext.new1 w (.cells l0.toArray e))
 exact ⟨hk.chg,hk.row0,hk.row1,hk.it0,fun v hv _=>⟨w.heap.size,(Option.some.inj hv).symm,h.chg.size,Blk.newL w e l0⟩,hk.it1⟩
theorem OneApp.doA {v':Value} (h:OneApp B e eO W X v0 n cs l0 l vs m old new mk none none none w) (h0:OneAp0 W X v0 vs) (hown:w'.ownsRow B e 260 v' (n+1) (cs ++ l0)) (hg:Grew B w w' v0) (hat:v'.ownBlock=v0.ownBlock∨v'.ownBlock=some w.heap.size) :
  OneApp B e eO W X v0 n cs l0 l vs m old new mk (some v') none none w':=by
 have hc:=grew_chg hg
 refine ⟨h.chg.trans (hc.mono fun x hx=>h0.inX x (by simpa using hx)),fun _=>own_chg (h.row0 rfl) hc (fun k hk hm=>h0.ap k (by simpa using hm) hk),fun u v hu=>(by cases hu),fun ha=>(by cases ha),fun v _ ha=>(by cases ha),fun v hv=>?_⟩
 cases hv
 refine ⟨hown,?_⟩
 rcases hat with h1 | h1
 ·exact .inl h1
 ·exact .inr ⟨_,h1,h.chg.size⟩
theorem OneApp.doS {g c:Nat} {u:Value} (h:OneApp B e eO W X v0 n cs l0 l vs m old new mk (some (.slice (some ⟨g,0,none⟩) (n+1) c)) none ss w) (h0:OneAp0 W X v0 vs)
  (hown:w'.ownsRow B e 260 (.slice (some ⟨g,0,none⟩) (n+1) c) (n+1) (cs ++ l)) (hc:Chg [g] w w'):OneApp B e eO W X v0 n cs l0 l vs m old new mk (some (.slice (some ⟨g,0,none⟩) (n+1) c)) (some u) ss w':=by
 have hat:=(h.it1 _ rfl).2
 have hne:∀ k,vs.ownBlock=some k→k ∉ [g]:=fun k hk hm=>by
  simp at hm
  subst hm
  rcases hat with h1 | ⟨k2,h1,h2⟩
  ·exact h0.ap k h1.symm hk
  ·have:=h0.lt k hk
   have h3:k=k2:=by simpa [Value.ownBlock] using h1
   omega
 refine ⟨?_,fun hs=>own_chg (h.row0 hs) hc hne,fun u v h1 h2=>own_chg (h.row1 u v h1 h2) hc hne,fun ha=>(by cases ha),fun v _ ha=>(by cases ha),fun v hv=>?_⟩
 ·refine ⟨hc.os.trans h.chg.os,hc.tape.trans h.chg.tape,hc.output.trans h.chg.output,Nat.le_trans h.chg.size hc.size,fun k hk hx=>?_⟩
  refine (hc.block k (Nat.lt_of_lt_of_le hk h.chg.size) (fun hm=>?_)).trans (h.chg.block k hk hx)
  simp at hm
  subst hm
  rcases hat with h1 | ⟨k2,h1,h2⟩
  ·exact hx (h0.inX k h1.symm)
  ·have h3:k=k2:=by simpa [Value.ownBlock] using h1
   omega
 ·cases hv
  exact ⟨hown,hat⟩
theorem OneApp.doR {v:Value} {u:Value} {gs c i:Nat} (h:OneApp B e eO W X v0 n cs l0 l vs m old new mk (some v) sn none w) (h0:OneAp0 W X v0 vs) (hv:vs=.slice (some ⟨gs,0,none⟩) m c) (hn:new v=old.set i v) :
  OneApp B e eO W X v0 n cs l0 l vs m old new mk (some v) sn (some u) (w.setCell ⟨gs,i,none⟩ v):=by
 have hc:Chg [gs] w (w.setCell ⟨gs,i,none⟩ v):=cell_chg v
 have hgs:vs.ownBlock=some gs:=by rw [hv];rfl
 refine ⟨h.chg.trans (hc.mono fun x hx=>by simp at hx;subst hx;exact h0.inS x hgs),fun hs=>(by cases hs),fun u v1 h1 h2=>?_,fun ha=>(by cases ha),fun v _ ha=>(by cases ha),fun v1 hv1=>?_⟩
 ·cases h2
  rw [hn]
  have:=h.row0 rfl
  rw [hv] at this ⊢
  exact own_setCell this v
 ·cases hv1
  obtain ⟨a1,a2⟩:=h.it1 v rfl
  refine ⟨own_chg a1 hc (fun k hk hm=>?_),a2⟩
  simp at hm
  subst hm
  rcases a2 with h1 | ⟨k2,h1,h2⟩
  ·exact h0.ap k (h1.symm.trans hk) hgs
  ·have:=h0.lt k hgs
   rw [hk] at h1
   cases h1
   omega
end
structure RepS (W:World) (B gs o n m:Nat) (cs l:List Value) (sv:Value) (old:List Value) (z a1 mk a2 st:Option Value) (w:World):Prop where
 two:st=none→TwoApp 38 W n cs l z a1 mk a2 w
 fin:∀ u,st=some u→∃ v,a2=some v∧w.ownsRow W.heap.size 38 260 v (n+1) (cs ++ l)∧w.ownsRow B 98 3 sv m (old.set o v)∧Chg [gs] W w
theorem rep_done {B:Nat} {eN eO:TypeId} {W w':World} {sv:Value} {gs:Nat} {st:List OpS} {num:Nat} {alts items its:List T} {va vi v2:Value} {cs:List Value}
  (h:PStk B eN eO W sv (st ++ [⟨⟨num,alts,items⟩,va,vi⟩])) (hgs:sv.ownBlock=some gs) (hB:B≤W.heap.size) (hc:Chg [gs] W w')
  (hown:w'.ownsRow W.heap.size eN 260 v2 its.length cs) (hk:DKidsV (fun b=>B≤b∧b ∉ liveO sv (st ++ [⟨⟨num,alts,items⟩,va,vi⟩])) W its cs)
  (hrow:w'.ownsRow B eO 3 sv (st.length+1) (cellsO st ++ OpS.cells ⟨⟨num,alts,its⟩,va,v2⟩)):PStk B eN eO w' sv (st ++ [⟨⟨num,alts,its⟩,va,v2⟩]):=by
 obtain ⟨⟨ca,a1,a2⟩,_⟩:=h.each _ (List.mem_append.2 (.inr (List.mem_singleton.2 rfl)))
 dsimp only at a1 a2
 have hnd:=h.nodup
 rw [liveO_snoc,List.nodup_append] at hnd
 obtain ⟨n1,n2,n3⟩:=hnd
 have hgl:gs ∈ liveO sv st:=by unfold liveO;rw [List.mem_append];exact .inl (by simp [hgs])
 have hva:∀ k,va.ownBlock=some k→k ∈ (OpS.live ⟨⟨num,alts,items⟩,va,vi⟩):=fun k hk=>by unfold OpS.live;rw [List.mem_append];exact .inl (by simp [hk])
 have hlive:∀ k,k ∈ OpS.live ⟨⟨num,alts,its⟩,va,v2⟩→va.ownBlock=some k∨v2.ownBlock=some k:=fun k hk=>by
  unfold OpS.live at hk
  rcases List.mem_append.1 hk with h1 | h1
  ·exact .inl (by simpa using h1)
  ·exact .inr (by simpa using h1)
 have hS:∀ b,b<W.heap.size→(B≤b∧b ∉ liveO sv (st ++ [⟨⟨num,alts,items⟩,va,vi⟩]))→b ∉ [gs]∧B≤b∧b ∉ liveO sv (st ++ [⟨⟨num,alts,its⟩,va,v2⟩]):=fun b hlt hb=>by
  obtain ⟨hb1,hb2⟩:=hb
  rw [liveO_snoc,List.mem_append] at hb2
  refine ⟨fun hm=>hb2 (.inl ?_),hb1,?_⟩
  ·rw [List.mem_singleton.1 hm];exact hgl
  ·rw [liveO_snoc,List.mem_append]
   rintro (h1 | h1)
   ·exact hb2 (.inl h1)
   ·rcases hlive b h1 with h2 | h2
    ·exact hb2 (.inr (hva b h2))
    ·have:=(hown.lt b h2).1;omega
 refine h.put2 hc (fun k hk=>.inr (by rw [List.mem_singleton.1 hk];exact hgs)) (fun k hk=>?_) ?_ ⟨⟨ca,own_chg a1 hc (fun k hk hm=>?_),a2.chgX hc hS⟩,⟨cs,own_mono hown hB,hk.chgX hc hS⟩⟩ hrow
 ·rcases hlive k hk with h1 | h1
  ·exact .inl (hva k h1)
  ·exact .inr (hown.lt k h1).1
 ·unfold OpS.live
  rw [List.nodup_append]
  refine ⟨by cases va.ownBlock <;> simp,by cases v2.ownBlock <;> simp,fun a ha b hb e=>?_⟩
  subst e
  have h1:=(a1.lt a (by simpa using ha)).2
  have h2:=(hown.lt a (by simpa using hb)).1
  omega
 ·rw [List.mem_singleton.1 hm] at hk
  exact n3 gs hgl gs (hva gs hk) rfl
theorem PStk.apart {B:Nat} {eN eO:TypeId} {w:World} {sv:Value} {st:List OpS} {x:OpS} (h:PStk B eN eO w sv (st ++ [x])):∀ k ∈ x.live,sv.ownBlock ≠ some k:=fun k hk e=>by
 have hnd:=h.nodup
 rw [liveO_snoc,List.nodup_append] at hnd
 exact hnd.2.2 k (by unfold liveO;rw [List.mem_append];exact .inl (by simp [e])) k hk rfl
theorem row_head {B:Nat} {eO:TypeId} {w:World} {gs N cap:Nat} {st:List OpS} {o:Op} {va vi:Value} (h:w.ownsRow B eO 3 (.slice (some ⟨gs,0,none⟩) (N+1) cap) (N+1) (cellsO st ++ OpS.cells ⟨o,va,vi⟩)) (hN:st.length=N) :
  (∀ j,w.frozen? ⟨gs,j,none⟩=false)∧w.cell? ⟨gs,N*3+1,none⟩=some va∧w.cell? ⟨gs,N*3+2,none⟩=some vi:=by
 subst hN
 obtain ⟨g,c,e,h1,h2,h3,h4,h5,h6⟩:=own_blkS h (by simp)
 simp only [Value.slice.injEq,Option.some.injEq,Addr.mk.injEq] at e
 obtain ⟨⟨rfl,_,_⟩,e2,rfl⟩:=e
 have hc:=fun j hj=>cellsO_top st ⟨o,va,vi⟩ j hj
 simp only [cellsO_snoc] at hc
 exact ⟨h5,h6 _ _ ((hc 1 (by omega)).trans rfl),h6 _ _ ((hc 2 (by omega)).trans rfl)⟩
structure GrowS (B:Nat) (W:World) (X:List Nat) (v0:Value) (n:Nat) (cs l0 l:List Value) (sv:Value) (m:Nat) (old:List Value) (new:Value→List Value) (mk ap ix sn ss:Option Value) (w:World):Prop where
 one:OneApp B 38 98 W X v0 n cs l0 l sv m old new mk ap sn ss w
 at_:∀ v p,ap=some v→ix=some p→∃ g c,v=.slice (some ⟨g,0,none⟩) (n+1) c∧p=.pointer (some ⟨g,n*260,none⟩)
structure BoolS (W:World) (e:TypeId) (p r:Option Value) (w:World):Prop where
 ext:Ext W w
 blk:∀ v,p=some v→∃ g b,v=.pointer (some ⟨g,0,none⟩)∧W.heap.size≤g∧Blk w g e [.bool b]
 res:∀ v,r=some v→∃ b,v=.bool b
theorem opt_nodup (o:Option Nat):o.toList.Nodup:=by cases o <;> simp
theorem grow_items {B:Nat} {eN eO:TypeId} {W w':World} {sv:Value} {st:List OpS} {num:Nat} {alts items:List T} {va vi v2:Value} {cs l:List Value} {t:T}
  (h:PStk B eN eO W sv (st ++ [⟨⟨num,alts,items⟩,va,vi⟩])) (hc:Chg (vi.ownBlock.toList ++ sv.ownBlock.toList) W w')
  (hown:w'.ownsRow B eN 260 v2 (items.length+1) (cs ++ l)) (hat:v2.ownBlock=vi.ownBlock∨∃ k,v2.ownBlock=some k∧W.heap.size≤k)
  (hk:DKidsV (fun b=>B≤b∧b ∉ liveO sv (st ++ [⟨⟨num,alts,items⟩,va,vi⟩])) W items cs) (hl:DNodeV (fun b=>B≤b∧b ∉ liveO sv (st ++ [⟨⟨num,alts,items⟩,va,vi⟩])) W t l)
  (hrow:w'.ownsRow B eO 3 sv (st.length+1) (cellsO st ++ OpS.cells ⟨⟨num,alts,items ++ [t]⟩,va,v2⟩)):PStk B eN eO w' sv (st ++ [⟨⟨num,alts,items ++ [t]⟩,va,v2⟩]):=by
 obtain ⟨⟨ca,a1,a2⟩,⟨ci,i1,_⟩⟩:=h.each _ (List.mem_append.2 (.inr (List.mem_singleton.2 rfl)))
 dsimp only at a1 a2 i1
 have hnd:=h.nodup
 rw [liveO_snoc,List.nodup_append] at hnd
 obtain ⟨n1,n2,n3⟩:=hnd
 have hxl:∀ k,k ∈ OpS.live ⟨⟨num,alts,items⟩,va,vi⟩↔va.ownBlock=some k∨vi.ownBlock=some k:=fun k=>by unfold OpS.live;rw [List.mem_append];simp
 have hyl:∀ k,k ∈ OpS.live ⟨⟨num,alts,items ++ [t]⟩,va,v2⟩↔va.ownBlock=some k∨v2.ownBlock=some k:=fun k=>by unfold OpS.live;rw [List.mem_append];simp
 have hsv:∀ k,sv.ownBlock=some k→k ∈ liveO sv st:=fun k hk=>by unfold liveO;rw [List.mem_append];exact .inl (by simp [hk])
 have hav:∀ k,va.ownBlock=some k→vi.ownBlock ≠ some k:=fun k h1 h2=>by
  unfold OpS.live at n2
  rw [List.nodup_append] at n2
  exact n2.2.2 k (by simp [h1]) k (by simp [h2]) rfl
 have hS:∀ b,b<W.heap.size→(B≤b∧b ∉ liveO sv (st ++ [⟨⟨num,alts,items⟩,va,vi⟩]))→b ∉ vi.ownBlock.toList ++ sv.ownBlock.toList∧B≤b∧b ∉ liveO sv (st ++ [⟨⟨num,alts,items ++ [t]⟩,va,v2⟩]):=fun b hlt hb=>by
  obtain ⟨hb1,hb2⟩:=hb
  rw [liveO_snoc,List.mem_append,hxl] at hb2
  refine ⟨fun hm=>?_,hb1,?_⟩
  ·rcases List.mem_append.1 hm with h1 | h1
   ·exact hb2 (.inr (.inr (by simpa using h1)))
   ·exact hb2 (.inl (hsv b (by simpa using h1)))
  ·rw [liveO_snoc,List.mem_append,hyl]
   rintro (h1 | h1 | h1)
   ·exact hb2 (.inl h1)
   ·exact hb2 (.inr (.inl h1))
   ·rcases hat with h2 | ⟨k,h2,h3⟩
    ·exact hb2 (.inr (.inr (h2.symm.trans h1)))
    ·rw [h2] at h1;cases h1;omega
 refine h.put2 hc (fun k hk=>?_) (fun k hk=>?_) ?_ ⟨⟨ca,own_chg a1 hc (fun k hk hm=>?_),a2.chgX hc hS⟩,⟨cs ++ l,by rw [List.length_append];exact hown,dkidsV_append (hk.chgX hc hS) ((dkidsV_one hl).chgX hc hS)⟩⟩ hrow
 ·rcases List.mem_append.1 hk with h1 | h1
  ·exact .inl ((hxl k).2 (.inr (by simpa using h1)))
  ·exact .inr (by simpa using h1)
 ·rcases (hyl k).1 hk with h1 | h1
  ·exact .inl ((hxl k).2 (.inl h1))
  ·rcases hat with h2 | ⟨k2,h2,h3⟩
   ·exact .inl ((hxl k).2 (.inr (h2.symm.trans h1)))
   ·rw [h2] at h1;cases h1;exact .inr h3
 ·unfold OpS.live
  rw [List.nodup_append]
  refine ⟨opt_nodup _,opt_nodup _,fun a ha b hb e=>?_⟩
  subst e
  have h1:va.ownBlock=some a:=by simpa using ha
  have h2:v2.ownBlock=some a:=by simpa using hb
  rcases hat with h3 | ⟨k2,h3,h4⟩
  ·exact hav a h1 (h3.symm.trans h2)
  ·rw [h3] at h2;cases h2
   have:=(a1.lt a h1).2
   omega
 ·rcases List.mem_append.1 hm with h1 | h1
  ·exact hav k hk (by simpa using h1)
  ·exact n3 k (hsv k (by simpa using h1)) k ((hxl k).2 (.inl hk)) rfl
theorem grow_alts {B:Nat} {eN eO:TypeId} {W w':World} {sv:Value} {st:List OpS} {num:Nat} {alts items:List T} {va vi v2:Value} {cs l:List Value} {t:T}
  (h:PStk B eN eO W sv (st ++ [⟨⟨num,alts,items⟩,va,vi⟩])) (hc:Chg (va.ownBlock.toList ++ sv.ownBlock.toList) W w')
  (hown:w'.ownsRow B eN 260 v2 (alts.length+1) (cs ++ l)) (hat:v2.ownBlock=va.ownBlock∨∃ k,v2.ownBlock=some k∧W.heap.size≤k)
  (hk:DKidsV (fun b=>B≤b∧b ∉ liveO sv st∧va.ownBlock ≠ some b) W alts cs) (hl:DNodeV (fun b=>B≤b∧b ∉ liveO sv st∧va.ownBlock ≠ some b) W t l)
  (hrow:w'.ownsRow B eO 3 sv (st.length+1) (cellsO st ++ OpS.cells ⟨⟨num,alts ++ [t],[]⟩,v2,.slice none 0 0⟩)):PStk B eN eO w' sv (st ++ [⟨⟨num,alts ++ [t],[]⟩,v2,.slice none 0 0⟩]):=by
 have hxl:∀ k,k ∈ OpS.live ⟨⟨num,alts,items⟩,va,vi⟩↔va.ownBlock=some k∨vi.ownBlock=some k:=fun k=>by unfold OpS.live;rw [List.mem_append];simp
 have hyl:∀ k,k ∈ OpS.live ⟨⟨num,alts ++ [t],[]⟩,v2,.slice none 0 0⟩↔v2.ownBlock=some k:=fun k=>by unfold OpS.live;rw [List.mem_append];simp [Value.ownBlock]
 have hsv:∀ k,sv.ownBlock=some k→k ∈ liveO sv st:=fun k hk=>by unfold liveO;rw [List.mem_append];exact .inl (by simp [hk])
 have hS:∀ b,b<W.heap.size→(B≤b∧b ∉ liveO sv st∧va.ownBlock ≠ some b)→b ∉ va.ownBlock.toList ++ sv.ownBlock.toList∧B≤b∧b ∉ liveO sv (st ++ [⟨⟨num,alts ++ [t],[]⟩,v2,.slice none 0 0⟩]):=fun b hlt hb=>by
  obtain ⟨hb1,hb2,hb3⟩:=hb
  refine ⟨fun hm=>?_,hb1,?_⟩
  ·rcases List.mem_append.1 hm with h1 | h1
   ·exact hb3 (by simpa using h1)
   ·exact hb2 (hsv b (by simpa using h1))
  ·rw [liveO_snoc,List.mem_append,hyl]
   rintro (h1 | h1)
   ·exact hb2 h1
   ·rcases hat with h2 | ⟨k,h2,h3⟩
    ·exact hb3 (h2.symm.trans h1)
    ·rw [h2] at h1;cases h1;omega
 refine h.put2 hc (fun k hk=>?_) (fun k hk=>?_) ?_ ⟨⟨cs ++ l,by rw [List.length_append];exact hown,dkidsV_append (hk.chgX hc hS) ((dkidsV_one hl).chgX hc hS)⟩,⟨[],World.ownsRow_nil _ _ _ _,by unfold DKidsV;rfl⟩⟩ hrow
 ·rcases List.mem_append.1 hk with h1 | h1
  ·exact .inl ((hxl k).2 (.inl (by simpa using h1)))
  ·exact .inr (by simpa using h1)
 ·have h1:=(hyl k).1 hk
  rcases hat with h2 | ⟨k2,h2,h3⟩
  ·exact .inl ((hxl k).2 (.inl (h2.symm.trans h1)))
  ·rw [h2] at h1;cases h1;exact .inr h3
 ·unfold OpS.live
  simp only [Value.ownBlock,Option.toList_none,List.append_nil]
  exact opt_nodup _
theorem dn_ones (k m:Int) (z:Bool) (p:Nat→Bool) (A:Option Addr) (n c:Nat):∀ u ∈ dnC k m z p A n c,u.oneCell'=true:=by
 have:=dn_one k m z p A n c
 rw [List.all_eq_true] at this
 exact this
theorem dn_put0 (k m:Int) (z:Bool) (p:Nat→Bool) (A:Option Addr) (n c:Nat) (k':Int):(dnC k m z p A n c).set 0 (.int .i64 k')=dnC k' m z p A n c:=by
 apply List.ext_getElem?
 intro j
 rw [List.getElem?_set,dn_len,dn_at,dn_at]
 by_cases h0:0=j
 ·subst h0;simp
 ·rw [if_neg h0,if_neg (Ne.symm h0),if_neg (Ne.symm h0)]
theorem dn_put2 (k m:Int) (z:Bool) (p:Nat→Bool) (A:Option Addr) (n c:Nat) (z':Bool):(dnC k m z p A n c).set 2 (.bool z')=dnC k m z' p A n c:=by
 apply List.ext_getElem?
 intro j
 rw [List.getElem?_set,dn_len,dn_at,dn_at]
 by_cases h2:2=j
 ·subst h2;simp
 rw [if_neg h2]
 by_cases h0:j=0
 ·subst h0;rfl
 by_cases h1:j=1
 ·subst h1;rfl
 rw [if_neg h0,if_neg h1,if_neg (Ne.symm h2),if_neg h0,if_neg h1,if_neg (Ne.symm h2)]
theorem dkidsV_take {S:Nat→Prop} {w:World}:∀ {ks:List T} {cs:List Value},DKidsV S w ks cs→∀ n,DKidsV S w (ks.take n) (cs.take (n*260)):=by
 intro ks
 induction ks with
 | nil=>intro cs h n;unfold DKidsV at h;subst h;simp only [List.take_nil];unfold DKidsV;rfl
 | cons t ts ih =>
  intro cs h n
  cases n with
  | zero=>simp only [List.take_zero,Nat.zero_mul];unfold DKidsV;rfl
  | succ n =>
   unfold DKidsV at h
   obtain ⟨v,cs',rfl,h1,h2⟩:=h
   rw [List.take_succ_cons]
   unfold DKidsV
   refine ⟨v,cs'.take (n*260),?_,h1,ih h2 n⟩
   have hl:=dnodeV_len h1
   rw [List.take_append,List.take_of_length_le (by omega),hl,show (n+1)*260-260=n*260 by omega]
theorem results_dn2 {fn:Func} {p q:Tmp} (h:fn.results=#[.cell p 38,.tmp q]) {tmps:Array Value} {w:World} {g:Nat} {l:List Value} {va:Value}
  (hp:tmps.getD p undef=.pointer (some ⟨g,0,none⟩)) (hg:Blk w g 38 l) (hl:l.length=260) (ha:tmps.getD q undef=va):(results fn tmps).run Tryz.prog w=.ok (.tuple #[.agg l.toArray,va]) w:=by
 have hp':tmps[p]?.getD undef=.pointer (some ⟨g,0,none⟩):=by simpa using hp
 have hl:(loadVar 38 ⟨g,0,none⟩).run Tryz.prog w=.ok (.agg l.toArray) w:=
  run_loadVar_row w g _ _ l.toArray (0,0) _ hg Tryz.underlying38 rfl (by rw [List.size_toArray,hl];exact dn_size)
 subst ha
 simp [results,h,hp',asAddr,hl]
theorem elemOp:Elem Tryz.prog 99 98 (.agg #[.int .i64 0,.slice none 0 0,.slice none 0 0]) 3 56:=⟨Tryz.underlying99,by kernel_rfl,rfl,by omega⟩
theorem parseR_in (l:List UInt8):parseR l ≠ .out:=by
 unfold parseR
 by_cases h:120<l.length
 ·rw [if_pos h];exact fun e=>by cases e
 ·rw [if_neg h]
  have hno:altsP l (5*l.length+5) 0 0 0 [] ≠ .out:=(no_out l l.length 0 (Nat.zero_le _) (by omega)).2.2.2.2 _ _ _ _ (Nat.le_refl _)
  cases hr:altsP l (5*l.length+5) 0 0 0 [] with
  | out=>exact absurd hr hno
  | err k=>exact fun e=>by cases e
  | ok t i gr=>dsimp only;split <;> exact fun e=>by cases e
theorem Ext.setNewX {w w':World} (h:Ext w w') {g i:Nat} (hg:w.heap.size≤g) (u:Value):Ext w (w'.setCell ⟨g,i,none⟩ u):=Below.setCell h hg u
structure NewB (W:World) (g:Nat) (l:List Value) (w:World):Prop where
 ext:Ext W w
 blk:Blk w g 38 l
 lt:g<w.heap.size
structure NewO (W:World) (g:Nat) (l:List Value) (w:World):Prop where
 ext:Ext W w
 blk:Blk w g 98 l
 lt:g<w.heap.size
theorem newB_kind {W w:World} {g:Nat} {k m:Int} {z:Bool} {p:Nat→Bool} {A:Option Addr} {n c:Nat} (hx:Ext W w) (hb:Blk w g 38 (dnC k m z p A n c)) (hg:W.heap.size≤g) (k':Int):NewB W g (dnC k' m z p A n c) (w.setCell ⟨g,0,none⟩ (.int .i64 k')):=by
 have h:=hb.set_ 0 (.int .i64 k')
 rw [dn_put0] at h
 exact ⟨Ext.setNewX hx hg _,h,h.lt⟩
theorem newB_lazy {W w:World} {g:Nat} {k m:Int} {z:Bool} {p:Nat→Bool} {A:Option Addr} {n c:Nat} (hx:Ext W w) (hb:Blk w g 38 (dnC k m z p A n c)) (hg:W.heap.size≤g) (z':Bool):NewB W g (dnC k m z' p A n c) (w.setCell ⟨g,2,none⟩ (.bool z')):=by
 have h:=hb.set_ 2 (.bool z')
 rw [dn_put2] at h
 exact ⟨Ext.setNewX hx hg _,h,h.lt⟩
theorem PStk.head {B:Nat} {eN eO:TypeId} {w:World} {gs N cap:Nat} {st:List OpS} {x:OpS} (h:PStk B eN eO w (.slice (some ⟨gs,0,none⟩) (N+1) cap) (st ++ [x])) (hN:st.length=N) :
  N+1≤cap∧cap≤maxLen∧B≤gs∧gs<w.heap.size∧(∀ j,w.frozen? ⟨gs,j,none⟩=false)∧w.cell? ⟨gs,N*3,none⟩=some (.int .i64 (x.o.num:Nat))∧w.cell? ⟨gs,N*3+1,none⟩=some x.va∧w.cell? ⟨gs,N*3+2,none⟩=some x.vi:=by
 subst hN
 obtain ⟨g,c,e,h1,h2,h3,h4,h5,h6⟩:=own_blkS h.row (by simp)
 simp only [Value.slice.injEq,Option.some.injEq,Addr.mk.injEq] at e
 obtain ⟨⟨rfl,_,_⟩,e2,rfl⟩:=e
 rw [← e2] at h1
 exact ⟨h1,h2,h3,h4,h5,h6 _ _ ((cellsO_top st x 0 (by omega)).trans rfl),h6 _ _ ((cellsO_top st x 1 (by omega)).trans rfl),h6 _ _ ((cellsO_top st x 2 (by omega)).trans rfl)⟩
end Go.Proofs.YtigmdlchbjanoaaGreatDoor
namespace Go.Proofs.YtigmdlchbjanoaaGreatDoor
open Go Go.RowKit
theorem u8_ne {c k:UInt8} (h:c ≠ k):((c.toNat:Int) == (k.toNat:Int))=false:=by
 rw [beq_eq_false_iff_ne]
 intro e
 exact h (UInt8.toNat_inj.1 (by omega))
section
variable {l:List UInt8} {num:Nat} {alts items:List T} {rest:List Op} {gr i:Nat} {ag:Bool} {c:UInt8}
theorem stp_end (h:l[i]?=none):stepM l ⟨⟨num,alts,items⟩,rest,gr,ag,i⟩=if rest=[] then .fin (.ok (closeT ⟨num,alts,items⟩) i gr) else .fin (.err 3):=by
 unfold stepM
 dsimp only
 rw [h]
theorem stp_rep0 (h:l[i]?=some c) (hc:isRep c):stepM l ⟨⟨num,alts,items⟩,rest,gr,false,i⟩=.fin (.err 5):=by
 unfold stepM
 dsimp only
 rw [h]
 dsimp only
 rw [if_pos hc,if_pos rfl]
theorem stp_repN (h:l[i]?=some c) (hc:isRep c):stepM l ⟨⟨num,alts,[]⟩,rest,gr,true,i⟩=.fin .out:=by
 unfold stepM
 dsimp only
 rw [h]
 dsimp only
 rw [if_pos hc,if_neg (by decide)]
 rfl
theorem stp_rep (h:l[i]?=some c) (hc:isRep c) {t:T} (ht:items.getLast?=some t):stepM l ⟨⟨num,alts,items⟩,rest,gr,true,i⟩ =
  if c ≠ 63∧t.nullable=true then .fin (.err 15) else .go ⟨⟨num,alts,items.dropLast ++ [repT c (decide (l[i+1]?=some 63)) t]⟩,rest,gr,false,if decide (l[i+1]?=some 63)=true then i+2 else i+1⟩:=by
 unfold stepM
 dsimp only
 rw [h]
 dsimp only
 rw [if_pos hc,if_neg (by decide),ht]
theorem stp_bar (h:l[i]?=some 124):stepM l ⟨⟨num,alts,items⟩,rest,gr,ag,i⟩=.go ⟨⟨num,alts ++ [mkCat items],[]⟩,rest,gr,false,i+1⟩:=step_bar h
theorem stp_open (h:l[i]?=some 40):stepM l ⟨⟨num,alts,items⟩,rest,gr,ag,i⟩=if 8≤rest.length then .fin (.err 11)
   else if l[i+1]?=some 63 then match l[i+2]? with
    | none=>.fin (.err 3)
    | some d=>if d=58 then .go ⟨⟨0,[],[]⟩,⟨num,alts,items⟩ :: rest,gr,false,i+3⟩ else .fin (.err 5)
   else if gr=9 then .fin (.err 2) else .go ⟨⟨gr+1,[],[]⟩,⟨num,alts,items⟩ :: rest,gr+1,false,i+1⟩:=by
 unfold stepM
 dsimp only
 rw [h]
 dsimp only
 rw [if_neg not_rep40,if_neg (by decide),if_pos rfl]
 rfl
theorem stp_shut0 (h:l[i]?=some 41):stepM l ⟨⟨num,alts,items⟩,[],gr,ag,i⟩=.fin (.err 5):=by
 unfold stepM
 dsimp only
 rw [h]
 dsimp only
 rw [if_neg not_rep41,if_neg (by decide),if_neg (by decide),if_pos rfl]
theorem stp_shut {p:Op} (h:l[i]?=some 41):stepM l ⟨⟨num,alts,items⟩,p :: rest,gr,ag,i⟩=.go ⟨⟨p.num,p.alts,p.items ++ [closeT ⟨num,alts,items⟩]⟩,rest,gr,true,i+1⟩:=step_close h rfl
theorem stp_set (h:l[i]?=some c) (h1:¬ isRep c) (h2:c ≠ 124) (h3:c ≠ 40) (h4:c ≠ 41):stepM l ⟨⟨num,alts,items⟩,rest,gr,ag,i⟩ =
  if (oneS l i c).2.2=0 then .go ⟨⟨num,alts,items ++ [.node 2 0 false (oneS l i c).1 []]⟩,rest,gr,true,i+(oneS l i c).2.1⟩ else .fin (.err (oneS l i c).2.2):=by
 unfold stepM
 dsimp only
 rw [h]
 dsimp only
 rw [if_neg h1,if_neg h2,if_neg h3,if_neg h4]
end
end Go.Proofs.YtigmdlchbjanoaaGreatDoor
