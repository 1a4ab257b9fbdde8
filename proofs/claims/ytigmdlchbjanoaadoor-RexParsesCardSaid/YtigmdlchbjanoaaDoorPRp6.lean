/- The document's parser: a row of the innermost open bracket grows by a node, in place, and is told in the row of what is open. -/
import Derived.Test.YtigmdlchbjanoaaDoorPRp4
namespace Go.Proofs.YtigmdlchbjanoaaDoor
open Go Go.RowKit
/-- The innermost one has turned, in memory and in the row. -/
theorem PStk.put2 {B:Nat} {eN eO:TypeId} {w w':World} {vs:Value} {st:List OpS} {x y:OpS} {X:List Nat} (h:PStk B eN eO w vs (st ++ [x])) (hc:Chg X w w') (hX:∀ k ∈ X,k ∈ x.live∨vs.ownBlock=some k) (hy:∀ k ∈ y.live,k ∈ x.live∨w.heap.size≤k) (hyn:y.live.Nodup)
  (hO:OpV B eN (fun b=>B≤b∧b ∉ liveO vs (st ++ [y])) w' y) (hrow:w'.ownsRow B eO 3 vs (st.length+1) (cellsO st ++ y.cells)):PStk B eN eO w' vs (st ++ [y]):=by
 obtain ⟨_,_,t3⟩:=h.turn (Chg.refl _ _) hy hyn
 have hnd:=h.nodup
 rw [liveO_snoc,List.nodup_append] at hnd
 obtain ⟨n1,n2,n3⟩:=hnd
 have n1':=n1
 unfold liveO at n1'
 rw [List.nodup_append] at n1'
 refine ⟨by rw [cellsO_snoc,List.length_append,List.length_singleton];exact hrow,fun z hz=>?_,t3⟩
 rcases List.mem_append.1 hz with hz | hz
 ·refine (h.each z (by simp [hz])).chgX hc (fun k hk hm=>?_) (fun b hlt hb=>?_)
  ·have hkf:k ∈ st.flatMap OpS.live:=List.mem_flatMap.2 ⟨z,hz,hk⟩
   rcases hX k hm with h1 | h1
   ·exact n3 k (by unfold liveO;rw [List.mem_append];exact .inr hkf) k h1 rfl
   ·exact n1'.2.2 k (by simp [h1]) k hkf rfl
  ·rw [liveO_snoc,List.mem_append] at hb
   refine ⟨fun hm=>?_,hb.1,?_⟩
   ·rcases hX b hm with h1 | h1
    ·exact hb.2 (.inr h1)
    ·exact hb.2 (.inl (by unfold liveO;rw [List.mem_append];exact .inl (by simp [h1])))
   ·rw [liveO_snoc,List.mem_append]
    rintro (h1 | h1)
    ·exact hb.2 (.inl h1)
    ·rcases hy b h1 with h2 | h2
     ·exact hb.2 (.inr h2)
     ·omega
 ·rw [List.mem_singleton.1 hz];exact hO
/-- Which of two. -/
def pickO (s:Option Value) (a b:List Value):List Value:=match s with | none=>a | some _=>b
/-- append(row, node), the row in place: what stands while it goes on. mk: the row of one; ap: the append; sn: the node is stored; ss: the row of what is open is told. -/
structure OneApp (B:Nat) (e eO:TypeId) (W:World) (X:List Nat) (v0:Value) (n:Nat) (cs l0 l:List Value) (vs:Value) (m:Nat) (old:List Value) (new:Value→List Value) (mk ap sn ss:Option Value) (w:World):Prop where
 chg:Chg X W w
 row0:ss=none→w.ownsRow B eO 3 vs m old
 row1:∀ u v,ss=some u→ap=some v→w.ownsRow B eO 3 vs m (new v)
 it0:ap=none→w.ownsRow B e 260 v0 n cs
 hm:∀ v,mk=some v→ap=none→∃ g,v=.slice (some ⟨g,0,none⟩) 1 1∧W.heap.size≤g∧Blk w g e l0
 it1:∀ v,ap=some v→w.ownsRow B e 260 v (n+1) (cs ++ pickO sn l0 l)∧(v.ownBlock=v0.ownBlock∨∃ k,v.ownBlock=some k∧W.heap.size≤k)
/-- What is so from the first. -/
structure OneAp0 (W:World) (X:List Nat) (v0 vs:Value):Prop where
 inX:∀ k,v0.ownBlock=some k→k ∈ X
 inS:∀ k,vs.ownBlock=some k→k ∈ X
 ap:∀ k,v0.ownBlock=some k→vs.ownBlock ≠ some k
 lt:∀ k,vs.ownBlock=some k→k<W.heap.size
section
variable {B:Nat} {e eO:TypeId} {W:World} {X:List Nat} {v0:Value} {n:Nat} {cs l0 l:List Value} {vs:Value} {m:Nat} {old:List Value} {new:Value→List Value} {mk ap sn ss:Option Value} {w w':World}
theorem OneApp.start (hx:Ext W w) (hr:W.ownsRow B eO 3 vs m old) (hi:W.ownsRow B e 260 v0 n cs):OneApp B e eO W X v0 n cs l0 l vs m old new none none none none w:=
 ⟨.of_ext hx,fun _=>own_ext hr hx,fun u v h=>(by cases h),fun _=>own_ext hi hx,fun v h=>(by cases h),fun v h=>by cases h⟩
theorem OneApp.keep (h:OneApp B e eO W X v0 n cs l0 l vs m old new mk ap sn ss w) (hx:Ext w w'):OneApp B e eO W X v0 n cs l0 l vs m old new mk ap sn ss w':=
 ⟨h.chg.trans (.of_ext hx),fun hs=>own_ext (h.row0 hs) hx,fun u v h1 h2=>own_ext (h.row1 u v h1 h2) hx,fun ha=>own_ext (h.it0 ha) hx,
  fun v hv ha=>by obtain ⟨g,e1,e2,e3⟩:=h.hm v hv ha;exact ⟨g,e1,e2,e3.keep hx⟩,fun v hv=>⟨own_ext (h.it1 v hv).1 hx,(h.it1 v hv).2⟩⟩
theorem OneApp.doM (h:OneApp B e eO W X v0 n cs l0 l vs m old new none ap sn ss w):OneApp B e eO W X v0 n cs l0 l vs m old new (some (.slice (some ⟨w.heap.size,0,none⟩) 1 1)) ap sn ss (w.alloc (.cells l0.toArray e)):=by
 have hk:=h.keep (Ext.new1 w (.cells l0.toArray e))
 exact ⟨hk.chg,hk.row0,hk.row1,hk.it0,fun v hv _=>⟨w.heap.size,(Option.some.inj hv).symm,h.chg.size,Blk.newL w e l0⟩,hk.it1⟩
theorem OneApp.doA {v':Value} (h:OneApp B e eO W X v0 n cs l0 l vs m old new mk none none none w) (h0:OneAp0 W X v0 vs) (hown:w'.ownsRow B e 260 v' (n+1) (cs ++ l0)) (hg:Grew B w w' v0) (hat:v'.ownBlock=v0.ownBlock∨v'.ownBlock=some w.heap.size) :
  OneApp B e eO W X v0 n cs l0 l vs m old new mk (some v') none none w':=by
 have hc:=grew_chg hg
 refine ⟨h.chg.trans (hc.mono fun x hx=>h0.inX x (by simpa using hx)),fun _=>own_chg (h.row0 rfl) hc (fun k hk hm=>h0.ap k (by simpa using hm) hk),fun u v hu=>(by cases hu),fun ha=>(by cases ha),fun v _ ha=>(by cases ha),fun v hv=>?_⟩
 cases hv
 refine ⟨hown,?_⟩
 rcases hat with h1 | h1
 ·exact .inl h1
 ·exact .inr ⟨_,h1,h.chg.size⟩
theorem OneApp.doS {g c:Nat} {u:Value} (h:OneApp B e eO W X v0 n cs l0 l vs m old new mk (some (.slice (some ⟨g,0,none⟩) (n+1) c)) none ss w) (h0:OneAp0 W X v0 vs)
  (hown:w'.ownsRow B e 260 (.slice (some ⟨g,0,none⟩) (n+1) c) (n+1) (cs ++ l)) (hc:Chg [g] w w'):OneApp B e eO W X v0 n cs l0 l vs m old new mk (some (.slice (some ⟨g,0,none⟩) (n+1) c)) (some u) ss w':=by
 have hat:=(h.it1 _ rfl).2
 have hne:∀ k,vs.ownBlock=some k→k ∉ [g]:=fun k hk hm=>by
  simp at hm
  subst hm
  rcases hat with h1 | ⟨k2,h1,h2⟩
  ·exact h0.ap k h1.symm hk
  ·have:=h0.lt k hk
   have h3:k=k2:=by simpa [Value.ownBlock] using h1
   omega
 refine ⟨?_,fun hs=>own_chg (h.row0 hs) hc hne,fun u v h1 h2=>own_chg (h.row1 u v h1 h2) hc hne,fun ha=>(by cases ha),fun v _ ha=>(by cases ha),fun v hv=>?_⟩
 ·refine ⟨hc.os.trans h.chg.os,hc.tape.trans h.chg.tape,hc.output.trans h.chg.output,Nat.le_trans h.chg.size hc.size,fun k hk hx=>?_⟩
  refine (hc.block k (Nat.lt_of_lt_of_le hk h.chg.size) (fun hm=>?_)).trans (h.chg.block k hk hx)
  simp at hm
  subst hm
  rcases hat with h1 | ⟨k2,h1,h2⟩
  ·exact hx (h0.inX k h1.symm)
  ·have h3:k=k2:=by simpa [Value.ownBlock] using h1
   omega
 ·cases hv
  exact ⟨hown,hat⟩
theorem OneApp.doR {v:Value} {u:Value} {gs c i:Nat} (h:OneApp B e eO W X v0 n cs l0 l vs m old new mk (some v) sn none w) (h0:OneAp0 W X v0 vs) (hv:vs=.slice (some ⟨gs,0,none⟩) m c) (hn:new v=old.set i v) :
  OneApp B e eO W X v0 n cs l0 l vs m old new mk (some v) sn (some u) (w.setCell ⟨gs,i,none⟩ v):=by
 have hc:Chg [gs] w (w.setCell ⟨gs,i,none⟩ v):=cell_chg v
 have hgs:vs.ownBlock=some gs:=by rw [hv];rfl
 refine ⟨h.chg.trans (hc.mono fun x hx=>by simp at hx;subst hx;exact h0.inS x hgs),fun hs=>(by cases hs),fun u v1 h1 h2=>?_,fun ha=>(by cases ha),fun v _ ha=>(by cases ha),fun v1 hv1=>?_⟩
 ·cases h2
  rw [hn]
  have:=h.row0 rfl
  rw [hv] at this ⊢
  exact own_setCell this v
 ·cases hv1
  obtain ⟨a1,a2⟩:=h.it1 v rfl
  refine ⟨own_chg a1 hc (fun k hk hm=>?_),a2⟩
  simp at hm
  subst hm
  rcases a2 with h1 | ⟨k2,h1,h2⟩
  ·exact h0.ap k (h1.symm.trans hk) hgs
  ·have:=h0.lt k hgs
   rw [hk] at h1
   cases h1
   omega
end
/-- append(append([]Node{}, row...), node), told in the row of what is open. -/
structure RepS (W:World) (B gs o n m:Nat) (cs l:List Value) (sv:Value) (old:List Value) (z a1 mk a2 st:Option Value) (w:World):Prop where
 two:st=none→TwoApp 37 W n cs l z a1 mk a2 w
 fin:∀ u,st=some u→∃ v,a2=some v∧w.ownsRow W.heap.size 37 260 v (n+1) (cs ++ l)∧w.ownsRow B 51 3 sv m (old.set o v)∧Chg [gs] W w
theorem rep_done {B:Nat} {eN eO:TypeId} {W w':World} {sv:Value} {gs:Nat} {st:List OpS} {num:Nat} {alts items its:List T} {va vi v2:Value} {cs:List Value}
  (h:PStk B eN eO W sv (st ++ [⟨⟨num,alts,items⟩,va,vi⟩])) (hgs:sv.ownBlock=some gs) (hB:B≤W.heap.size) (hc:Chg [gs] W w')
  (hown:w'.ownsRow W.heap.size eN 260 v2 its.length cs) (hk:DKidsV (fun b=>B≤b∧b ∉ liveO sv (st ++ [⟨⟨num,alts,items⟩,va,vi⟩])) W its cs)
  (hrow:w'.ownsRow B eO 3 sv (st.length+1) (cellsO st ++ OpS.cells ⟨⟨num,alts,its⟩,va,v2⟩)):PStk B eN eO w' sv (st ++ [⟨⟨num,alts,its⟩,va,v2⟩]):=by
 obtain ⟨⟨ca,a1,a2⟩,_⟩:=h.each _ (List.mem_append.2 (.inr (List.mem_singleton.2 rfl)))
 dsimp only at a1 a2
 have hnd:=h.nodup
 rw [liveO_snoc,List.nodup_append] at hnd
 obtain ⟨n1,n2,n3⟩:=hnd
 have hgl:gs ∈ liveO sv st:=by unfold liveO;rw [List.mem_append];exact .inl (by simp [hgs])
 have hva:∀ k,va.ownBlock=some k→k ∈ (OpS.live ⟨⟨num,alts,items⟩,va,vi⟩):=fun k hk=>by unfold OpS.live;rw [List.mem_append];exact .inl (by simp [hk])
 have hlive:∀ k,k ∈ OpS.live ⟨⟨num,alts,its⟩,va,v2⟩→va.ownBlock=some k∨v2.ownBlock=some k:=fun k hk=>by
  unfold OpS.live at hk
  rcases List.mem_append.1 hk with h1 | h1
  ·exact .inl (by simpa using h1)
  ·exact .inr (by simpa using h1)
 have hS:∀ b,b<W.heap.size→(B≤b∧b ∉ liveO sv (st ++ [⟨⟨num,alts,items⟩,va,vi⟩]))→b ∉ [gs]∧B≤b∧b ∉ liveO sv (st ++ [⟨⟨num,alts,its⟩,va,v2⟩]):=fun b hlt hb=>by
  obtain ⟨hb1,hb2⟩:=hb
  rw [liveO_snoc,List.mem_append] at hb2
  refine ⟨fun hm=>hb2 (.inl ?_),hb1,?_⟩
  ·rw [List.mem_singleton.1 hm];exact hgl
  ·rw [liveO_snoc,List.mem_append]
   rintro (h1 | h1)
   ·exact hb2 (.inl h1)
   ·rcases hlive b h1 with h2 | h2
    ·exact hb2 (.inr (hva b h2))
    ·have:=(hown.lt b h2).1;omega
 refine h.put2 hc (fun k hk=>.inr (by rw [List.mem_singleton.1 hk];exact hgs)) (fun k hk=>?_) ?_ ⟨⟨ca,own_chg a1 hc (fun k hk hm=>?_),a2.chgX hc hS⟩,⟨cs,own_mono hown hB,hk.chgX hc hS⟩⟩ hrow
 ·rcases hlive k hk with h1 | h1
  ·exact .inl (hva k h1)
  ·exact .inr (hown.lt k h1).1
 ·unfold OpS.live
  rw [List.nodup_append]
  refine ⟨by cases va.ownBlock <;> simp,by cases v2.ownBlock <;> simp,fun a ha b hb e=>?_⟩
  subst e
  have h1:=(a1.lt a (by simpa using ha)).2
  have h2:=(hown.lt a (by simpa using hb)).1
  omega
 ·rw [List.mem_singleton.1 hm] at hk
  exact n3 gs hgl gs (hva gs hk) rfl
theorem PStk.apart {B:Nat} {eN eO:TypeId} {w:World} {sv:Value} {st:List OpS} {x:OpS} (h:PStk B eN eO w sv (st ++ [x])):∀ k ∈ x.live,sv.ownBlock ≠ some k:=fun k hk e=>by
 have hnd:=h.nodup
 rw [liveO_snoc,List.nodup_append] at hnd
 exact hnd.2.2 k (by unfold liveO;rw [List.mem_append];exact .inl (by simp [e])) k hk rfl
/-- The innermost one's cells, out of the row alone. -/
theorem row_head {B:Nat} {eO:TypeId} {w:World} {gs N cap:Nat} {st:List OpS} {o:Op} {va vi:Value} (h:w.ownsRow B eO 3 (.slice (some ⟨gs,0,none⟩) (N+1) cap) (N+1) (cellsO st ++ OpS.cells ⟨o,va,vi⟩)) (hN:st.length=N) :
  (∀ j,w.frozen? ⟨gs,j,none⟩=false)∧w.cell? ⟨gs,N*3+1,none⟩=some va∧w.cell? ⟨gs,N*3+2,none⟩=some vi:=by
 subst hN
 obtain ⟨g,c,e,h1,h2,h3,h4,h5,h6⟩:=own_blkS h (by simp)
 simp only [Value.slice.injEq,Option.some.injEq,Addr.mk.injEq] at e
 obtain ⟨⟨rfl,_,_⟩,e2,rfl⟩:=e
 have hc:=fun j hj=>cellsO_top st ⟨o,va,vi⟩ j hj
 simp only [cellsO_snoc] at hc
 exact ⟨h5,h6 _ _ ((hc 1 (by omega)).trans rfl),h6 _ _ ((hc 2 (by omega)).trans rfl)⟩
/-- The row grows, and where the node goes is known. -/
structure GrowS (B:Nat) (W:World) (X:List Nat) (v0:Value) (n:Nat) (cs l0 l:List Value) (sv:Value) (m:Nat) (old:List Value) (new:Value→List Value) (mk ap ix sn ss:Option Value) (w:World):Prop where
 one:OneApp B 37 51 W X v0 n cs l0 l sv m old new mk ap sn ss w
 at_:∀ v p,ap=some v→ix=some p→∃ g c,v=.slice (some ⟨g,0,none⟩) (n+1) c∧p=.pointer (some ⟨g,n*260,none⟩)
/-- A Boolean of which nobody says which. -/
structure BoolS (W:World) (e:TypeId) (p r:Option Value) (w:World):Prop where
 ext:Ext W w
 blk:∀ v,p=some v→∃ g b,v=.pointer (some ⟨g,0,none⟩)∧W.heap.size≤g∧Blk w g e [.bool b]
 res:∀ v,r=some v→∃ b,v=.bool b
theorem opt_nodup (o:Option Nat):o.toList.Nodup:=by cases o <;> simp
/-- The innermost one's items have grown by one, in place. -/
theorem grow_items {B:Nat} {eN eO:TypeId} {W w':World} {sv:Value} {st:List OpS} {num:Nat} {alts items:List T} {va vi v2:Value} {cs l:List Value} {t:T}
  (h:PStk B eN eO W sv (st ++ [⟨⟨num,alts,items⟩,va,vi⟩])) (hc:Chg (vi.ownBlock.toList ++ sv.ownBlock.toList) W w')
  (hown:w'.ownsRow B eN 260 v2 (items.length+1) (cs ++ l)) (hat:v2.ownBlock=vi.ownBlock∨∃ k,v2.ownBlock=some k∧W.heap.size≤k)
  (hk:DKidsV (fun b=>B≤b∧b ∉ liveO sv (st ++ [⟨⟨num,alts,items⟩,va,vi⟩])) W items cs) (hl:DNodeV (fun b=>B≤b∧b ∉ liveO sv (st ++ [⟨⟨num,alts,items⟩,va,vi⟩])) W t l)
  (hrow:w'.ownsRow B eO 3 sv (st.length+1) (cellsO st ++ OpS.cells ⟨⟨num,alts,items ++ [t]⟩,va,v2⟩)):PStk B eN eO w' sv (st ++ [⟨⟨num,alts,items ++ [t]⟩,va,v2⟩]):=by
 obtain ⟨⟨ca,a1,a2⟩,⟨ci,i1,_⟩⟩:=h.each _ (List.mem_append.2 (.inr (List.mem_singleton.2 rfl)))
 dsimp only at a1 a2 i1
 have hnd:=h.nodup
 rw [liveO_snoc,List.nodup_append] at hnd
 obtain ⟨n1,n2,n3⟩:=hnd
 have hxl:∀ k,k ∈ OpS.live ⟨⟨num,alts,items⟩,va,vi⟩↔va.ownBlock=some k∨vi.ownBlock=some k:=fun k=>by unfold OpS.live;rw [List.mem_append];simp
 have hyl:∀ k,k ∈ OpS.live ⟨⟨num,alts,items ++ [t]⟩,va,v2⟩↔va.ownBlock=some k∨v2.ownBlock=some k:=fun k=>by unfold OpS.live;rw [List.mem_append];simp
 have hsv:∀ k,sv.ownBlock=some k→k ∈ liveO sv st:=fun k hk=>by unfold liveO;rw [List.mem_append];exact .inl (by simp [hk])
 have hav:∀ k,va.ownBlock=some k→vi.ownBlock ≠ some k:=fun k h1 h2=>by
  unfold OpS.live at n2
  rw [List.nodup_append] at n2
  exact n2.2.2 k (by simp [h1]) k (by simp [h2]) rfl
 have hS:∀ b,b<W.heap.size→(B≤b∧b ∉ liveO sv (st ++ [⟨⟨num,alts,items⟩,va,vi⟩]))→b ∉ vi.ownBlock.toList ++ sv.ownBlock.toList∧B≤b∧b ∉ liveO sv (st ++ [⟨⟨num,alts,items ++ [t]⟩,va,v2⟩]):=fun b hlt hb=>by
  obtain ⟨hb1,hb2⟩:=hb
  rw [liveO_snoc,List.mem_append,hxl] at hb2
  refine ⟨fun hm=>?_,hb1,?_⟩
  ·rcases List.mem_append.1 hm with h1 | h1
   ·exact hb2 (.inr (.inr (by simpa using h1)))
   ·exact hb2 (.inl (hsv b (by simpa using h1)))
  ·rw [liveO_snoc,List.mem_append,hyl]
   rintro (h1 | h1 | h1)
   ·exact hb2 (.inl h1)
   ·exact hb2 (.inr (.inl h1))
   ·rcases hat with h2 | ⟨k,h2,h3⟩
    ·exact hb2 (.inr (.inr (h2.symm.trans h1)))
    ·rw [h2] at h1;cases h1;omega
 refine h.put2 hc (fun k hk=>?_) (fun k hk=>?_) ?_ ⟨⟨ca,own_chg a1 hc (fun k hk hm=>?_),a2.chgX hc hS⟩,⟨cs ++ l,by rw [List.length_append];exact hown,dkidsV_append (hk.chgX hc hS) ((dkidsV_one hl).chgX hc hS)⟩⟩ hrow
 ·rcases List.mem_append.1 hk with h1 | h1
  ·exact .inl ((hxl k).2 (.inr (by simpa using h1)))
  ·exact .inr (by simpa using h1)
 ·rcases (hyl k).1 hk with h1 | h1
  ·exact .inl ((hxl k).2 (.inl h1))
  ·rcases hat with h2 | ⟨k2,h2,h3⟩
   ·exact .inl ((hxl k).2 (.inr (h2.symm.trans h1)))
   ·rw [h2] at h1;cases h1;exact .inr h3
 ·unfold OpS.live
  rw [List.nodup_append]
  refine ⟨opt_nodup _,opt_nodup _,fun a ha b hb e=>?_⟩
  subst e
  have h1:va.ownBlock=some a:=by simpa using ha
  have h2:v2.ownBlock=some a:=by simpa using hb
  rcases hat with h3 | ⟨k2,h3,h4⟩
  ·exact hav a h1 (h3.symm.trans h2)
  ·rw [h3] at h2;cases h2
   have:=(a1.lt a h1).2
   omega
 ·rcases List.mem_append.1 hm with h1 | h1
  ·exact hav k hk (by simpa using h1)
  ·exact n3 k (hsv k (by simpa using h1)) k ((hxl k).2 (.inl hk)) rfl
/-- The innermost one's alternatives have grown by one, in place; its items are none. -/
theorem grow_alts {B:Nat} {eN eO:TypeId} {W w':World} {sv:Value} {st:List OpS} {num:Nat} {alts items:List T} {va vi v2:Value} {cs l:List Value} {t:T}
  (h:PStk B eN eO W sv (st ++ [⟨⟨num,alts,items⟩,va,vi⟩])) (hc:Chg (va.ownBlock.toList ++ sv.ownBlock.toList) W w')
  (hown:w'.ownsRow B eN 260 v2 (alts.length+1) (cs ++ l)) (hat:v2.ownBlock=va.ownBlock∨∃ k,v2.ownBlock=some k∧W.heap.size≤k)
  (hk:DKidsV (fun b=>B≤b∧b ∉ liveO sv st∧va.ownBlock ≠ some b) W alts cs) (hl:DNodeV (fun b=>B≤b∧b ∉ liveO sv st∧va.ownBlock ≠ some b) W t l)
  (hrow:w'.ownsRow B eO 3 sv (st.length+1) (cellsO st ++ OpS.cells ⟨⟨num,alts ++ [t],[]⟩,v2,.slice none 0 0⟩)):PStk B eN eO w' sv (st ++ [⟨⟨num,alts ++ [t],[]⟩,v2,.slice none 0 0⟩]):=by
 have hxl:∀ k,k ∈ OpS.live ⟨⟨num,alts,items⟩,va,vi⟩↔va.ownBlock=some k∨vi.ownBlock=some k:=fun k=>by unfold OpS.live;rw [List.mem_append];simp
 have hyl:∀ k,k ∈ OpS.live ⟨⟨num,alts ++ [t],[]⟩,v2,.slice none 0 0⟩↔v2.ownBlock=some k:=fun k=>by unfold OpS.live;rw [List.mem_append];simp [Value.ownBlock]
 have hsv:∀ k,sv.ownBlock=some k→k ∈ liveO sv st:=fun k hk=>by unfold liveO;rw [List.mem_append];exact .inl (by simp [hk])
 have hS:∀ b,b<W.heap.size→(B≤b∧b ∉ liveO sv st∧va.ownBlock ≠ some b)→b ∉ va.ownBlock.toList ++ sv.ownBlock.toList∧B≤b∧b ∉ liveO sv (st ++ [⟨⟨num,alts ++ [t],[]⟩,v2,.slice none 0 0⟩]):=fun b hlt hb=>by
  obtain ⟨hb1,hb2,hb3⟩:=hb
  refine ⟨fun hm=>?_,hb1,?_⟩
  ·rcases List.mem_append.1 hm with h1 | h1
   ·exact hb3 (by simpa using h1)
   ·exact hb2 (hsv b (by simpa using h1))
  ·rw [liveO_snoc,List.mem_append,hyl]
   rintro (h1 | h1)
   ·exact hb2 h1
   ·rcases hat with h2 | ⟨k,h2,h3⟩
    ·exact hb3 (h2.symm.trans h1)
    ·rw [h2] at h1;cases h1;omega
 refine h.put2 hc (fun k hk=>?_) (fun k hk=>?_) ?_ ⟨⟨cs ++ l,by rw [List.length_append];exact hown,dkidsV_append (hk.chgX hc hS) ((dkidsV_one hl).chgX hc hS)⟩,⟨[],World.ownsRow_nil _ _ _ _,by unfold DKidsV;rfl⟩⟩ hrow
 ·rcases List.mem_append.1 hk with h1 | h1
  ·exact .inl ((hxl k).2 (.inl (by simpa using h1)))
  ·exact .inr (by simpa using h1)
 ·have h1:=(hyl k).1 hk
  rcases hat with h2 | ⟨k2,h2,h3⟩
  ·exact .inl ((hxl k).2 (.inl (h2.symm.trans h1)))
  ·rw [h2] at h1;cases h1;exact .inr h3
 ·unfold OpS.live
  simp only [Value.ownBlock,Option.toList_none,List.append_nil]
  exact opt_nodup _
theorem dn_ones (k m:Int) (z:Bool) (p:Nat→Bool) (A:Option Addr) (n c:Nat):∀ u ∈ dnC k m z p A n c,u.oneCell'=true:=by
 have:=dn_one k m z p A n c
 rw [List.all_eq_true] at this
 exact this
/-! ### Words for the walk -/
theorem dn_put0 (k m:Int) (z:Bool) (p:Nat→Bool) (A:Option Addr) (n c:Nat) (k':Int):(dnC k m z p A n c).set 0 (.int .i64 k')=dnC k' m z p A n c:=by
 apply List.ext_getElem?
 intro j
 rw [List.getElem?_set,dn_len,dn_at,dn_at]
 by_cases h0:0=j
 ·subst h0;simp
 ·rw [if_neg h0,if_neg (Ne.symm h0),if_neg (Ne.symm h0)]
theorem dn_put2 (k m:Int) (z:Bool) (p:Nat→Bool) (A:Option Addr) (n c:Nat) (z':Bool):(dnC k m z p A n c).set 2 (.bool z')=dnC k m z' p A n c:=by
 apply List.ext_getElem?
 intro j
 rw [List.getElem?_set,dn_len,dn_at,dn_at]
 by_cases h2:2=j
 ·subst h2;simp
 rw [if_neg h2]
 by_cases h0:j=0
 ·subst h0;rfl
 by_cases h1:j=1
 ·subst h1;rfl
 rw [if_neg h0,if_neg h1,if_neg (Ne.symm h2),if_neg h0,if_neg h1,if_neg (Ne.symm h2)]
theorem dkidsV_take {S:Nat→Prop} {w:World}:∀ {ks:List T} {cs:List Value},DKidsV S w ks cs→∀ n,DKidsV S w (ks.take n) (cs.take (n*260)):=by
 intro ks
 induction ks with
 | nil=>intro cs h n;unfold DKidsV at h;subst h;simp only [List.take_nil];unfold DKidsV;rfl
 | cons t ts ih =>
  intro cs h n
  cases n with
  | zero=>simp only [List.take_zero,Nat.zero_mul];unfold DKidsV;rfl
  | succ n =>
   unfold DKidsV at h
   obtain ⟨v,cs',rfl,h1,h2⟩:=h
   rw [List.take_succ_cons]
   unfold DKidsV
   refine ⟨v,cs'.take (n*260),?_,h1,ih h2 n⟩
   have hl:=dnodeV_len h1
   rw [List.take_append,List.take_of_length_le (by omega),hl,show (n+1)*260-260=n*260 by omega]
theorem results_dn2 {fn:Func} {p q:Tmp} (h:fn.results=#[.cell p 37,.tmp q]) {tmps:Array Value} {w:World} {g:Nat} {l:List Value} {va:Value}
  (hp:tmps.getD p undef=.pointer (some ⟨g,0,none⟩)) (hg:Blk w g 37 l) (hl:l.length=260) (ha:tmps.getD q undef=va):(results fn tmps).run Tryd.prog w=.ok (.tuple #[.agg l.toArray,va]) w:=by
 have hp':tmps[p]?.getD undef=.pointer (some ⟨g,0,none⟩):=by simpa using hp
 have hl:(loadVar 37 ⟨g,0,none⟩).run Tryd.prog w=.ok (.agg l.toArray) w:=
  run_loadVar_row w g _ _ l.toArray (0,0) _ hg Tryd.underlying37 rfl (by rw [List.size_toArray,hl];exact dn_size)
 subst ha
 simp [results,h,hp',asAddr,hl]
theorem elemOp:Elem Tryd.prog 52 51 (.agg #[.int .i64 0,.slice none 0 0,.slice none 0 0]) 3 56:=⟨Tryd.underlying52,by kernel_rfl,rfl,by omega⟩
theorem parseR_in (l:List UInt8):parseR l ≠ .out:=by
 unfold parseR
 by_cases h:120<l.length
 ·rw [if_pos h];exact fun e=>by cases e
 ·rw [if_neg h]
  have hno:altsP l (5*l.length+5) 0 0 0 [] ≠ .out:=(no_out l l.length 0 (Nat.zero_le _) (by omega)).2.2.2.2 _ _ _ _ (Nat.le_refl _)
  cases hr:altsP l (5*l.length+5) 0 0 0 [] with
  | out=>exact absurd hr hno
  | err k=>exact fun e=>by cases e
  | ok t i gr=>dsimp only;split <;> exact fun e=>by cases e
theorem Ext.setNewX {w w':World} (h:Ext w w') {g i:Nat} (hg:w.heap.size≤g) (u:Value):Ext w (w'.setCell ⟨g,i,none⟩ u):=Below.setCell h hg u
/-- A block that was made behind this world holds these cells. -/
structure NewB (W:World) (g:Nat) (l:List Value) (w:World):Prop where
 ext:Ext W w
 blk:Blk w g 37 l
 lt:g<w.heap.size
/-- The same, for what is open. -/
structure NewO (W:World) (g:Nat) (l:List Value) (w:World):Prop where
 ext:Ext W w
 blk:Blk w g 51 l
 lt:g<w.heap.size
theorem newB_kind {W w:World} {g:Nat} {k m:Int} {z:Bool} {p:Nat→Bool} {A:Option Addr} {n c:Nat} (hx:Ext W w) (hb:Blk w g 37 (dnC k m z p A n c)) (hg:W.heap.size≤g) (k':Int):NewB W g (dnC k' m z p A n c) (w.setCell ⟨g,0,none⟩ (.int .i64 k')):=by
 have h:=hb.set_ 0 (.int .i64 k')
 rw [dn_put0] at h
 exact ⟨Ext.setNewX hx hg _,h,h.lt⟩
theorem newB_lazy {W w:World} {g:Nat} {k m:Int} {z:Bool} {p:Nat→Bool} {A:Option Addr} {n c:Nat} (hx:Ext W w) (hb:Blk w g 37 (dnC k m z p A n c)) (hg:W.heap.size≤g) (z':Bool):NewB W g (dnC k m z' p A n c) (w.setCell ⟨g,2,none⟩ (.bool z')):=by
 have h:=hb.set_ 2 (.bool z')
 rw [dn_put2] at h
 exact ⟨Ext.setNewX hx hg _,h,h.lt⟩
/-- The innermost one's cells. -/
theorem PStk.head {B:Nat} {eN eO:TypeId} {w:World} {gs N cap:Nat} {st:List OpS} {x:OpS} (h:PStk B eN eO w (.slice (some ⟨gs,0,none⟩) (N+1) cap) (st ++ [x])) (hN:st.length=N) :
  N+1≤cap∧cap≤maxLen∧B≤gs∧gs<w.heap.size∧(∀ j,w.frozen? ⟨gs,j,none⟩=false)∧w.cell? ⟨gs,N*3,none⟩=some (.int .i64 (x.o.num:Nat))∧w.cell? ⟨gs,N*3+1,none⟩=some x.va∧w.cell? ⟨gs,N*3+2,none⟩=some x.vi:=by
 subst hN
 obtain ⟨g,c,e,h1,h2,h3,h4,h5,h6⟩:=own_blkS h.row (by simp)
 simp only [Value.slice.injEq,Option.some.injEq,Addr.mk.injEq] at e
 obtain ⟨⟨rfl,_,_⟩,e2,rfl⟩:=e
 rw [← e2] at h1
 exact ⟨h1,h2,h3,h4,h5,h6 _ _ ((cellsO_top st x 0 (by omega)).trans rfl),h6 _ _ ((cellsO_top st x 1 (by omega)).trans rfl),h6 _ _ ((cellsO_top st x 2 (by omega)).trans rfl)⟩
end Go.Proofs.YtigmdlchbjanoaaDoor
