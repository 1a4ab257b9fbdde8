/- Put together: Rp8, Rp8r. -/
import Derived.Test.YtigmdlchbjanoaaGreatDoorPGvD
import Derived.Test.YtigmdlchbjanoaaGreatDoorPGvC
import Derived.Test.YtigmdlchbjanoaaGreatDoorPRpB
import Derived.Test.YtigmdlchbjanoaaGreatDoorPGvA
namespace Go.Proofs.YtigmdlchbjanoaaGreatDoor
open Go Go.RowKit
def RefRes (w:World) (r:PR) (e:Ending) (w':World):Prop:=
 Ext w w' ∧ match r with
  | .ok t _ _=>∃ l:List Value,e=.returned (.tuple #[.agg l.toArray,.int .i64 0])∧DNodeV (fun b=>w.heap.size≤b) w' t l
  | .err k=>e=.returned (.tuple #[.agg (dnC 0 0 false (fun _=>false) none 0 0).toArray,.int .i64 (k:Nat)])
  | .out=>False
def PInv (l:List UInt8) (R:PR) (w:World) (g:Nat) (sv gv av iv:Value) (wr:World):Prop:=
 ∃ (num:Nat) (alts items:List T) (rest:List Op) (gr i:Nat) (ag:Bool) (st:List OpS) (va vi:Value) (gs cap N:Nat),
  g=l.length-i∧st.length=N∧sv=.slice (some ⟨gs,0,none⟩) (N+1) cap∧gv=.int .i64 (gr:Nat)∧av=.bool ag∧iv=.int .i64 (i:Nat) ∧
  PStk (w.heap.size+1) 38 98 wr sv (st ++ [⟨⟨num,alts,items⟩,va,vi⟩])∧st.map OpS.o=rest.reverse∧Runs l ⟨⟨num,alts,items⟩,rest,gr,ag,i⟩ R ∧
  i≤l.length∧gr≤9∧N≤8∧(∀ y ∈ st ++ [⟨⟨num,alts,items⟩,va,vi⟩],y.o.alts.length≤i∧y.o.items.length≤i)∧Ext w wr∧Blk wr w.heap.size 38 Tryz.zeroCells38.toList
def loopIn:Code→Option Code
 | .loop c=>some c
 | .seq a b=>match loopIn a with | some c=>some c | none=>loopIn b
 | .block _ c=>loopIn c
 | .cond _ a b=>match loopIn a with | some c=>some c | none=>loopIn b
 | _=>none
noncomputable def bodyP:Code:=(Tryz.f30.body.bind loopIn).getD .skip
def LInv (l:List UInt8) (R:PR) (w:World) (g:Nat) (a:Act) (wr:World):Prop:=
 ∃ sv gv av iv,Fr 280 [(0,.string ⟨l.toArray⟩),(2,.pointer (some ⟨w.heap.size,0,none⟩)),(4,sv),(5,gv),(6,av),(7,iv)] a∧PInv l R w g sv gv av iv wr
end Go.Proofs.YtigmdlchbjanoaaGreatDoor
namespace Go.Proofs.YtigmdlchbjanoaaGreatDoor
open Go Go.RowKit
def cAt:List Nat→Code→Code
 | [],c=>c
 | n :: p,c=>match n,c with
  | 0,.seq x _=>cAt p x
  | 1,.seq _ x=>cAt p x
  | 2,.cond _ x _=>cAt p x
  | 3,.cond _ _ x=>cAt p x
  | 4,.block _ x=>cAt p x
  | 5,.loop x=>cAt p x
  | _,c=>c
noncomputable def c25:Code:=cAt [1,1,1,1,0,1,4,5,1,4,1,1,0,1,2,1,1,1,1,1,1,1,1,0] (Tryz.f30.body.getD .skip)
noncomputable def c69:Code:=cAt [1,1,1,1,0,1,4,5,1,4,1,1,1,1,1,1,1,1,1,1,0] (Tryz.f30.body.getD .skip)
set_option maxHeartbeats 40000000 in
set_option maxRecDepth 20000 in
theorem rep25 {w6:World} {b0 gs N n1 cap cv gv g12 gR:Nat} {K:Int} {z:Bool} {xs old:List Value} {u0 vp u5 u7:Value} {a0:Act} {Q:Exit→Act→World→Prop}
  (F0:Fr 280 [(0,u0),(2,vp),(4,.slice (some ⟨gs,0,none⟩) (N+1) cap),(5,u5),(7,u7),(8,.int .i64 (N:Nat)),(10,.int .i64 (n1:Nat)),(12,.pointer (some ⟨g12,0,none⟩))] a0)
  (_:N+1≤cap) (_:cap≤maxLen) (hcv:n1+1≤cv) (_:cv≤maxLen) (hn120:n1+1≤120) (_:N≤8)
  (HRT:Hid (Rd w6 260 (some ⟨gv,0,none⟩) n1 xs)) (HK1:Hid (∀ u ∈ xs,u.oneCell'=true)) (HY2:Hid (w6.cell? ⟨gs,N*3+2,none⟩=some (.slice (some ⟨gv,0,none⟩) (n1+1) cv))) (HGS:Hid (gs<w6.heap.size))
  (HB6:Hid (Blk w6 g12 38 (dnC K 0 z (fun _=>false) (some ⟨gR,0,none⟩) 1 1))) (HROW:Hid (w6.ownsRow b0 98 3 (.slice (some ⟨gs,0,none⟩) (N+1) cap) (N+1) old)) (HFR6:Hid (∀ j,w6.frozen? ⟨gs,j,none⟩=false))
  (HQ:Hid (∀ a9 w9 v2,Fr 280 [(7,u7),(5,u5),(4,.slice (some ⟨gs,0,none⟩) (N+1) cap),(2,vp),(0,u0)] a9→w9.ownsRow w6.heap.size 38 260 v2 (n1+1) (xs ++ (dnC K 0 z (fun _=>false) (some ⟨gR,0,none⟩) 1 1))→w9.ownsRow b0 98 3 (.slice (some ⟨gs,0,none⟩) (N+1) cap) (N+1) (old.set (N*3+2) v2)→Chg [gs] w6 w9→Q .normal a9 w9)) :
  c25.wp Tryz.prog Q a0 w6:=by
 unfold c25
 unfold Tryz.f30
 dsimp only [cAt,Option.getD]
 refine wp_region_dagE (w:=w6) (fun f w9=>RepS w6 b0 gs (N*3+2) n1 (N+1) xs (dnC K 0 z (fun _=>false) (some ⟨gR,0,none⟩) 1 1) (.slice (some ⟨gs,0,none⟩) (N+1) cap) old (f 2) (f 10) (f 12) (f 13) (f 16) w9) (fun iq v=>match iq with | 0=>v=.slice (some ⟨gs,0,none⟩) (N+1) cap | 1=>v=.int .i64 (N:Nat) | 2=>True | 3=>v=.slice (some ⟨gs,0,none⟩) (N+1) cap | 4=>v=.int .i64 (N:Nat) | 5=>v=.pointer (some ⟨gs,N*3,none⟩) | 6=>v=.pointer (some ⟨gs,N*3+2,none⟩) | 7=>v=.slice (some ⟨gv,0,none⟩) (n1+1) cv | 8=>v=.int .i64 (n1:Nat) | 9=>v=.slice (some ⟨gv,0,none⟩) n1 cv | 10=>True | 11=>v=.agg (dnC K 0 z (fun _=>false) (some ⟨gR,0,none⟩) 1 1).toArray | 12=>True | 13=>True | 14=>v=.pointer (some ⟨gs,N*3,none⟩) | 15=>v=.pointer (some ⟨gs,N*3+2,none⟩) | 16=>True | _=>True) (show Tryz.prog.follows .mixedOrders=true from Checked.mixed Tryz.checked) 280 F0.size (by decide +kernel) (⟨fun _=>TwoApp.start ((Below.refl _ _).drew),fun u h=>(by cases h)⟩) ⟨?_,?_,?_,?_,?_,?_,?_,?_,?_,?_,?_,?_,?_,?_,?_,?_,?_,trivial⟩ ?_
 ·intro f ac wx hS hfi hon hoff hsz hdf h
  have e4:ac.tmps[4]?=some (.slice (some ⟨gs,0,none⟩) (N+1) cap):=by obtain ⟨v,h1,h2⟩:=h 4 (by decide +kernel);exact h1.trans (h2.symm.trans (F0.kn 4 _ rfl))
  clear h hsz hdf hon hoff
  go_wp2
  exact ⟨_,rfl,rfl,hS⟩
 ·intro f ac wx hS hfi hon hoff hsz hdf h
  have e8:ac.tmps[8]?=some (.int .i64 (N:Nat)):=by obtain ⟨v,h1,h2⟩:=h 8 (by decide +kernel);exact h1.trans (h2.symm.trans (F0.kn 8 _ rfl))
  clear h hsz hdf hon hoff
  go_wp2
  exact ⟨_,rfl,rfl,hS⟩
 ·intro f ac wx hS hfi hon hoff hsz hdf h
  have n16:f 16=none:=hoff 16 _ rfl (by decide +kernel)
  clear h hsz hdf hon hoff
  have h2:=hS.two n16
  rw [hfi] at h2
  go_wp2
  first | (exact ⟨_,rfl,trivial,fun _=>h2.doZ,fun u hu=>(by cases (n16.symm.trans hu))⟩) | (exact ⟨_,rfl,fun _=>h2.doZ,fun u hu=>(by cases (n16.symm.trans hu))⟩) | (exact ⟨_,fun _=>h2.doZ,fun u hu=>(by cases (n16.symm.trans hu))⟩)
 ·intro f ac wx hS hfi hon hoff hsz hdf h
  have e4:ac.tmps[4]?=some (.slice (some ⟨gs,0,none⟩) (N+1) cap):=by obtain ⟨v,h1,h2⟩:=h 4 (by decide +kernel);exact h1.trans (h2.symm.trans (F0.kn 4 _ rfl))
  clear h hsz hdf hon hoff
  go_wp2
  exact ⟨_,rfl,rfl,hS⟩
 ·intro f ac wx hS hfi hon hoff hsz hdf h
  have e8:ac.tmps[8]?=some (.int .i64 (N:Nat)):=by obtain ⟨v,h1,h2⟩:=h 8 (by decide +kernel);exact h1.trans (h2.symm.trans (F0.kn 8 _ rfl))
  clear h hsz hdf hon hoff
  go_wp2
  exact ⟨_,rfl,rfl,hS⟩
 ·intro f ac wx hS hfi hon hoff hsz hdf h
  have e92:ac.tmps[92]?=some (.slice (some ⟨gs,0,none⟩) (N+1) cap):=by obtain ⟨v,h1,h2,h3⟩:=h 92 (by decide +kernel);rw [h1];exact congrArg some h3
  have e93:ac.tmps[93]?=some (.int .i64 (N:Nat)):=by obtain ⟨v,h1,h2,h3⟩:=h 93 (by decide +kernel);rw [h1];exact congrArg some h3
  clear h hsz hdf hon hoff
  go_wp2
  exact ⟨_,rfl,rfl,hS⟩
 ·intro f ac wx hS hfi hon hoff hsz hdf h
  have e94:ac.tmps[94]?=some (.pointer (some ⟨gs,N*3,none⟩)):=by obtain ⟨v,h1,h2,h3⟩:=h 94 (by decide +kernel);rw [h1];exact congrArg some h3
  clear h hsz hdf hon hoff
  go_wp2
  exact ⟨_,rfl,rfl,hS⟩
 ·intro f ac wx hS hfi hon hoff hsz hdf h
  have e95:ac.tmps[95]?=some (.pointer (some ⟨gs,N*3+2,none⟩)):=by obtain ⟨v,h1,h2,h3⟩:=h 95 (by decide +kernel);rw [h1];exact congrArg some h3
  have n16:f 16=none:=hoff 16 _ rfl (by decide +kernel)
  clear h hsz hdf hon hoff
  have h2:=hS.two n16
  have y9:=(h2.ext.cell (p:=⟨gs,N*3+2,none⟩) HGS.out).trans HY2.out
  go_wp2
  exact ⟨_,rfl,rfl,hS⟩
 ·intro f ac wx hS hfi hon hoff hsz hdf h
  have e10:ac.tmps[10]?=some (.int .i64 (n1:Nat)):=by obtain ⟨v,h1,h2⟩:=h 10 (by decide +kernel);exact h1.trans (h2.symm.trans (F0.kn 10 _ rfl))
  clear h hsz hdf hon hoff
  go_wp2
  exact ⟨_,rfl,rfl,hS⟩
 ·intro f ac wx hS hfi hon hoff hsz hdf h
  have e96:ac.tmps[96]?=some (.slice (some ⟨gv,0,none⟩) (n1+1) cv):=by obtain ⟨v,h1,h2,h3⟩:=h 96 (by decide +kernel);rw [h1];exact congrArg some h3
  have e97:ac.tmps[97]?=some (.int .i64 (n1:Nat)):=by obtain ⟨v,h1,h2,h3⟩:=h 97 (by decide +kernel);rw [h1];exact congrArg some h3
  clear h hsz hdf hon hoff
  go_wp2
  exact ⟨_,rfl,rfl,hS⟩
 ·intro f ac wx hS hfi hon hoff hsz hdf h
  obtain ⟨v91,e91,f91⟩:∃ v,ac.tmps[91]?=some v∧f 2=some v:=by obtain ⟨v,h1,h2,h3⟩:=h 91 (by decide +kernel);exact ⟨v,h1,h2⟩
  have e98:ac.tmps[98]?=some (.slice (some ⟨gv,0,none⟩) n1 cv):=by obtain ⟨v,h1,h2,h3⟩:=h 98 (by decide +kernel);rw [h1];exact congrArg some h3
  have n16:f 16=none:=hoff 16 _ rfl (by decide +kernel)
  have n13:f 13=none:=hoff 13 _ rfl (by decide +kernel)
  clear h hsz hdf hon hoff
  have h2:=hS.two n16
  rw [hfi,n13,f91] at h2
  obtain ⟨gz,rfl,hgz,hbz⟩:=h2.hz _ rfl rfl
  refine wpList_app2 elemDn rfl (.tmp 91) (.tmp 98) rfl (base:=w6.heap.size) (v:=.slice (some ⟨gz,0,none⟩) 0 0) (n:=0) (xs:=[]) ?_ (by simpa using hbz.own (size:=260) hgz (Nat.le_refl 0) (by unfold maxLen;omega) rfl) h2.ext.size (A:=some ⟨gv,0,none⟩) (m:=n1) (c:=cv) (news:=xs) ?_ (HRT.out.keep h2.ext) HK1.out (by omega) (by unfold maxLen;omega) ?_
  ·simp [Act.eval,e91]
  ·simp [Act.eval,e98]
  ·intro v' w' hown hg _ _
   rw [Nat.zero_add,List.nil_append] at hown
   go_wp2
   first | (refine ⟨_,rfl,trivial,fun _=>?_,fun u hu=>(by cases (n16.symm.trans hu))⟩) | (refine ⟨_,rfl,fun _=>?_,fun u hu=>(by cases (n16.symm.trans hu))⟩) | (refine ⟨_,fun _=>?_,fun u hu=>(by cases (n16.symm.trans hu))⟩)
   show TwoApp 38 _ _ _ _ (f 2) (some v') (f 12) (f 13) w'
   rw [f91,n13]
   exact h2.do1 (dn_len _ _ _ _ _ _ _) hown hg
 ·intro f ac wx hS hfi hon hoff hsz hdf h
  have e12:ac.tmps[12]?=some (.pointer (some ⟨g12,0,none⟩)):=by obtain ⟨v,h1,h2⟩:=h 12 (by decide +kernel);exact h1.trans (h2.symm.trans (F0.kn 12 _ rfl))
  have n16:f 16=none:=hoff 16 _ rfl (by decide +kernel)
  clear h hsz hdf hon hoff
  have h2:=hS.two n16
  refine load_dn rfl (.tmp 12) rfl (g:=g12) (by simp [Act.eval,e12]) (HB6.out.keep h2.ext) ?_
  go_wp2
  exact ⟨_,rfl,rfl,hS⟩
 ·intro f ac wx hS hfi hon hoff hsz hdf h
  have e100:ac.tmps[100]?=some (.agg (dnC K 0 z (fun _=>false) (some ⟨gR,0,none⟩) 1 1).toArray):=by obtain ⟨v,h1,h2,h3⟩:=h 100 (by decide +kernel);rw [h1];exact congrArg some h3
  have n16:f 16=none:=hoff 16 _ rfl (by decide +kernel)
  clear h hsz hdf hon hoff
  have h2:=hS.two n16
  rw [hfi] at h2
  refine mk_dn rfl (.tmp 100) rfl (v:=(dnC K 0 z (fun _=>false) (some ⟨gR,0,none⟩) 1 1)) (dn_len _ _ _ _ _ _ _) (by simp [Act.eval,e100]) ?_
  go_wp2
  first | (exact ⟨_,rfl,trivial,fun _=>h2.doM,fun u hu=>(by cases (n16.symm.trans hu))⟩) | (exact ⟨_,rfl,fun _=>h2.doM,fun u hu=>(by cases (n16.symm.trans hu))⟩) | (exact ⟨_,fun _=>h2.doM,fun u hu=>(by cases (n16.symm.trans hu))⟩)
 ·intro f ac wx hS hfi hon hoff hsz hdf h
  obtain ⟨v99,e99,f99⟩:∃ v,ac.tmps[99]?=some v∧f 10=some v:=by obtain ⟨v,h1,h2,h3⟩:=h 99 (by decide +kernel);exact ⟨v,h1,h2⟩
  obtain ⟨v101,e101,f101⟩:∃ v,ac.tmps[101]?=some v∧f 12=some v:=by obtain ⟨v,h1,h2,h3⟩:=h 101 (by decide +kernel);exact ⟨v,h1,h2⟩
  have n16:f 16=none:=hoff 16 _ rfl (by decide +kernel)
  clear h hsz hdf hon hoff
  have h2:=hS.two n16
  rw [hfi,f99,f101] at h2
  obtain ⟨gm,rfl,hgm,hbm⟩:=h2.hm _ rfl rfl
  refine wpList_app2 elemDn rfl (.tmp 99) (.tmp 101) rfl (base:=w6.heap.size) (v:=v99) (n:=n1) (xs:=xs) ?_ (h2.h1 _ rfl rfl) h2.ext.size (A:=some ⟨gm,0,none⟩) (m:=1) (c:=1) (news:=(dnC K 0 z (fun _=>false) (some ⟨gR,0,none⟩) 1 1)) ?_ (blk_rd1 hbm (dn_len _ _ _ _ _ _ _)) (dn_ones _ _ _ _ _ _ _) (by omega) (by unfold maxLen;omega) ?_
  ·simp [Act.eval,e99]
  ·simp [Act.eval,e101]
  ·intro v' w' hown hg _ _
   go_wp2
   first | (refine ⟨_,rfl,trivial,fun _=>?_,fun u hu=>(by cases (n16.symm.trans hu))⟩) | (refine ⟨_,rfl,fun _=>?_,fun u hu=>(by cases (n16.symm.trans hu))⟩) | (refine ⟨_,fun _=>?_,fun u hu=>(by cases (n16.symm.trans hu))⟩)
   show TwoApp 38 _ _ _ _ (f 2) (f 10) (f 12) (some v') w'
   rw [f99,f101]
   exact h2.do2 hown hg
 ·intro f ac wx hS hfi hon hoff hsz hdf h
  have e89:ac.tmps[89]?=some (.slice (some ⟨gs,0,none⟩) (N+1) cap):=by obtain ⟨v,h1,h2,h3⟩:=h 89 (by decide +kernel);rw [h1];exact congrArg some h3
  have e90:ac.tmps[90]?=some (.int .i64 (N:Nat)):=by obtain ⟨v,h1,h2,h3⟩:=h 90 (by decide +kernel);rw [h1];exact congrArg some h3
  clear h hsz hdf hon hoff
  go_wp2
  exact ⟨_,rfl,rfl,hS⟩
 ·intro f ac wx hS hfi hon hoff hsz hdf h
  have e103:ac.tmps[103]?=some (.pointer (some ⟨gs,N*3,none⟩)):=by obtain ⟨v,h1,h2,h3⟩:=h 103 (by decide +kernel);rw [h1];exact congrArg some h3
  clear h hsz hdf hon hoff
  go_wp2
  exact ⟨_,rfl,rfl,hS⟩
 ·intro f ac wx hS hfi hon hoff hsz hdf h
  have e104:ac.tmps[104]?=some (.pointer (some ⟨gs,N*3+2,none⟩)):=by obtain ⟨v,h1,h2,h3⟩:=h 104 (by decide +kernel);rw [h1];exact congrArg some h3
  obtain ⟨v102,e102,f102⟩:∃ v,ac.tmps[102]?=some v∧f 13=some v:=by obtain ⟨v,h1,h2,h3⟩:=h 102 (by decide +kernel);exact ⟨v,h1,h2⟩
  clear h hsz hdf hon hoff
  have h2:=hS.two hfi
  have hown:=h2.h2 _ f102
  obtain ⟨A9,c9,rfl,hc9,hm9,hr9⟩:=own_rd hown
  have y9:=(h2.ext.cell (p:=⟨gs,N*3+2,none⟩) HGS.out).trans HY2.out
  have fz:wx.frozen? ⟨gs,N*3+2,none⟩=false:=(World.frozen?_of_block (h2.ext.block gs HGS.out)).trans (HFR6.out _)
  go_wp2
  first | (refine ⟨undef,rfl,trivial,fun h=>absurd h (by simp [give]),fun _ _=>⟨_,f102,own_chg hown (cell_chg _) (fun k hk hm=>?_),own_setCell (own_ext HROW.out h2.ext) _,(Chg.of_ext h2.ext).trans (cell_chg _)⟩⟩) | (refine ⟨undef,rfl,fun h=>absurd h (by simp [give]),fun _ _=>⟨_,f102,own_chg hown (cell_chg _) (fun k hk hm=>?_),own_setCell (own_ext HROW.out h2.ext) _,(Chg.of_ext h2.ext).trans (cell_chg _)⟩⟩) | (refine ⟨undef,fun h=>absurd h (by simp [give]),fun _ _=>⟨_,f102,own_chg hown (cell_chg _) (fun k hk hm=>?_),own_setCell (own_ext HROW.out h2.ext) _,(Chg.of_ext h2.ext).trans (cell_chg _)⟩⟩)
  have h7:=hown.lt k hk
  have h8:=HGS.out
  rw [List.mem_singleton.1 hm] at h7
  omega
 intro f a1 w9 hS h hsz hdf hrest
 obtain ⟨v0,q0,s0,g0⟩:=h 0 _ rfl
 obtain ⟨v1,q1,s1,g1⟩:=h 1 _ rfl
 obtain ⟨v2,q2,s2,g2⟩:=h 2 _ rfl
 obtain ⟨v3,q3,s3,g3⟩:=h 3 _ rfl
 obtain ⟨v4,q4,s4,g4⟩:=h 4 _ rfl
 obtain ⟨v5,q5,s5,g5⟩:=h 5 _ rfl
 obtain ⟨v6,q6,s6,g6⟩:=h 6 _ rfl
 obtain ⟨v7,q7,s7,g7⟩:=h 7 _ rfl
 obtain ⟨v8,q8,s8,g8⟩:=h 8 _ rfl
 obtain ⟨v9,q9,s9,g9⟩:=h 9 _ rfl
 obtain ⟨v10,q10,s10,g10⟩:=h 10 _ rfl
 obtain ⟨v11,q11,s11,g11⟩:=h 11 _ rfl
 obtain ⟨v12,q12,s12,g12⟩:=h 12 _ rfl
 obtain ⟨v13,q13,s13,g13⟩:=h 13 _ rfl
 obtain ⟨v14,q14,s14,g14⟩:=h 14 _ rfl
 obtain ⟨v15,q15,s15,g15⟩:=h 15 _ rfl
 obtain ⟨v16,q16,s16,g16⟩:=h 16 _ rfl
 have F1:=((((((Fr.start (hsz.trans F0.size) (hdf.trans F0.defers)).cons (t:=0) (v:=u0) ((hrest 0 (by decide +kernel)).trans (F0.kn 0 _ rfl))).cons (t:=2) (v:=vp) ((hrest 2 (by decide +kernel)).trans (F0.kn 2 _ rfl))).cons (t:=4) (v:=.slice (some ⟨gs,0,none⟩) (N+1) cap) ((hrest 4 (by decide +kernel)).trans (F0.kn 4 _ rfl))).cons (t:=5) (v:=u5) ((hrest 5 (by decide +kernel)).trans (F0.kn 5 _ rfl))).cons (t:=7) (v:=u7) ((hrest 7 (by decide +kernel)).trans (F0.kn 7 _ rfl)))
 obtain ⟨v2,hv2,hown9,hrow9,hc9⟩:=hS.fin _ q16
 clear h hrest hsz hdf hS q0 s0 g0 q1 s1 g1 q2 s2 g2 q3 s3 g3 q4 s4 g4 q5 s5 g5 q6 s6 g6 q7 s7 g7 q8 s8 g8 q9 s9 g9 q10 s10 g10 q11 s11 g11 q12 s12 g12 q13 s13 g13 q14 s14 g14 q15 s15 g15 q16 s16 g16 F0
 exact HQ.out _ _ _ F1 hown9 hrow9 hc9
set_option maxHeartbeats 40000000 in
set_option maxRecDepth 20000 in
theorem app69 {w wb:World} {gs N ni cap na ca ci g15 num:Nat} {Ai Aa:Option Addr} {p:Nat→Bool} {st:List OpS} {alts items:List T} {csi:List Value} {u0 vp u5 u7 u16:Value} {a0:Act} {Q:Exit→Act→World→Prop}
  (F0:Fr 280 [(0,u0),(2,vp),(4,.slice (some ⟨gs,0,none⟩) (N+1) cap),(5,u5),(7,u7),(8,.int .i64 (N:Nat)),(15,.pointer (some ⟨g15,0,none⟩)),(16,u16)] a0)
  (_:N+1≤cap) (_:cap≤maxLen) (_:Hid ((na≤ca∧ca≤maxLen)∧ni≤ci∧ci≤maxLen)) (hn120:na≤120∧ni≤120) (_:N≤8) (hN:st.length=N)
  (HBB:Hid (BB wb g15 p)) (HG15:Hid (g15 ∉ (Value.ownBlock (.slice Ai ni ci)).toList ++ (Value.ownBlock (.slice (some ⟨gs,0,none⟩) (N+1) cap)).toList)) (HROW:Hid (wb.ownsRow (w.heap.size+1) 98 3 (.slice (some ⟨gs,0,none⟩) (N+1) cap) (N+1) (cellsO st ++ OpS.cells ⟨⟨num,alts,items⟩,.slice Aa na ca,.slice Ai ni ci⟩)))
  (HI2:Hid (wb.ownsRow (w.heap.size+1) 38 260 (.slice Ai ni ci) ni csi)) (HSW:Hid (w.heap.size+1≤wb.heap.size)) (HAP:Hid (OneAp0 wb ((Value.ownBlock (.slice Ai ni ci)).toList ++ (Value.ownBlock (.slice (some ⟨gs,0,none⟩) (N+1) cap)).toList) (.slice Ai ni ci) (.slice (some ⟨gs,0,none⟩) (N+1) cap)))
  (HCSL:Hid (csi.length=ni*260)) (HLO:Hid (∀ u ∈ (dnC 2 0 false p none 0 0),u.oneCell'=true)) (HLL:Hid ((dnC 2 0 false p none 0 0).length=260))
  (HQ:Hid (∀ a9 w9 v9,Fr 280 [(16,u16),(7,u7),(5,u5),(4,.slice (some ⟨gs,0,none⟩) (N+1) cap),(2,vp),(0,u0)] a9→w9.ownsRow (w.heap.size+1) 38 260 v9 (ni+1) (csi ++ (dnC 2 0 false p none 0 0))→(v9.ownBlock=(Value.ownBlock (.slice Ai ni ci))∨∃ k,v9.ownBlock=some k∧wb.heap.size≤k)→w9.ownsRow (w.heap.size+1) 98 3 (.slice (some ⟨gs,0,none⟩) (N+1) cap) (N+1) (cellsO st ++ [.int .i64 (num:Nat),.slice Aa na ca,v9])→Chg ((Value.ownBlock (.slice Ai ni ci)).toList ++ (Value.ownBlock (.slice (some ⟨gs,0,none⟩) (N+1) cap)).toList) wb w9→Q .normal a9 w9)) :
  c69.wp Tryz.prog Q a0 wb:=by
 unfold c69
 unfold Tryz.f30
 dsimp only [cAt,Option.getD]
 refine wp_region_dagE (w:=wb) (fun f w9=>GrowS (w.heap.size+1) wb ((Value.ownBlock (.slice Ai ni ci)).toList ++ (Value.ownBlock (.slice (some ⟨gs,0,none⟩) (N+1) cap)).toList) (.slice Ai ni ci) ni csi (dnC 0 0 false (fun _=>false) none 0 0) (dnC 2 0 false p none 0 0) (.slice (some ⟨gs,0,none⟩) (N+1) cap) (N+1) (cellsO st ++ OpS.cells ⟨⟨num,alts,items⟩,.slice Aa na ca,.slice Ai ni ci⟩) (fun v9=>cellsO st ++ [.int .i64 (num:Nat),.slice Aa na ca,v9]) (f 8) (f 9) (f 10) (f 11) (f 14) w9) (fun iq v=>match iq with | 0=>v=.slice (some ⟨gs,0,none⟩) (N+1) cap | 1=>v=.int .i64 (N:Nat) | 2=>v=.pointer (some ⟨gs,N*3,none⟩) | 3=>v=.pointer (some ⟨gs,N*3+2,none⟩) | 4=>v=.slice Ai ni ci | 5=>v=bp p | 6=>v=.agg (dnC 2 0 false p none 0 0).toArray | 7=>v=.int .i64 (ni:Nat) | 8=>True | 9=>True | 10=>True | 11=>True | 12=>v=.pointer (some ⟨gs,N*3,none⟩) | 13=>v=.pointer (some ⟨gs,N*3+2,none⟩) | 14=>True | _=>True) (show Tryz.prog.follows .mixedOrders=true from Checked.mixed Tryz.checked) 280 F0.size (by decide +kernel) (⟨OneApp.start ((Below.refl _ _).drew) HROW.out HI2.out,fun v p h=>(by cases h)⟩) ⟨?_,?_,?_,?_,?_,?_,?_,?_,?_,?_,?_,?_,?_,?_,?_,trivial⟩ ?_
 ·intro f ac wx hS hfi hon hoff hsz hdf h
  have e4:ac.tmps[4]?=some (.slice (some ⟨gs,0,none⟩) (N+1) cap):=by obtain ⟨v,h1,h2⟩:=h 4 (by decide +kernel);exact h1.trans (h2.symm.trans (F0.kn 4 _ rfl))
  clear h hsz hdf hon hoff
  go_wp2
  exact ⟨_,rfl,rfl,hS⟩
 ·intro f ac wx hS hfi hon hoff hsz hdf h
  have e8:ac.tmps[8]?=some (.int .i64 (N:Nat)):=by obtain ⟨v,h1,h2⟩:=h 8 (by decide +kernel);exact h1.trans (h2.symm.trans (F0.kn 8 _ rfl))
  clear h hsz hdf hon hoff
  go_wp2
  exact ⟨_,rfl,rfl,hS⟩
 ·intro f ac wx hS hfi hon hoff hsz hdf h
  have e256:ac.tmps[256]?=some (.slice (some ⟨gs,0,none⟩) (N+1) cap):=by obtain ⟨v,h1,h2,h3⟩:=h 256 (by decide +kernel);rw [h1];exact congrArg some h3
  have e257:ac.tmps[257]?=some (.int .i64 (N:Nat)):=by obtain ⟨v,h1,h2,h3⟩:=h 257 (by decide +kernel);rw [h1];exact congrArg some h3
  clear h hsz hdf hon hoff
  go_wp2
  exact ⟨_,rfl,rfl,hS⟩
 ·intro f ac wx hS hfi hon hoff hsz hdf h
  have e258:ac.tmps[258]?=some (.pointer (some ⟨gs,N*3,none⟩)):=by obtain ⟨v,h1,h2,h3⟩:=h 258 (by decide +kernel);rw [h1];exact congrArg some h3
  clear h hsz hdf hon hoff
  go_wp2
  exact ⟨_,rfl,rfl,hS⟩
 ·intro f ac wx hS hfi hon hoff hsz hdf h
  have e259:ac.tmps[259]?=some (.pointer (some ⟨gs,N*3+2,none⟩)):=by obtain ⟨v,h1,h2,h3⟩:=h 259 (by decide +kernel);rw [h1];exact congrArg some h3
  have n14:f 14=none:=hoff 14 _ rfl (by decide +kernel)
  clear h hsz hdf hon hoff
  have hr9:=row_head (hS.one.row0 n14) hN
  obtain ⟨fz9,y91,y92⟩:=hr9
  go_wp2
  exact ⟨_,rfl,rfl,hS⟩
 ·intro f ac wx hS hfi hon hoff hsz hdf h
  have e15:ac.tmps[15]?=some (.pointer (some ⟨g15,0,none⟩)):=by obtain ⟨v,h1,h2⟩:=h 15 (by decide +kernel);exact h1.trans (h2.symm.trans (F0.kn 15 _ rfl))
  clear h hsz hdf hon hoff
  refine load_set rfl (.tmp 15) rfl (g:=g15) (by simp [Act.eval,e15]) (Blk.chg HBB.out hS.one.chg HG15.out) ?_
  go_wp2
  exact ⟨_,rfl,rfl,hS⟩
 ·intro f ac wx hS hfi hon hoff hsz hdf h
  have e261:ac.tmps[261]?=some (bp p):=by obtain ⟨v,h1,h2,h3⟩:=h 261 (by decide +kernel);rw [h1];exact congrArg some h3
  clear h hsz hdf hon hoff
  refine build_ks rfl (.tmp 261) rfl (p:=p) (by simp [Act.eval,e261]) ?_
  go_wp2
  exact ⟨_,rfl,rfl,hS⟩
 ·intro f ac wx hS hfi hon hoff hsz hdf h
  have e260:ac.tmps[260]?=some (.slice Ai ni ci):=by obtain ⟨v,h1,h2,h3⟩:=h 260 (by decide +kernel);rw [h1];exact congrArg some h3
  clear h hsz hdf hon hoff
  go_wp2
  exact ⟨_,rfl,rfl,hS⟩
 ·intro f ac wx hS hfi hon hoff hsz hdf h
  clear h hsz hdf hon hoff
  have h2:=hS.one
  rw [hfi] at h2
  refine mk_dn rfl (_) rfl (v:=(dnC 0 0 false (fun _=>false) none 0 0)) (dn_len _ _ _ _ _ _ _) (by refine congrArg Value.agg ?_;unfold dnC bcs;kernel_rfl) ?_
  go_wp2
  first | (exact ⟨_,rfl,trivial,h2.doM,fun v p h1 h2=>hS.at_ v p h1 h2⟩) | (exact ⟨_,rfl,h2.doM,fun v p h1 h2=>hS.at_ v p h1 h2⟩) | (exact ⟨_,h2.doM,fun v p h1 h2=>hS.at_ v p h1 h2⟩)
 ·intro f ac wx hS hfi hon hoff hsz hdf h
  have e260:ac.tmps[260]?=some (.slice Ai ni ci):=by obtain ⟨v,h1,h2,h3⟩:=h 260 (by decide +kernel);rw [h1];exact congrArg some h3
  obtain ⟨v264,e264,f264⟩:∃ v,ac.tmps[264]?=some v∧f 8=some v:=by obtain ⟨v,h1,h2,h3⟩:=h 264 (by decide +kernel);exact ⟨v,h1,h2⟩
  have n14:f 14=none:=hoff 14 _ rfl (by decide +kernel)
  have nsn:f 11=none:=hoff 11 _ rfl (by decide +kernel)
  have nat:f 10=none:=hoff 10 _ rfl (by decide +kernel)
  clear h hsz hdf hon hoff
  have h2:=hS.one
  rw [hfi,f264,n14,nsn] at h2
  obtain ⟨gm,rfl,hgm,hbm⟩:=h2.hm _ rfl rfl
  refine wpList_app2 elemDn rfl (.tmp 260) (.tmp 264) rfl (base:=w.heap.size+1) (v:=.slice Ai ni ci) (n:=ni) (xs:=csi) ?_ (h2.it0 rfl) (by have:=h2.chg.size;have:=HSW.out;omega) (A:=some ⟨gm,0,none⟩) (m:=1) (c:=1) (news:=(dnC 0 0 false (fun _=>false) none 0 0)) ?_ (blk_rd1 hbm (dn_len _ _ _ _ _ _ _)) (dn_ones _ _ _ _ _ _ _) (by omega) (by unfold maxLen;omega) ?_
  ·simp [Act.eval,e260]
  ·simp [Act.eval,e264]
  ·intro v' w' hown hg _ hat
   go_wp2
   have h3:=h2.doA HAP.out hown hg hat
   rw [← f264] at h3
   first | (refine ⟨_,rfl,trivial,?_,fun v p h1 h2=>?_⟩) | (refine ⟨_,rfl,?_,fun v p h1 h2=>?_⟩) | (refine ⟨_,?_,fun v p h1 h2=>?_⟩)
   ·show OneApp _ _ _ _ _ _ _ _ _ _ _ _ _ _ (f 8) (some v') (f 11) (f 14) w'
    rw [n14,nsn];exact h3
   ·cases (nat.symm.trans h2)
 ·intro f ac wx hS hfi hon hoff hsz hdf h
  obtain ⟨v265,e265,f265⟩:∃ v,ac.tmps[265]?=some v∧f 9=some v:=by obtain ⟨v,h1,h2,h3⟩:=h 265 (by decide +kernel);exact ⟨v,h1,h2⟩
  have e263:ac.tmps[263]?=some (.int .i64 (ni:Nat)):=by obtain ⟨v,h1,h2,h3⟩:=h 263 (by decide +kernel);rw [h1];exact congrArg some h3
  clear h hsz hdf hon hoff
  have hown:=(hS.one.it1 _ f265).1
  obtain ⟨g8,c8,rfl,h81,h82,h83,h84,h85,h86⟩:=own_blkS hown (by omega)
  clear h85 h86
  go_wp2
  first | (refine ⟨_,rfl,trivial,hS.one,fun v p h1 h2=>⟨g8,c8,?_,?_⟩⟩) | (refine ⟨_,rfl,hS.one,fun v p h1 h2=>⟨g8,c8,?_,?_⟩⟩) | (refine ⟨_,hS.one,fun v p h1 h2=>⟨g8,c8,?_,?_⟩⟩)
  ·exact Option.some.inj (h1.symm.trans f265)
  ·exact (Option.some.inj h2).symm
 ·intro f ac wx hS hfi hon hoff hsz hdf h
  obtain ⟨v266,e266,f266⟩:∃ v,ac.tmps[266]?=some v∧f 10=some v:=by obtain ⟨v,h1,h2,h3⟩:=h 266 (by decide +kernel);exact ⟨v,h1,h2⟩
  have e262:ac.tmps[262]?=some (.agg (dnC 2 0 false p none 0 0).toArray):=by obtain ⟨v,h1,h2,h3⟩:=h 262 (by decide +kernel);rw [h1];exact congrArg some h3
  obtain ⟨u9,f9⟩:∃ v,f 9=some v:=hon 9 (by decide +kernel)
  clear h hsz hdf hon hoff
  obtain ⟨g8,c8,e8,rfl⟩:=hS.at_ _ _ f9 f266
  subst e8
  have h2:=hS.one
  rw [hfi,f9] at h2
  have hcs:(csi).length=ni*260:=HCSL.out
  refine store_last rfl (.tmp 266) (.tmp 262) rfl (l0:=(dnC 0 0 false (fun _=>false) none 0 0)) (l:=(dnC 2 0 false p none 0 0)) (h2.it1 _ rfl).1 hcs HLL.out HLO.out (by simp [Act.eval,e266]) (by simp [Act.eval,e262]) ?_
  intro w' hown hc
  go_wp2
  have h3:=h2.doS (u:=undef) HAP.out hown hc
  rw [← f9] at h3
  first | (exact ⟨undef,rfl,trivial,h3,fun v p h1 h2=>hS.at_ v p h1 h2⟩) | (exact ⟨undef,rfl,h3,fun v p h1 h2=>hS.at_ v p h1 h2⟩) | (exact ⟨undef,h3,fun v p h1 h2=>hS.at_ v p h1 h2⟩)
 ·intro f ac wx hS hfi hon hoff hsz hdf h
  have e256:ac.tmps[256]?=some (.slice (some ⟨gs,0,none⟩) (N+1) cap):=by obtain ⟨v,h1,h2,h3⟩:=h 256 (by decide +kernel);rw [h1];exact congrArg some h3
  have e257:ac.tmps[257]?=some (.int .i64 (N:Nat)):=by obtain ⟨v,h1,h2,h3⟩:=h 257 (by decide +kernel);rw [h1];exact congrArg some h3
  clear h hsz hdf hon hoff
  go_wp2
  exact ⟨_,rfl,rfl,hS⟩
 ·intro f ac wx hS hfi hon hoff hsz hdf h
  have e267:ac.tmps[267]?=some (.pointer (some ⟨gs,N*3,none⟩)):=by obtain ⟨v,h1,h2,h3⟩:=h 267 (by decide +kernel);rw [h1];exact congrArg some h3
  clear h hsz hdf hon hoff
  go_wp2
  exact ⟨_,rfl,rfl,hS⟩
 ·intro f ac wx hS hfi hon hoff hsz hdf h
  have e268:ac.tmps[268]?=some (.pointer (some ⟨gs,N*3+2,none⟩)):=by obtain ⟨v,h1,h2,h3⟩:=h 268 (by decide +kernel);rw [h1];exact congrArg some h3
  obtain ⟨v265,e265,f265⟩:∃ v,ac.tmps[265]?=some v∧f 9=some v:=by obtain ⟨v,h1,h2,h3⟩:=h 265 (by decide +kernel);exact ⟨v,h1,h2⟩
  clear h hsz hdf hon hoff
  have h2:=hS.one
  rw [hfi,f265] at h2
  obtain ⟨A8,c8,rfl,h81,h82,h83⟩:=own_rd (h2.it1 _ rfl).1
  obtain ⟨fz9,y91,y92⟩:=row_head (h2.row0 rfl) hN
  have fz:=fz9 (N*3+2)
  go_wp2
  have h3:=h2.doR (u:=undef) (i:=N*3+2) HAP.out rfl (by rw [show N*3+2=st.length*3+2 by rw [hN]];exact (cellsO_set2 st ⟨⟨num,alts,items⟩,.slice Aa na ca,.slice Ai ni ci⟩ _).symm)
  rw [← f265] at h3
  first | (exact ⟨undef,rfl,trivial,h3,fun v p h1 h2=>hS.at_ v p h1 h2⟩) | (exact ⟨undef,rfl,h3,fun v p h1 h2=>hS.at_ v p h1 h2⟩) | (exact ⟨undef,h3,fun v p h1 h2=>hS.at_ v p h1 h2⟩)
 intro f a1 w9 hS h hsz hdf hrest
 obtain ⟨v0,q0,s0,g0⟩:=h 0 _ rfl
 obtain ⟨v1,q1,s1,g1⟩:=h 1 _ rfl
 obtain ⟨v2,q2,s2,g2⟩:=h 2 _ rfl
 obtain ⟨v3,q3,s3,g3⟩:=h 3 _ rfl
 obtain ⟨v4,q4,s4,g4⟩:=h 4 _ rfl
 obtain ⟨v5,q5,s5,g5⟩:=h 5 _ rfl
 obtain ⟨v6,q6,s6,g6⟩:=h 6 _ rfl
 obtain ⟨v7,q7,s7,g7⟩:=h 7 _ rfl
 obtain ⟨v8,q8,s8,g8⟩:=h 8 _ rfl
 obtain ⟨v9,q9,s9,g9⟩:=h 9 _ rfl
 obtain ⟨v10,q10,s10,g10⟩:=h 10 _ rfl
 obtain ⟨v11,q11,s11,g11⟩:=h 11 _ rfl
 obtain ⟨v12,q12,s12,g12⟩:=h 12 _ rfl
 obtain ⟨v13,q13,s13,g13⟩:=h 13 _ rfl
 obtain ⟨v14,q14,s14,g14⟩:=h 14 _ rfl
 have F1:=(((((((Fr.start (hsz.trans F0.size) (hdf.trans F0.defers)).cons (t:=0) (v:=u0) ((hrest 0 (by decide +kernel)).trans (F0.kn 0 _ rfl))).cons (t:=2) (v:=vp) ((hrest 2 (by decide +kernel)).trans (F0.kn 2 _ rfl))).cons (t:=4) (v:=.slice (some ⟨gs,0,none⟩) (N+1) cap) ((hrest 4 (by decide +kernel)).trans (F0.kn 4 _ rfl))).cons (t:=5) (v:=u5) ((hrest 5 (by decide +kernel)).trans (F0.kn 5 _ rfl))).cons (t:=7) (v:=u7) ((hrest 7 (by decide +kernel)).trans (F0.kn 7 _ rfl))).cons (t:=16) (v:=u16) ((hrest 16 (by decide +kernel)).trans (F0.kn 16 _ rfl)))
 have hone:=hS.one
 rw [q9,q11,q14] at hone
 obtain ⟨hown9,hat9⟩:=hone.it1 _ rfl
 have hrow9:=hone.row1 _ _ rfl rfl
 have hc9:=hone.chg
 clear h hrest hsz hdf hS q0 s0 g0 q1 s1 g1 q2 s2 g2 q3 s3 g3 q4 s4 g4 q5 s5 g5 q6 s6 g6 q7 s7 g7 q8 s8 g8 q9 s9 g9 q10 s10 g10 q11 s11 g11 q12 s12 g12 q13 s13 g13 q14 s14 g14 F0
 exact HQ.out _ _ _ F1 hown9 hat9 hrow9 hc9
end Go.Proofs.YtigmdlchbjanoaaGreatDoor
