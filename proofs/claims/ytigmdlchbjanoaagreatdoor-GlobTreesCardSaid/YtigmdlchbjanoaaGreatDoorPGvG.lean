/- Put together: Rp9b. -/
import Derived.Test.YtigmdlchbjanoaaGreatDoorPGvE
namespace Go.Proofs.YtigmdlchbjanoaaGreatDoor
open Go Go.RowKit
set_option maxHeartbeats 40000000 in
set_option maxRecDepth 20000 in
theorem way2 (l:List UInt8) (R:PR) (w:World) (_:(l.length:Int)≤120) (_:Hid (Tryz.zeroCells38.toList.length=260)) (_:Hid (R ≠ .out)) (HL:Hid (l.length≤120)) (Q:Exit→Act→World→Prop)
  (_:Hid (∀ a w',bodyPost Tryz.prog Tryz.f30 (fun e w'=>RefRes w R e w') .ret a w' → Q .ret a w')) (gk:Nat) (a0:Act) (wr:World) (J:Nat→Act→World→Prop) (K:Act→World→Prop)
  (HJ:Hid (∀ k a' w',LInv l R w k a' w' → J k a' w')) (HKK:Hid (∀ a' w',Handed J gk a' w' → K a' w')) (sv gv av iv:Value)
  (F0:Fr 280 [(0,.string ⟨l.toArray⟩),(2,.pointer (some ⟨w.heap.size,0,none⟩)),(4,sv),(5,gv),(6,av),(7,iv)] a0) (hrel:PInv l R w gk sv gv av iv wr)
  (i:Nat) (hiv:iv=.int .i64 (i:Nat)) (c:UInt8) (hlt:i<l.length) (hc:l[i]'hlt=c) (hrep:¬ isRep c) (k124:c=124) :
  Code.wp Tryz.prog bodyP (Exit.then K Q) a0 wr:=by
 have H9hrep:=Lib.hid hrep
 have H9k124:=Lib.hid k124
 clear hrep k124
 unfold bodyP
 unfold Tryz.f30
 dsimp only [loopIn,Option.getD,Option.bind]
 obtain ⟨num,alts,items,rest,gr,i9,ag,st,va,vi,gs,cap,N,rfl,hN,rfl,rfl,rfl,rfl,hps,hmo,hrun,hil,hgr,hN8,hbd,hext,hb2⟩:=hrel
 obtain rfl:i=i9:=by
  simp only [Value.int.injEq,true_and] at hiv
  omega
 clear hiv
 obtain ⟨hcap,hcm,hBg,hglt,hfr,y0,y1,y2⟩:=hps.head hN
 dsimp only at y0 y1 y2
 have HPS:=Lib.hid hps
 have HMO:=Lib.hid hmo
 have HRUN:=Lib.hid hrun
 have HBD:=Lib.hid hbd
 have HEX:=Lib.hid hext
 have HB2:=Lib.hid hb2
 clear hps hmo hrun hbd hext hb2
 have hlt':(i:Int)<(l.length:Int):=by omega
 have HLI:=Lib.hid (show l[i]?=some c by rw [List.getElem?_eq_getElem hlt,hc])
 go_upto_region 6 with fail
 refine fr_region ?_
 refine fr_mv F0 7 24 (.inl rfl) rfl rfl (by decide) rfl fun _ F1=>?_
 clear F0
 refine fr_mv F1 0 25 (.inl rfl) rfl rfl (by decide) rfl fun _ F2=>?_
 clear F1
 refine fr2 F2 26 (.int .i64 (l.length:Nat)) wr rfl (by decide) ?_ fun _ F3=>?_
 ·have e25:=F2.kn 25 _ rfl;go_wp2;exact ⟨_,rfl,rfl,rfl⟩
 clear F2
 refine fr2 F3 27 (.bool true) wr rfl (by decide) ?_ fun _ F4=>?_
 ·have e24:=F3.kn 24 _ rfl;have e26:=F3.kn 26 _ rfl;go_wp2;exact ⟨_,rfl,rfl,rfl⟩
 clear F3
 refine fr_end ?_
 go_upto_if 27 with fail
 refine wp_cond_true (F4.ev (t:=27) rfl) ?_
 go_upto_region 7 with fail
 refine fr_region ?_
 refine fr_mv F4 4 28 (.inl rfl) rfl rfl (by decide) rfl fun _ F5=>?_
 clear F4
 refine fr2 F5 29 (.int .i64 ((N:Int)+1)) wr rfl (by decide) ?_ fun _ F6=>?_
 ·have e28:=F5.kn 28 _ rfl;go_wp2;exact ⟨_,rfl,rfl,rfl⟩
 clear F5
 refine fr2 F6 30 (.int .i64 (N:Nat)) wr rfl (by decide) ?_ fun _ F7=>?_
 ·have e29:=F6.kn 29 _ rfl;go_wp2;exact ⟨_,rfl,rfl,rfl⟩
 clear F6
 refine fr_mv F7 30 8 (.inr rfl) rfl rfl (by decide) rfl fun _ F8=>?_
 clear F7
 refine fr_end ?_
 go_upto_region 8 with fail
 refine fr_region ?_
 refine fr_mv F8 0 31 (.inl rfl) rfl rfl (by decide) rfl fun _ F9=>?_
 clear F8
 refine fr_mv F9 7 32 (.inl rfl) rfl rfl (by decide) rfl fun _ F10=>?_
 clear F9
 refine fr2 F10 33 (.int .u8 (c.toNat:Nat)) wr rfl (by decide) ?_ fun _ F11=>?_
 ·have e31:=F10.kn 31 _ rfl;have e32:=F10.kn 32 _ rfl;go_wp2;exact ⟨_,rfl,rfl,rfl⟩
 clear F10
 refine fr_mv F11 33 9 (.inr rfl) rfl rfl (by decide) rfl fun _ F12=>?_
 clear F11
 refine fr_end ?_
 have hrep:=H9hrep.out
 have k124:=H9k124.out
 clear H9hrep H9k124
 have z42:((c.toNat:Int) == 42)=false:=u8_ne (fun h=>hrep (.inl h))
 have z43:((c.toNat:Int) == 43)=false:=u8_ne (fun h=>hrep (.inr (.inl h)))
 have z63:((c.toNat:Int) == 63)=false:=u8_ne (fun h=>hrep (.inr (.inr h)))
 have z124:((c.toNat:Int) == 124)=true:=by rw [k124];rfl
 have HLK:=Lib.hid (show l[i]?=some 124 from by rw [HLI.out,k124])
 clear hrep k124
 obtain ⟨⟨csa,ha,hka⟩,⟨csi,hi,hki⟩⟩:=HPS.out.each _ (List.mem_append.2 (.inr (List.mem_singleton.2 rfl)))
 dsimp only at ha hka hi hki
 have hbd9:=HBD.out _ (List.mem_append.2 (.inr (List.mem_singleton.2 rfl)))
 dsimp only at hbd9
 obtain ⟨na,hna⟩:∃ na,alts.length=na:=⟨_,rfl⟩
 obtain ⟨ni,hni⟩:∃ ni,items.length=ni:=⟨_,rfl⟩
 rw [hna] at ha hbd9
 rw [hni] at hi hbd9
 obtain ⟨Aa,ca,rfl,hca,hma,hRa⟩:=own_rd ha
 obtain ⟨Ai,ci,rfl,hci,hmi,hRi⟩:=own_rd hi
 have HA:=Lib.hid ha
 have HKA:=Lib.hid hka
 have HI:=Lib.hid hi
 have HKI:=Lib.hid hki
 have HRA:=Lib.hid hRa
 have HRI:=Lib.hid hRi
 have HNA:=Lib.hid hna
 have HNI:=Lib.hid hni
 have hn120:na≤120∧ni≤120:=by have:=HL.out;omega
 have HCC:=Lib.hid (And.intro (And.intro hca hma) (And.intro hci hmi))
 clear ha hka hi hki hRa hRi hna hni hbd9 hca hma hci hmi
 go_upto_region 9 with fail
 refine fr_region ?_
 refine fr_mv F12 9 34 (.inl rfl) rfl rfl (by decide) rfl fun _ F13=>?_
 clear F12
 refine fr2 F13 35 (.bool false) wr rfl (by decide) ?_ fun _ F14=>?_
 ·have e34:=F13.kn 34 _ rfl;go_wp2;exact ⟨_,rfl,rfl,rfl⟩
 clear F13
 refine fr_mv F14 35 36 (.inl rfl) rfl rfl (by decide) rfl fun _ F15=>?_
 clear F14
 refine fr2 F15 37 (.int .u8 (c.toNat:Nat)) wr rfl (by decide) ?_ fun _ F16=>?_
 ·have e9:=F15.kn 9 _ rfl;have e36:=F15.kn 36 _ rfl;go_wp2;exact ⟨_,rfl,rfl,rfl⟩
 clear F15
 refine fr2 F16 38 (.bool false) wr rfl (by decide) ?_ fun _ F17=>?_
 ·have e37:=F16.kn 37 _ rfl;have e36:=F16.kn 36 _ rfl;go_wp2;exact ⟨_,rfl,rfl,rfl⟩
 clear F16
 refine fr2 F17 39 (.bool false) wr rfl (by decide) ?_ fun _ F18=>?_
 ·have e36:=F17.kn 36 _ rfl;have e38:=F17.kn 38 _ rfl;go_wp2;exact ⟨_,rfl,rfl,rfl⟩
 clear F17
 refine fr_mv F18 39 40 (.inl rfl) rfl rfl (by decide) rfl fun _ F19=>?_
 clear F18
 refine fr2 F19 41 (.int .u8 (c.toNat:Nat)) wr rfl (by decide) ?_ fun _ F20=>?_
 ·have e9:=F19.kn 9 _ rfl;have e40:=F19.kn 40 _ rfl;go_wp2;exact ⟨_,rfl,rfl,rfl⟩
 clear F19
 refine fr2 F20 42 (.bool false) wr rfl (by decide) ?_ fun _ F21=>?_
 ·have e41:=F20.kn 41 _ rfl;have e40:=F20.kn 40 _ rfl;go_wp2;exact ⟨_,rfl,rfl,rfl⟩
 clear F20
 refine fr2 F21 43 (.bool false) wr rfl (by decide) ?_ fun _ F22=>?_
 ·have e40:=F21.kn 40 _ rfl;have e42:=F21.kn 42 _ rfl;go_wp2;exact ⟨_,rfl,rfl,rfl⟩
 clear F21
 refine fr_end ?_
 go_upto_if 43 with fail
 refine wp_cond_false (F22.ev (t:=43) rfl) ?_
 go_upto_region 27 with fail
 refine fr_region ?_
 refine fr_as F22 6 (.inr rfl) rfl rfl (by decide) fun _ F23=>?_
 clear F22
 refine fr_end ?_
 go_upto_region 28 with fail
 refine fr_region ?_
 refine fr_mv F23 9 105 (.inl rfl) rfl rfl (by decide) rfl fun _ F24=>?_
 clear F23
 refine fr_end ?_
 go_upto_region 29 with fail
 refine fr_region ?_
 refine fr2 F24 107 (.bool true) wr rfl (by decide) ?_ fun _ F25=>?_
 ·have e105:=F24.kn 105 _ rfl;go_wp2;exact ⟨_,rfl,rfl,rfl⟩
 clear F24
 refine fr_mv F25 107 106 (.inr rfl) rfl rfl (by decide) rfl fun _ F26=>?_
 clear F25
 refine fr_end ?_
 go_upto_if 106 with fail
 refine wp_cond_true (F26.ev (t:=106) rfl) ?_
 go_upto_region 30 with fail
 have HX2:=Lib.hid (Ext.refl wr)
 have HPSW:=HPS
 have HCC2:=HCC.out
 have HROW:=Lib.hid (show wr.ownsRow (w.heap.size+1) 98 3 (.slice (some ⟨gs,0,none⟩) (N+1) cap) (N+1) (cellsO st ++ OpS.cells ⟨⟨num,alts,items⟩,.slice Aa na ca,.slice Ai ni ci⟩) from by have h9:=HPSW.out.row;rwa [List.length_append,List.length_singleton,hN,cellsO_snoc] at h9)
 have HSW:=Lib.hid (show w.heap.size+1≤wr.heap.size by omega)
 have HAP:=Lib.hid (show OneAp0 wr ((Value.ownBlock (.slice Aa na ca)).toList ++ (Value.ownBlock (.slice (some ⟨gs,0,none⟩) (N+1) cap)).toList) (.slice Aa na ca) (.slice (some ⟨gs,0,none⟩) (N+1) cap) from ⟨fun k hk=>List.mem_append.2 (.inl (by simp [hk])),fun k hk=>List.mem_append.2 (.inr (by simp [hk])),fun k hk=>HPSW.out.apart k (by unfold OpS.live;rw [List.mem_append];exact .inl (by simp [hk])),fun k hk=>HPSW.out.liveLt k (by unfold liveO;rw [List.mem_append];exact .inl (by simp [hk]))⟩)
 have HCSL:=Lib.hid (show csa.length=na*260 from HA.out.1)
 have HND:=Lib.hid (show DNodeV (fun b=>w.heap.size+1≤b∧b ∉ liveO (.slice (some ⟨gs,0,none⟩) (N+1) cap) st∧(Value.ownBlock (.slice Aa na ca)) ≠ some b) wr (mkCat items) (altC ni Ai ci csi) from by
  have hk:=dkidsV_map (S':=fun b=>w.heap.size+1≤b∧b ∉ liveO (.slice (some ⟨gs,0,none⟩) (N+1) cap) st∧(Value.ownBlock (.slice Aa na ca)) ≠ some b) (fun t v h=>DNodeV.mono h (fun b _ hs=>⟨hs.1,fun hm=>hs.2 (by rw [liveO_snoc,List.mem_append];exact .inl hm),fun hm=>hs.2 (by rw [liveO_snoc,List.mem_append];exact .inr (by unfold OpS.live;rw [List.mem_append];exact .inl (by simp [hm])))⟩)) HKI.out
  have h9:=altC_dn (A:=Ai) (c:=ci) (by rw [HNI.out];exact HCC2.2.1) HCC2.2.2 (by rw [HNI.out];exact HRI.out) hk (fun b o x e hp=>by
   subst e
   have hb:=HI.out.lt b rfl
   refine ⟨hb.1,fun hm=>?_,fun hm=>?_⟩
   ·have hnd:=HPS.out.nodup
    rw [liveO_snoc,List.nodup_append] at hnd
    exact hnd.2.2 b hm b (by unfold OpS.live;rw [List.mem_append];exact .inr (by simp [Value.ownBlock])) rfl
   ·have hnd:=HPS.out.nodup
    rw [liveO_snoc,List.nodup_append] at hnd
    have h8:=hnd.2.1
    unfold OpS.live at h8
    rw [List.nodup_append] at h8
    exact h8.2.2 b (by simp [hm]) b (by simp [Value.ownBlock]) rfl)
  rw [HNI.out] at h9
  exact h9)
 have HLL:=Lib.hid (dnodeV_len HND.out)
 have HLO:=Lib.hid (dnode_one HND.out)
 have HRIX:=Lib.hid (show ∀ w9,Chg ((Value.ownBlock (.slice Aa na ca)).toList ++ (Value.ownBlock (.slice (some ⟨gs,0,none⟩) (N+1) cap)).toList) wr w9→Rd w9 260 Ai ni csi∧DKidsV (fun b=>b ∉ (Value.ownBlock (.slice Aa na ca)).toList ++ (Value.ownBlock (.slice (some ⟨gs,0,none⟩) (N+1) cap)).toList) w9 items csi from fun w9 h9=>by
  have hni:=own_chg HI.out h9 (fun k hk hm=>by
   rcases List.mem_append.1 hm with h1 | h1
   ·have hnd:=HPS.out.nodup
    rw [liveO_snoc,List.nodup_append] at hnd
    have h8:=hnd.2.1
    unfold OpS.live at h8
    rw [List.nodup_append] at h8
    exact h8.2.2 k h1 k (by simp [hk]) rfl
   ·exact HPS.out.apart k (by unfold OpS.live;rw [List.mem_append];exact .inr (by simp [hk])) (by simpa using h1))
  obtain ⟨A7,c7,e7,_,_,hr7⟩:=own_rd hni
  simp only [Value.slice.injEq] at e7
  obtain ⟨rfl,-,-⟩:=e7
  refine ⟨hr7,HKI.out.chgX h9 (fun b hlt hs=>?_)⟩
  have hbx:b ∉ (Value.ownBlock (.slice Aa na ca)).toList ++ (Value.ownBlock (.slice (some ⟨gs,0,none⟩) (N+1) cap)).toList:=fun hm=>by
   rcases List.mem_append.1 hm with h1 | h1
   ·exact hs.2 (by rw [liveO_snoc,List.mem_append];exact .inr (by unfold OpS.live;rw [List.mem_append];exact .inl h1))
   ·exact hs.2 (by rw [liveO_snoc,List.mem_append];exact .inl (by unfold liveO;rw [List.mem_append];exact .inl h1))
  exact ⟨hbx,hbx⟩)
 clear hfr y0 y1 y2 HCC2
 refine wp_region_dagE (w:=wr) (fun f w9=>GrowS (w.heap.size+1) wr ((Value.ownBlock (.slice Aa na ca)).toList ++ (Value.ownBlock (.slice (some ⟨gs,0,none⟩) (N+1) cap)).toList) (.slice Aa na ca) na csa (dnC 0 0 false (fun _=>false) none 0 0) (altC ni Ai ci csi) (.slice (some ⟨gs,0,none⟩) (N+1) cap) (N+1) (cellsO st ++ OpS.cells ⟨⟨num,alts,items⟩,.slice Aa na ca,.slice Ai ni ci⟩) (fun v9=>cellsO st ++ [.int .i64 (num:Nat),v9,.slice Ai ni ci]) (f 12) (f 13) (f 14) (f 15) (f 18) w9) (fun iq v=>match iq with | 0=>v=.slice (some ⟨gs,0,none⟩) (N+1) cap | 1=>v=.int .i64 (N:Nat) | 2=>v=.pointer (some ⟨gs,N*3,none⟩) | 3=>v=.pointer (some ⟨gs,N*3+1,none⟩) | 4=>v=.slice Aa na ca | 5=>v=.slice (some ⟨gs,0,none⟩) (N+1) cap | 6=>v=.int .i64 (N:Nat) | 7=>v=.pointer (some ⟨gs,N*3,none⟩) | 8=>v=.pointer (some ⟨gs,N*3+2,none⟩) | 9=>v=.slice Ai ni ci | 10=>v=.agg (altC ni Ai ci csi).toArray | 11=>v=.int .i64 (na:Nat) | 12=>True | 13=>True | 14=>True | 15=>True | 16=>v=.pointer (some ⟨gs,N*3,none⟩) | 17=>v=.pointer (some ⟨gs,N*3+1,none⟩) | 18=>True | _=>True) (show Tryz.prog.follows .mixedOrders=true from Checked.mixed Tryz.checked) 280 F26.size (by decide +kernel) (⟨OneApp.start ((Below.refl _ _).drew) HROW.out HA.out,fun v p h=>(by cases h)⟩) ⟨?_,?_,?_,?_,?_,?_,?_,?_,?_,?_,?_,?_,?_,?_,?_,?_,?_,?_,?_,trivial⟩ ?_
 ·intro f ac wx hS hfi hon hoff hsz hdf h
  have e4:ac.tmps[4]?=some (.slice (some ⟨gs,0,none⟩) (N+1) cap):=by obtain ⟨v,h1,h2⟩:=h 4 (by decide +kernel);exact h1.trans (h2.symm.trans (F26.kn 4 _ rfl))
  clear h hsz hdf hon hoff
  go_wp2
  exact ⟨_,rfl,rfl,hS⟩
 ·intro f ac wx hS hfi hon hoff hsz hdf h
  have e8:ac.tmps[8]?=some (.int .i64 (N:Nat)):=by obtain ⟨v,h1,h2⟩:=h 8 (by decide +kernel);exact h1.trans (h2.symm.trans (F26.kn 8 _ rfl))
  clear h hsz hdf hon hoff
  go_wp2
  exact ⟨_,rfl,rfl,hS⟩
 ·intro f ac wx hS hfi hon hoff hsz hdf h
  have e108:ac.tmps[108]?=some (.slice (some ⟨gs,0,none⟩) (N+1) cap):=by obtain ⟨v,h1,h2,h3⟩:=h 108 (by decide +kernel);rw [h1];exact congrArg some h3
  have e109:ac.tmps[109]?=some (.int .i64 (N:Nat)):=by obtain ⟨v,h1,h2,h3⟩:=h 109 (by decide +kernel);rw [h1];exact congrArg some h3
  clear h hsz hdf hon hoff
  go_wp2
  exact ⟨_,rfl,rfl,hS⟩
 ·intro f ac wx hS hfi hon hoff hsz hdf h
  have e110:ac.tmps[110]?=some (.pointer (some ⟨gs,N*3,none⟩)):=by obtain ⟨v,h1,h2,h3⟩:=h 110 (by decide +kernel);rw [h1];exact congrArg some h3
  clear h hsz hdf hon hoff
  go_wp2
  exact ⟨_,rfl,rfl,hS⟩
 ·intro f ac wx hS hfi hon hoff hsz hdf h
  have e111:ac.tmps[111]?=some (.pointer (some ⟨gs,N*3+1,none⟩)):=by obtain ⟨v,h1,h2,h3⟩:=h 111 (by decide +kernel);rw [h1];exact congrArg some h3
  have n18:f 18=none:=hoff 18 _ rfl (by decide +kernel)
  clear h hsz hdf hon hoff
  have hr9:=row_head (hS.one.row0 n18) hN
  obtain ⟨fz9,y91,y92⟩:=hr9
  go_wp2
  exact ⟨_,rfl,rfl,hS⟩
 ·intro f ac wx hS hfi hon hoff hsz hdf h
  have e4:ac.tmps[4]?=some (.slice (some ⟨gs,0,none⟩) (N+1) cap):=by obtain ⟨v,h1,h2⟩:=h 4 (by decide +kernel);exact h1.trans (h2.symm.trans (F26.kn 4 _ rfl))
  clear h hsz hdf hon hoff
  go_wp2
  exact ⟨_,rfl,rfl,hS⟩
 ·intro f ac wx hS hfi hon hoff hsz hdf h
  have e8:ac.tmps[8]?=some (.int .i64 (N:Nat)):=by obtain ⟨v,h1,h2⟩:=h 8 (by decide +kernel);exact h1.trans (h2.symm.trans (F26.kn 8 _ rfl))
  clear h hsz hdf hon hoff
  go_wp2
  exact ⟨_,rfl,rfl,hS⟩
 ·intro f ac wx hS hfi hon hoff hsz hdf h
  have e113:ac.tmps[113]?=some (.slice (some ⟨gs,0,none⟩) (N+1) cap):=by obtain ⟨v,h1,h2,h3⟩:=h 113 (by decide +kernel);rw [h1];exact congrArg some h3
  have e114:ac.tmps[114]?=some (.int .i64 (N:Nat)):=by obtain ⟨v,h1,h2,h3⟩:=h 114 (by decide +kernel);rw [h1];exact congrArg some h3
  clear h hsz hdf hon hoff
  go_wp2
  exact ⟨_,rfl,rfl,hS⟩
 ·intro f ac wx hS hfi hon hoff hsz hdf h
  have e115:ac.tmps[115]?=some (.pointer (some ⟨gs,N*3,none⟩)):=by obtain ⟨v,h1,h2,h3⟩:=h 115 (by decide +kernel);rw [h1];exact congrArg some h3
  clear h hsz hdf hon hoff
  go_wp2
  exact ⟨_,rfl,rfl,hS⟩
 ·intro f ac wx hS hfi hon hoff hsz hdf h
  have e116:ac.tmps[116]?=some (.pointer (some ⟨gs,N*3+2,none⟩)):=by obtain ⟨v,h1,h2,h3⟩:=h 116 (by decide +kernel);rw [h1];exact congrArg some h3
  have n18:f 18=none:=hoff 18 _ rfl (by decide +kernel)
  clear h hsz hdf hon hoff
  obtain ⟨fz9,y91,y92⟩:=row_head (hS.one.row0 n18) hN
  go_wp2
  exact ⟨_,rfl,rfl,hS⟩
 ·intro f ac wx hS hfi hon hoff hsz hdf h
  have e117:ac.tmps[117]?=some (.slice Ai ni ci):=by obtain ⟨v,h1,h2,h3⟩:=h 117 (by decide +kernel);rw [h1];exact congrArg some h3
  clear h hsz hdf hon hoff
  obtain ⟨hr9,hk9⟩:=HRIX.out _ hS.one.chg
  go_wp2_with (go_at_call 53;refine (show Calls Tryz.prog 53 #[.slice Ai ni ci] wx _ from by have h8:=refAlternative _ items Ai ci csi wx (by rw [HNI.out];exact hr9) hk9;rw [HNI.out] at h8;exact h8).mono ?_;rintro e w7 ⟨rfl,hx7⟩)
  first | (exact ⟨_,rfl,rfl,hS.one.keep hx7,hS.at_⟩) | (exact ⟨_,rfl,rfl,hS.one.keep hx7,hS.at_⟩) | (exact ⟨_,rfl,hS.one.keep hx7,hS.at_⟩)
 ·intro f ac wx hS hfi hon hoff hsz hdf h
  have e112:ac.tmps[112]?=some (.slice Aa na ca):=by obtain ⟨v,h1,h2,h3⟩:=h 112 (by decide +kernel);rw [h1];exact congrArg some h3
  clear h hsz hdf hon hoff
  go_wp2
  exact ⟨_,rfl,rfl,hS⟩
 ·intro f ac wx hS hfi hon hoff hsz hdf h
  clear h hsz hdf hon hoff
  have h2:=hS.one
  rw [hfi] at h2
  refine mk_dn rfl (_) rfl (v:=(dnC 0 0 false (fun _=>false) none 0 0)) (dn_len _ _ _ _ _ _ _) (by refine congrArg Value.agg ?_;unfold dnC bcs;kernel_rfl) ?_
  go_wp2
  first | (exact ⟨_,rfl,trivial,h2.doM,fun v p h1 h2=>hS.at_ v p h1 h2⟩) | (exact ⟨_,rfl,h2.doM,fun v p h1 h2=>hS.at_ v p h1 h2⟩) | (exact ⟨_,h2.doM,fun v p h1 h2=>hS.at_ v p h1 h2⟩)
 ·intro f ac wx hS hfi hon hoff hsz hdf h
  have e112:ac.tmps[112]?=some (.slice Aa na ca):=by obtain ⟨v,h1,h2,h3⟩:=h 112 (by decide +kernel);rw [h1];exact congrArg some h3
  obtain ⟨v120,e120,f120⟩:∃ v,ac.tmps[120]?=some v∧f 12=some v:=by obtain ⟨v,h1,h2,h3⟩:=h 120 (by decide +kernel);exact ⟨v,h1,h2⟩
  have n18:f 18=none:=hoff 18 _ rfl (by decide +kernel)
  have nsn:f 15=none:=hoff 15 _ rfl (by decide +kernel)
  have nat:f 14=none:=hoff 14 _ rfl (by decide +kernel)
  clear h hsz hdf hon hoff
  have h2:=hS.one
  rw [hfi,f120,n18,nsn] at h2
  obtain ⟨gm,rfl,hgm,hbm⟩:=h2.hm _ rfl rfl
  refine wpList_app2 elemDn rfl (.tmp 112) (.tmp 120) rfl (base:=w.heap.size+1) (v:=.slice Aa na ca) (n:=na) (xs:=csa) ?_ (h2.it0 rfl) (by have:=h2.chg.size;have:=HSW.out;omega) (A:=some ⟨gm,0,none⟩) (m:=1) (c:=1) (news:=(dnC 0 0 false (fun _=>false) none 0 0)) ?_ (blk_rd1 hbm (dn_len _ _ _ _ _ _ _)) (dn_ones _ _ _ _ _ _ _) (by omega) (by unfold maxLen;omega) ?_
  ·simp [Act.eval,e112]
  ·simp [Act.eval,e120]
  ·intro v' w' hown hg _ hat
   go_wp2
   have h3:=h2.doA HAP.out hown hg hat
   rw [← f120] at h3
   first | (refine ⟨_,rfl,trivial,?_,fun v p h1 h2=>?_⟩) | (refine ⟨_,rfl,?_,fun v p h1 h2=>?_⟩) | (refine ⟨_,?_,fun v p h1 h2=>?_⟩)
   ·show OneApp _ _ _ _ _ _ _ _ _ _ _ _ _ _ (f 12) (some v') (f 15) (f 18) w'
    rw [n18,nsn];exact h3
   ·cases (nat.symm.trans h2)
 ·intro f ac wx hS hfi hon hoff hsz hdf h
  obtain ⟨v121,e121,f121⟩:∃ v,ac.tmps[121]?=some v∧f 13=some v:=by obtain ⟨v,h1,h2,h3⟩:=h 121 (by decide +kernel);exact ⟨v,h1,h2⟩
  have e119:ac.tmps[119]?=some (.int .i64 (na:Nat)):=by obtain ⟨v,h1,h2,h3⟩:=h 119 (by decide +kernel);rw [h1];exact congrArg some h3
  clear h hsz hdf hon hoff
  have hown:=(hS.one.it1 _ f121).1
  obtain ⟨g8,c8,rfl,h81,h82,h83,h84,h85,h86⟩:=own_blkS hown (by omega)
  clear h85 h86
  go_wp2
  first | (refine ⟨_,rfl,trivial,hS.one,fun v p h1 h2=>⟨g8,c8,?_,?_⟩⟩) | (refine ⟨_,rfl,hS.one,fun v p h1 h2=>⟨g8,c8,?_,?_⟩⟩) | (refine ⟨_,hS.one,fun v p h1 h2=>⟨g8,c8,?_,?_⟩⟩)
  ·exact Option.some.inj (h1.symm.trans f121)
  ·exact (Option.some.inj h2).symm
 ·intro f ac wx hS hfi hon hoff hsz hdf h
  obtain ⟨v122,e122,f122⟩:∃ v,ac.tmps[122]?=some v∧f 14=some v:=by obtain ⟨v,h1,h2,h3⟩:=h 122 (by decide +kernel);exact ⟨v,h1,h2⟩
  have e118:ac.tmps[118]?=some (.agg (altC ni Ai ci csi).toArray):=by obtain ⟨v,h1,h2,h3⟩:=h 118 (by decide +kernel);rw [h1];exact congrArg some h3
  obtain ⟨u13,f9⟩:∃ v,f 13=some v:=hon 13 (by decide +kernel)
  clear h hsz hdf hon hoff
  obtain ⟨g8,c8,e8,rfl⟩:=hS.at_ _ _ f9 f122
  subst e8
  have h2:=hS.one
  rw [hfi,f9] at h2
  have hcs:(csa).length=na*260:=HCSL.out
  refine store_last rfl (.tmp 122) (.tmp 118) rfl (l0:=(dnC 0 0 false (fun _=>false) none 0 0)) (l:=(altC ni Ai ci csi)) (h2.it1 _ rfl).1 hcs HLL.out HLO.out (by simp [Act.eval,e122]) (by simp [Act.eval,e118]) ?_
  intro w' hown hc
  go_wp2
  have h3:=h2.doS (u:=undef) HAP.out hown hc
  rw [← f9] at h3
  first | (exact ⟨undef,rfl,trivial,h3,fun v p h1 h2=>hS.at_ v p h1 h2⟩) | (exact ⟨undef,rfl,h3,fun v p h1 h2=>hS.at_ v p h1 h2⟩) | (exact ⟨undef,h3,fun v p h1 h2=>hS.at_ v p h1 h2⟩)
 ·intro f ac wx hS hfi hon hoff hsz hdf h
  have e108:ac.tmps[108]?=some (.slice (some ⟨gs,0,none⟩) (N+1) cap):=by obtain ⟨v,h1,h2,h3⟩:=h 108 (by decide +kernel);rw [h1];exact congrArg some h3
  have e109:ac.tmps[109]?=some (.int .i64 (N:Nat)):=by obtain ⟨v,h1,h2,h3⟩:=h 109 (by decide +kernel);rw [h1];exact congrArg some h3
  clear h hsz hdf hon hoff
  go_wp2
  exact ⟨_,rfl,rfl,hS⟩
 ·intro f ac wx hS hfi hon hoff hsz hdf h
  have e123:ac.tmps[123]?=some (.pointer (some ⟨gs,N*3,none⟩)):=by obtain ⟨v,h1,h2,h3⟩:=h 123 (by decide +kernel);rw [h1];exact congrArg some h3
  clear h hsz hdf hon hoff
  go_wp2
  exact ⟨_,rfl,rfl,hS⟩
 ·intro f ac wx hS hfi hon hoff hsz hdf h
  have e124:ac.tmps[124]?=some (.pointer (some ⟨gs,N*3+1,none⟩)):=by obtain ⟨v,h1,h2,h3⟩:=h 124 (by decide +kernel);rw [h1];exact congrArg some h3
  obtain ⟨v121,e121,f121⟩:∃ v,ac.tmps[121]?=some v∧f 13=some v:=by obtain ⟨v,h1,h2,h3⟩:=h 121 (by decide +kernel);exact ⟨v,h1,h2⟩
  clear h hsz hdf hon hoff
  have h2:=hS.one
  rw [hfi,f121] at h2
  obtain ⟨A8,c8,rfl,h81,h82,h83⟩:=own_rd (h2.it1 _ rfl).1
  obtain ⟨fz9,y91,y92⟩:=row_head (h2.row0 rfl) hN
  have fz:=fz9 (N*3+1)
  go_wp2
  have h3:=h2.doR (u:=undef) (i:=N*3+1) HAP.out rfl (by rw [show N*3+1=st.length*3+1 by rw [hN]];exact (cellsO_set1 st ⟨⟨num,alts,items⟩,.slice Aa na ca,.slice Ai ni ci⟩ _).symm)
  rw [← f121] at h3
  first | (exact ⟨undef,rfl,trivial,h3,fun v p h1 h2=>hS.at_ v p h1 h2⟩) | (exact ⟨undef,rfl,h3,fun v p h1 h2=>hS.at_ v p h1 h2⟩) | (exact ⟨undef,h3,fun v p h1 h2=>hS.at_ v p h1 h2⟩)
 intro f a27 w9 hS h hsz hdf hrest
 obtain ⟨v0,q0,s0,g0⟩:=h 0 _ rfl
 obtain ⟨v1,q1,s1,g1⟩:=h 1 _ rfl
 obtain ⟨v2,q2,s2,g2⟩:=h 2 _ rfl
 obtain ⟨v3,q3,s3,g3⟩:=h 3 _ rfl
 obtain ⟨v4,q4,s4,g4⟩:=h 4 _ rfl
 obtain ⟨v5,q5,s5,g5⟩:=h 5 _ rfl
 obtain ⟨v6,q6,s6,g6⟩:=h 6 _ rfl
 obtain ⟨v7,q7,s7,g7⟩:=h 7 _ rfl
 obtain ⟨v8,q8,s8,g8⟩:=h 8 _ rfl
 obtain ⟨v9,q9,s9,g9⟩:=h 9 _ rfl
 obtain ⟨v10,q10,s10,g10⟩:=h 10 _ rfl
 obtain ⟨v11,q11,s11,g11⟩:=h 11 _ rfl
 obtain ⟨v12,q12,s12,g12⟩:=h 12 _ rfl
 obtain ⟨v13,q13,s13,g13⟩:=h 13 _ rfl
 obtain ⟨v14,q14,s14,g14⟩:=h 14 _ rfl
 obtain ⟨v15,q15,s15,g15⟩:=h 15 _ rfl
 obtain ⟨v16,q16,s16,g16⟩:=h 16 _ rfl
 obtain ⟨v17,q17,s17,g17⟩:=h 17 _ rfl
 obtain ⟨v18,q18,s18,g18⟩:=h 18 _ rfl
 have F27:=((((((((Fr.start (hsz.trans F26.size) (hdf.trans F26.defers)).cons (t:=0) (v:=.string ⟨l.toArray⟩) ((hrest 0 (by decide +kernel)).trans (F26.kn 0 _ rfl))).cons (t:=2) (v:=.pointer (some ⟨w.heap.size,0,none⟩)) ((hrest 2 (by decide +kernel)).trans (F26.kn 2 _ rfl))).cons (t:=4) (v:=.slice (some ⟨gs,0,none⟩) (N+1) cap) ((hrest 4 (by decide +kernel)).trans (F26.kn 4 _ rfl))).cons (t:=5) (v:=.int .i64 (gr:Nat)) ((hrest 5 (by decide +kernel)).trans (F26.kn 5 _ rfl))).cons (t:=6) (v:=.bool false) ((hrest 6 (by decide +kernel)).trans (F26.kn 6 _ rfl))).cons (t:=7) (v:=.int .i64 (i:Nat)) ((hrest 7 (by decide +kernel)).trans (F26.kn 7 _ rfl))).cons (t:=8) (v:=.int .i64 (N:Nat)) ((hrest 8 (by decide +kernel)).trans (F26.kn 8 _ rfl)))
 have hone:=hS.one
 rw [q13,q15,q18] at hone
 obtain ⟨hown9,hat9⟩:=hone.it1 _ rfl
 have hrow9:=hone.row1 _ _ rfl rfl
 have hc9:=hone.chg
 clear h hrest hsz hdf hS q0 s0 g0 q1 s1 g1 q2 s2 g2 q3 s3 g3 q4 s4 g4 q5 s5 g5 q6 s6 g6 q7 s7 g7 q8 s8 g8 q9 s9 g9 q10 s10 g10 q11 s11 g11 q12 s12 g12 q13 s13 g13 q14 s14 g14 q15 s15 g15 q16 s16 g16 q17 s17 g17 q18 s18 g18 F26
 obtain ⟨A8,c8,rfl,h81,h82,h83⟩:=own_rd hown9
 obtain ⟨fz9,y91,y92⟩:=row_head (o:=⟨num,alts,items⟩) hrow9 hN
 have fz:=fz9 (N*3+2)
 clear hone fz9
 go_upto_region 31 with fail
 refine fr_region ?_
 refine fr_mv F27 4 125 (.inl rfl) rfl rfl (by decide) rfl fun _ F28=>?_
 clear F27
 refine fr_mv F28 8 126 (.inl rfl) rfl rfl (by decide) rfl fun _ F29=>?_
 clear F28
 refine fr2 F29 127 (.pointer (some ⟨gs,N*3,none⟩)) w9 rfl (by decide) ?_ fun _ F30=>?_
 ·have e125:=F29.kn 125 _ rfl;have e126:=F29.kn 126 _ rfl;go_wp2;exact ⟨_,rfl,rfl,rfl⟩
 clear F29
 refine fr2 F30 128 (.pointer (some ⟨gs,N*3+2,none⟩)) w9 rfl (by decide) ?_ fun _ F31=>?_
 ·have e127:=F30.kn 127 _ rfl;go_wp2;exact ⟨_,rfl,rfl,rfl⟩
 clear F30
 refine fr_op0 F31 rfl (At1 ((w9.setCell ⟨gs,N*3+2,none⟩ (.slice none 0 0)))) ?_ ?_
 ·have e128:=F31.kn 128 _ rfl
  go_wp2
  first | exact ⟨undef,rfl,rfl⟩ | exact rfl
 rintro a32 _ rfl F32
 clear F31
 refine fr_end ?_
 obtain ⟨i1,hi1⟩:∃ i1,i+1=i1:=⟨_,rfl⟩
 have HI1:=Lib.hid hi1
 have hi3:i1≤120:=by have:=HL.out;omega
 clear hi1
 go_upto_region 32 with fail
 refine fr_region ?_
 refine fr_mv F32 7 129 (.inl rfl) rfl rfl (by decide) rfl fun _ F33=>?_
 clear F32
 refine fr_op F33 130 rfl (by decide) (At2 (.int .i64 (i1:Nat)) ((w9.setCell ⟨gs,N*3+2,none⟩ (.slice none 0 0)))) ?_ ?_
 ·have e129:=F33.kn 129 _ rfl
  have h9:=HI1.out
  have hw:IntKind.i64.wrap ((i:Int)+1)=(i:Int)+1:=wrap_id (by omega) (by omega)
  go_wp2
  first | exact ⟨_,rfl,rfl,rfl⟩ | exact ⟨_,rfl,congrArg (Value.int .i64) (by omega),rfl⟩
 rintro a34 _ _ ⟨rfl,rfl⟩ F34
 clear F33
 refine fr_mv F34 130 7 (.inr rfl) rfl rfl (by decide) rfl fun _ F35=>?_
 clear F34
 refine fr_end ?_
 go_wp2
 have hrun9:=runs_go HRUN.out (stp_bar HLK.out)
 rw [HI1.out] at hrun9
 have hi1':=HI1.out
 have hna:=HNA.out
 have hcc:Chg [gs] w9 (w9.setCell ⟨gs,N*3+2,none⟩ (.slice none 0 0)):=cell_chg _
 have hX:∀ k ∈ [gs],k ∈ (Value.ownBlock (.slice Aa na ca)).toList ++ (Value.ownBlock (.slice (some ⟨gs,0,none⟩) (N+1) cap)).toList:=fun k hk=>by rw [List.mem_singleton.1 hk];exact List.mem_append.2 (.inr (by simp [Value.ownBlock]))
 have hc8:=hc9.trans (hcc.mono hX)
 have hown8:=own_chg hown9 hcc (fun k hk hm=>by
  rw [List.mem_singleton.1 hm] at hk
  rcases hat9 with h1 | ⟨k2,h1,h2⟩
  ·exact HAP.out.ap gs (h1.symm.trans hk) rfl
  ·have h3:gs=k2:=by rw [hk] at h1;exact Option.some.inj h1
   omega)
 have hrow8:=own_setCell (i:=N*3+2) hrow9 (.slice none 0 0)
 have hps9:=grow_alts (t:=mkCat items) HPS.out hc8 (by rw [hna];exact hown8) hat9 (dkidsV_map (fun t v h=>DNodeV.mono h (fun b _ hs=>⟨hs.1,fun hm=>hs.2 (by rw [liveO_snoc,List.mem_append];exact .inl hm),fun hm=>hs.2 (by rw [liveO_snoc,List.mem_append];exact .inr (by unfold OpS.live;rw [List.mem_append];exact .inl (by simp [hm])))⟩)) HKA.out) HND.out (by have h9:=hrow8;rw [show N*3+2=st.length*3+2 by rw [hN]] at h9;have h7:=cellsO_set2 st ⟨⟨num,alts ++ [mkCat items],[]⟩,.slice A8 (na+1) c8,.slice Ai ni ci⟩ (.slice none 0 0);unfold OpS.cells at h7;dsimp only at h7;rw [h7,hN] at h9;rw [hN];exact h9)
 have hxc:∀ k,k<w.heap.size+1→k ∉ (Value.ownBlock (.slice Aa na ca)).toList ++ (Value.ownBlock (.slice (some ⟨gs,0,none⟩) (N+1) cap)).toList:=fun k hk hm=>by
  rcases List.mem_append.1 hm with h1 | h1
  ·have:=(HA.out.lt k (by simpa using h1)).1;omega
  ·have:=(HPS.out.row.lt k (by simpa using h1)).1;omega
 have hex9:Ext w (w9.setCell ⟨gs,N*3+2,none⟩ (.slice none 0 0)):=by
  have h9:=HEX.out
  refine ⟨hc8.os.trans h9.os,hc8.tape.trans h9.tape,hc8.output.trans h9.output,Nat.le_trans h9.size hc8.size,fun k hk=>(hc8.block k (Nat.lt_of_lt_of_le hk h9.size) (hxc k (by omega))).trans (h9.block k hk)⟩
 have hb29:=Blk.chg HB2.out hc8 (hxc _ (by omega))
 refine HKK.out _ _ (Handed.intro (l.length-i1) (by omega) (HJ.out _ _ _ ⟨_,_,_,_,Fr.cons (Fr.cons (Fr.cons (Fr.cons (Fr.cons (Fr.cons F35.nil (F35.kn 7 _ rfl)) (F35.kn 6 _ rfl)) (F35.kn 5 _ rfl)) (F35.kn 4 _ rfl)) (F35.kn 2 _ rfl)) (F35.kn 0 _ rfl),num,alts ++ [mkCat items],[],rest,gr,i1,false,st,_,_,gs,cap,N,rfl,hN,rfl,rfl,rfl,rfl,hps9,HMO.out,hrun9,by omega,hgr,hN8,fun y hy=>?_,hex9,hb29⟩))
 rcases List.mem_append.1 hy with h9 | h9
 ·have h8:=HBD.out y (List.mem_append.2 (.inl h9));omega
 ·have h8:=HBD.out _ (List.mem_append.2 (.inr (List.mem_singleton.2 rfl)));rw [List.mem_singleton.1 h9];dsimp only at h8 ⊢;rw [List.length_append];simp only [List.length_singleton,List.length_nil];omega
set_option maxHeartbeats 40000000 in
set_option maxRecDepth 20000 in
theorem way3 (l:List UInt8) (R:PR) (w:World) (_:(l.length:Int)≤120) (HZ8:Hid (Tryz.zeroCells38.toList.length=260)) (_:Hid (R ≠ .out)) (HL:Hid (l.length≤120)) (Q:Exit→Act→World→Prop)
  (HRET:Hid (∀ a w',bodyPost Tryz.prog Tryz.f30 (fun e w'=>RefRes w R e w') .ret a w' → Q .ret a w')) (gk:Nat) (a0:Act) (wr:World) (J:Nat→Act→World→Prop) (K:Act→World→Prop)
  (HJ:Hid (∀ k a' w',LInv l R w k a' w' → J k a' w')) (HKK:Hid (∀ a' w',Handed J gk a' w' → K a' w')) (sv gv av iv:Value)
  (F0:Fr 280 [(0,.string ⟨l.toArray⟩),(2,.pointer (some ⟨w.heap.size,0,none⟩)),(4,sv),(5,gv),(6,av),(7,iv)] a0) (hrel:PInv l R w gk sv gv av iv wr)
  (i:Nat) (hiv:iv=.int .i64 (i:Nat)) (c:UInt8) (hlt:i<l.length) (hc:l[i]'hlt=c) (hrep:¬ isRep c) (k124:c ≠ 124) (k40:c=40) :
  Code.wp Tryz.prog bodyP (Exit.then K Q) a0 wr:=by
 have H9hrep:=Lib.hid hrep
 have H9k124:=Lib.hid k124
 have H9k40:=Lib.hid k40
 clear hrep k124 k40
 unfold bodyP
 unfold Tryz.f30
 dsimp only [loopIn,Option.getD,Option.bind]
 obtain ⟨num,alts,items,rest,gr,i9,ag,st,va,vi,gs,cap,N,rfl,hN,rfl,rfl,rfl,rfl,hps,hmo,hrun,hil,hgr,hN8,hbd,hext,hb2⟩:=hrel
 obtain rfl:i=i9:=by
  simp only [Value.int.injEq,true_and] at hiv
  omega
 clear hiv
 obtain ⟨hcap,hcm,hBg,hglt,hfr,y0,y1,y2⟩:=hps.head hN
 dsimp only at y0 y1 y2
 have HPS:=Lib.hid hps
 have HMO:=Lib.hid hmo
 have HRUN:=Lib.hid hrun
 have HBD:=Lib.hid hbd
 have HEX:=Lib.hid hext
 have HB2:=Lib.hid hb2
 clear hps hmo hrun hbd hext hb2
 have hlt':(i:Int)<(l.length:Int):=by omega
 have HLI:=Lib.hid (show l[i]?=some c by rw [List.getElem?_eq_getElem hlt,hc])
 go_upto_region 6 with fail
 refine fr_region ?_
 refine fr_mv F0 7 24 (.inl rfl) rfl rfl (by decide) rfl fun _ F1=>?_
 clear F0
 refine fr_mv F1 0 25 (.inl rfl) rfl rfl (by decide) rfl fun _ F2=>?_
 clear F1
 refine fr2 F2 26 (.int .i64 (l.length:Nat)) wr rfl (by decide) ?_ fun _ F3=>?_
 ·have e25:=F2.kn 25 _ rfl;go_wp2;exact ⟨_,rfl,rfl,rfl⟩
 clear F2
 refine fr2 F3 27 (.bool true) wr rfl (by decide) ?_ fun _ F4=>?_
 ·have e24:=F3.kn 24 _ rfl;have e26:=F3.kn 26 _ rfl;go_wp2;exact ⟨_,rfl,rfl,rfl⟩
 clear F3
 refine fr_end ?_
 go_upto_if 27 with fail
 refine wp_cond_true (F4.ev (t:=27) rfl) ?_
 go_upto_region 7 with fail
 refine fr_region ?_
 refine fr_mv F4 4 28 (.inl rfl) rfl rfl (by decide) rfl fun _ F5=>?_
 clear F4
 refine fr2 F5 29 (.int .i64 ((N:Int)+1)) wr rfl (by decide) ?_ fun _ F6=>?_
 ·have e28:=F5.kn 28 _ rfl;go_wp2;exact ⟨_,rfl,rfl,rfl⟩
 clear F5
 refine fr2 F6 30 (.int .i64 (N:Nat)) wr rfl (by decide) ?_ fun _ F7=>?_
 ·have e29:=F6.kn 29 _ rfl;go_wp2;exact ⟨_,rfl,rfl,rfl⟩
 clear F6
 refine fr_mv F7 30 8 (.inr rfl) rfl rfl (by decide) rfl fun _ F8=>?_
 clear F7
 refine fr_end ?_
 go_upto_region 8 with fail
 refine fr_region ?_
 refine fr_mv F8 0 31 (.inl rfl) rfl rfl (by decide) rfl fun _ F9=>?_
 clear F8
 refine fr_mv F9 7 32 (.inl rfl) rfl rfl (by decide) rfl fun _ F10=>?_
 clear F9
 refine fr2 F10 33 (.int .u8 (c.toNat:Nat)) wr rfl (by decide) ?_ fun _ F11=>?_
 ·have e31:=F10.kn 31 _ rfl;have e32:=F10.kn 32 _ rfl;go_wp2;exact ⟨_,rfl,rfl,rfl⟩
 clear F10
 refine fr_mv F11 33 9 (.inr rfl) rfl rfl (by decide) rfl fun _ F12=>?_
 clear F11
 refine fr_end ?_
 have hrep:=H9hrep.out
 have k124:=H9k124.out
 have k40:=H9k40.out
 clear H9hrep H9k124 H9k40
 have z42:((c.toNat:Int) == 42)=false:=u8_ne (fun h=>hrep (.inl h))
 have z43:((c.toNat:Int) == 43)=false:=u8_ne (fun h=>hrep (.inr (.inl h)))
 have z63:((c.toNat:Int) == 63)=false:=u8_ne (fun h=>hrep (.inr (.inr h)))
 have z124:((c.toNat:Int) == 124)=false:=u8_ne k124
 have z40:((c.toNat:Int) == 40)=true:=by rw [k40];rfl
 have HLK:=Lib.hid (show l[i]?=some 40 from by rw [HLI.out,k40])
 clear hrep k124 k40
 go_upto_region 9 with fail
 refine fr_region ?_
 refine fr_mv F12 9 34 (.inl rfl) rfl rfl (by decide) rfl fun _ F13=>?_
 clear F12
 refine fr2 F13 35 (.bool false) wr rfl (by decide) ?_ fun _ F14=>?_
 ·have e34:=F13.kn 34 _ rfl;go_wp2;exact ⟨_,rfl,rfl,rfl⟩
 clear F13
 refine fr_mv F14 35 36 (.inl rfl) rfl rfl (by decide) rfl fun _ F15=>?_
 clear F14
 refine fr2 F15 37 (.int .u8 (c.toNat:Nat)) wr rfl (by decide) ?_ fun _ F16=>?_
 ·have e9:=F15.kn 9 _ rfl;have e36:=F15.kn 36 _ rfl;go_wp2;exact ⟨_,rfl,rfl,rfl⟩
 clear F15
 refine fr2 F16 38 (.bool false) wr rfl (by decide) ?_ fun _ F17=>?_
 ·have e37:=F16.kn 37 _ rfl;have e36:=F16.kn 36 _ rfl;go_wp2;exact ⟨_,rfl,rfl,rfl⟩
 clear F16
 refine fr2 F17 39 (.bool false) wr rfl (by decide) ?_ fun _ F18=>?_
 ·have e36:=F17.kn 36 _ rfl;have e38:=F17.kn 38 _ rfl;go_wp2;exact ⟨_,rfl,rfl,rfl⟩
 clear F17
 refine fr_mv F18 39 40 (.inl rfl) rfl rfl (by decide) rfl fun _ F19=>?_
 clear F18
 refine fr2 F19 41 (.int .u8 (c.toNat:Nat)) wr rfl (by decide) ?_ fun _ F20=>?_
 ·have e9:=F19.kn 9 _ rfl;have e40:=F19.kn 40 _ rfl;go_wp2;exact ⟨_,rfl,rfl,rfl⟩
 clear F19
 refine fr2 F20 42 (.bool false) wr rfl (by decide) ?_ fun _ F21=>?_
 ·have e41:=F20.kn 41 _ rfl;have e40:=F20.kn 40 _ rfl;go_wp2;exact ⟨_,rfl,rfl,rfl⟩
 clear F20
 refine fr2 F21 43 (.bool false) wr rfl (by decide) ?_ fun _ F22=>?_
 ·have e40:=F21.kn 40 _ rfl;have e42:=F21.kn 42 _ rfl;go_wp2;exact ⟨_,rfl,rfl,rfl⟩
 clear F21
 refine fr_end ?_
 go_upto_if 43 with fail
 refine wp_cond_false (F22.ev (t:=43) rfl) ?_
 go_upto_region 27 with fail
 refine fr_region ?_
 refine fr_as F22 6 (.inr rfl) rfl rfl (by decide) fun _ F23=>?_
 clear F22
 refine fr_end ?_
 go_upto_region 28 with fail
 refine fr_region ?_
 refine fr_mv F23 9 105 (.inl rfl) rfl rfl (by decide) rfl fun _ F24=>?_
 clear F23
 refine fr_end ?_
 go_upto_region 29 with fail
 refine fr_region ?_
 refine fr2 F24 107 (.bool false) wr rfl (by decide) ?_ fun _ F25=>?_
 ·have e105:=F24.kn 105 _ rfl;go_wp2;exact ⟨_,rfl,rfl,rfl⟩
 clear F24
 refine fr_mv F25 107 106 (.inr rfl) rfl rfl (by decide) rfl fun _ F26=>?_
 clear F25
 refine fr_end ?_
 go_upto_if 106 with fail
 refine wp_cond_false (F26.ev (t:=106) rfl) ?_
 go_upto_region 33 with fail
 refine fr_region ?_
 refine fr2 F26 132 (.bool true) wr rfl (by decide) ?_ fun _ F27=>?_
 ·have e105:=F26.kn 105 _ rfl;go_wp2;exact ⟨_,rfl,rfl,rfl⟩
 clear F26
 refine fr_mv F27 132 131 (.inr rfl) rfl rfl (by decide) rfl fun _ F28=>?_
 clear F27
 refine fr_end ?_
 go_upto_if 131 with fail
 refine wp_cond_true (F28.ev (t:=131) rfl) ?_
 go_upto_region 34 with fail
 have hst:=stp_open (num:=num) (alts:=alts) (items:=items) (rest:=rest) (gr:=gr) (ag:=ag) HLK.out
 have HST:=Lib.hid hst
 clear hst hfr y0 y1 y2
 have HLR:=Lib.hid (show st.length=rest.length from ofCfg_len HMO.out)
 by_cases h8:8≤N
 ·have hR:=runs_fin HRUN.out (HST.out.trans (if_pos (by have:=HLR.out;omega)))
  subst hR
  have h8':(8:Int)<(N:Int)+1:=by omega
  refine fr_region ?_
  refine fr_mv F28 4 133 (.inl rfl) rfl rfl (by decide) rfl fun _ F29=>?_
  clear F28
  refine fr2 F29 134 (.int .i64 ((N:Int)+1)) wr rfl (by decide) ?_ fun _ F30=>?_
  ·have e133:=F29.kn 133 _ rfl;go_wp2;exact ⟨_,rfl,rfl,rfl⟩
  clear F29
  refine fr2 F30 135 (.bool true) wr rfl (by decide) ?_ fun _ F31=>?_
  ·have e134:=F30.kn 134 _ rfl;go_wp2;exact ⟨_,rfl,rfl,rfl⟩
  clear F30
  refine fr_end ?_
  go_upto_if 135 with fail
  refine wp_cond_true (F31.ev (t:=135) rfl) ?_
  go_upto_region 35 with fail
  go_upto_region 35 with fail
  refine fr_region ?_
  refine fr2 F31 136 (.agg (dnC 0 0 false (fun _=>false) none 0 0).toArray) wr rfl (by decide) ?_ fun _ F32=>?_
  ·refine build_z rfl rfl ?_
   exact ⟨_,rfl,rfl,rfl⟩
  clear F31
  refine fr_op0 F32 rfl (At1 ((wr.setRow w.heap.size (dnC 0 0 false (fun _=>false) none 0 0).toArray))) ?_ ?_
  ·have e2:=F32.kn 2 _ rfl
   have e136:=F32.kn 136 _ rfl
   refine store_dn rfl (.tmp 2) (.tmp 136) rfl (g:=w.heap.size) (F32.ev (t:=2) rfl) (F32.ev (t:=136) rfl) (HB2.out) HZ8.out ?_
   exact ⟨_,rfl,rfl⟩
  rintro a33 _ rfl F33
  clear F32
  refine fr_as F33 3 (.inr rfl) rfl rfl (by decide) fun _ F34=>?_
  clear F33
  refine fr_end ?_
  go_wp2
  exact HRET.out _ _ <| bodyPost_ret (v:=.tuple #[.agg (dnC 0 0 false (fun _=>false) none 0 0).toArray,.int .i64 11]) (results_dn2 rfl (F34.gd (t:=2) rfl) (Blk.row (HB2.out) _) (dn_len _ _ _ _ _ _ _) (F34.gd (t:=3) rfl)) F34.defers ⟨Ext.row (HEX.out) _ _ (Nat.le_refl _),rfl⟩
 have h8':¬ (8:Int)<(N:Int)+1:=by omega
 have HST2:=Lib.hid (HST.out.trans (if_neg (by have:=HLR.out;omega)))
 obtain ⟨i1,hi1⟩:∃ i1,i+1=i1:=⟨_,rfl⟩
 have HI1:=Lib.hid hi1
 have hi3:i1≤120:=by have:=HL.out;omega
 have hi4:i<i1∧i1≤l.length:=by omega
 rw [hi1] at HST2
 clear hi1
 refine fr_region ?_
 refine fr_mv F28 4 133 (.inl rfl) rfl rfl (by decide) rfl fun _ F29=>?_
 clear F28
 refine fr2 F29 134 (.int .i64 ((N:Int)+1)) wr rfl (by decide) ?_ fun _ F30=>?_
 ·have e133:=F29.kn 133 _ rfl;go_wp2;exact ⟨_,rfl,rfl,rfl⟩
 clear F29
 refine fr2 F30 135 (.bool false) wr rfl (by decide) ?_ fun _ F31=>?_
 ·have e134:=F30.kn 134 _ rfl;go_wp2;exact ⟨_,rfl,rfl,rfl⟩
 clear F30
 refine fr_end ?_
 go_upto_if 135 with fail
 refine wp_cond_false (F31.ev (t:=135) rfl) ?_
 go_upto_region 36 with fail
 refine fr_region ?_
 refine fr2 F31 137 (.agg #[.int .i64 0,.slice none 0 0,.slice none 0 0]) wr rfl (by decide) ?_ fun _ F32=>?_
 ·go_wp2;exact ⟨_,rfl,rfl,rfl⟩
 clear F31
 refine fr_op F32 13 rfl (by decide) (At2 (.pointer (some ⟨wr.heap.size,0,none⟩)) (wr.alloc (.cells #[.int .i64 0,.slice none 0 0,.slice none 0 0] 98))) ?_ ?_
 ·go_wp2
  exact ⟨_,rfl,rfl,rfl⟩
 rintro a33 _ _ ⟨rfl,rfl⟩ F33
 clear F32
 refine fr_op0 F33 rfl (NewO wr wr.heap.size [.int .i64 0,.slice none 0 0,.slice none 0 0]) ?_ ?_
 ·have e13:=F33.kn 13 _ rfl
  have e137:=F33.kn 137 _ rfl
  go_wp2
  exact ⟨Ext.new1 _ _,Blk.newL _ _ _,by simp⟩
 rintro a34 w1 ⟨hx1,hb1,hs1⟩ F34
 clear F33
 refine fr_end ?_
 go_upto_region 37 with fail
 refine fr_region ?_
 refine fr_mv F34 7 138 (.inl rfl) rfl rfl (by decide) rfl fun _ F35=>?_
 clear F34
 refine fr2 F35 139 (.int .i64 (i1:Nat)) w1 rfl (by decide) ?_ fun _ F36=>?_
 ·have e138:=F35.kn 138 _ rfl
  have h9:=HI1.out
  have hw:IntKind.i64.wrap ((i:Int)+1)=(i:Int)+1:=wrap_id (by omega) (by omega)
  go_wp2
  first | exact ⟨_,rfl,rfl,rfl⟩ | exact ⟨_,rfl,congrArg (Value.int .i64) (by omega),rfl⟩
 clear F35
 refine fr_mv F36 139 7 (.inr rfl) rfl rfl (by decide) rfl fun _ F37=>?_
 clear F36
 refine fr_end ?_
 go_upto_region 38 with fail
 by_cases hz1:i1<l.length
 ·have hz1':(i1:Int)<(l.length:Int):=by omega
  obtain ⟨d,hd⟩:∃ d,l[i1]'hz1=d:=⟨_,rfl⟩
  have HD:=Lib.hid (show l[i1]?=some d by rw [List.getElem?_eq_getElem hz1,hd])
  by_cases hz2:d=63
  ·have z2:((d.toNat:Int) == 63)=true:=by rw [hz2];rfl
   have HST3:=Lib.hid (HST2.out.trans (if_pos (by rw [HD.out,hz2])))
   clear hz2
   refine fr_region ?_
   refine fr_mv F37 7 140 (.inl rfl) rfl rfl (by decide) rfl fun _ F38=>?_
   clear F37
   refine fr_mv F38 0 141 (.inl rfl) rfl rfl (by decide) rfl fun _ F39=>?_
   clear F38
   refine fr2 F39 142 (.int .i64 (l.length:Nat)) w1 rfl (by decide) ?_ fun _ F40=>?_
   ·have e141:=F39.kn 141 _ rfl;go_wp2;exact ⟨_,rfl,rfl,rfl⟩
   clear F39
   refine fr2 F40 143 (.bool true) w1 rfl (by decide) ?_ fun _ F41=>?_
   ·have e140:=F40.kn 140 _ rfl;have e142:=F40.kn 142 _ rfl;go_wp2;exact ⟨_,rfl,rfl,rfl⟩
   clear F40
   refine fr_mv F41 143 144 (.inl rfl) rfl rfl (by decide) rfl fun _ F42=>?_
   clear F41
   refine fr2 F42 145 (.string ⟨l.toArray⟩) w1 rfl (by decide) ?_ fun _ F43=>?_
   ·have e0:=F42.kn 0 _ rfl;have e144:=F42.kn 144 _ rfl;go_wp2;exact ⟨_,rfl,rfl,rfl⟩
   clear F42
   refine fr2 F43 146 (.int .i64 (i1:Nat)) w1 rfl (by decide) ?_ fun _ F44=>?_
   ·have e7:=F43.kn 7 _ rfl;have e144:=F43.kn 144 _ rfl;go_wp2;exact ⟨_,rfl,rfl,rfl⟩
   clear F43
   refine fr2 F44 147 (.int .u8 (d.toNat:Nat)) w1 rfl (by decide) ?_ fun _ F45=>?_
   ·have e145:=F44.kn 145 _ rfl;have e146:=F44.kn 146 _ rfl;have e144:=F44.kn 144 _ rfl;go_wp2;exact ⟨_,rfl,rfl,rfl⟩
   clear F44
   refine fr2 F45 148 (.bool true) w1 rfl (by decide) ?_ fun _ F46=>?_
   ·have e147:=F45.kn 147 _ rfl;have e144:=F45.kn 144 _ rfl;go_wp2;exact ⟨_,rfl,rfl,rfl⟩
   clear F45
   refine fr2 F46 149 (.bool true) w1 rfl (by decide) ?_ fun _ F47=>?_
   ·have e144:=F46.kn 144 _ rfl;have e148:=F46.kn 148 _ rfl;go_wp2;exact ⟨_,rfl,rfl,rfl⟩
   clear F46
   refine fr_end ?_
   go_upto_if 149 with fail
   refine wp_cond_true (F47.ev (t:=149) rfl) ?_
   go_upto_region 39 with fail
   obtain ⟨i2,hi2⟩:∃ i2,i+2=i2:=⟨_,rfl⟩
   rw [hi2] at HST3
   have hi5:i2=i1+1:=by have:=HI1.out;omega
   have HI5:=Lib.hid hi5
   clear hi5 hi2
   by_cases hz3n:l.length≤i2
   ·have hzz:((i1:Int) == (l.length:Int)-1)=true:=by have:=HI5.out;rw [beq_iff_eq];omega
    have hnn:l[i2]?=none:=List.getElem?_eq_none hz3n
    have hR:=runs_fin HRUN.out (HST3.out.trans (by rw [hnn]))
    subst hR
    clear hnn
    refine fr_region ?_
    refine fr_mv F47 7 150 (.inl rfl) rfl rfl (by decide) rfl fun _ F48=>?_
    clear F47
    refine fr_mv F48 0 151 (.inl rfl) rfl rfl (by decide) rfl fun _ F49=>?_
    clear F48
    refine fr2 F49 152 (.int .i64 (l.length:Nat)) w1 rfl (by decide) ?_ fun _ F50=>?_
    ·have e151:=F49.kn 151 _ rfl;go_wp2;exact ⟨_,rfl,rfl,rfl⟩
    clear F49
    refine fr2 F50 153 (.int .i64 ((l.length:Int)-1)) w1 rfl (by decide) ?_ fun _ F51=>?_
    ·have e152:=F50.kn 152 _ rfl
     have hw:IntKind.i64.wrap ((l.length:Int)-1)=(l.length:Int)-1:=wrap_id (by omega) (by omega)
     go_wp2
     first | exact ⟨_,rfl,rfl,rfl⟩ | exact ⟨_,rfl,congrArg (Value.int .i64) (by omega),rfl⟩
    clear F50
    refine fr2 F51 154 (.bool true) w1 rfl (by decide) ?_ fun _ F52=>?_
    ·have e150:=F51.kn 150 _ rfl;have e153:=F51.kn 153 _ rfl;go_wp2;exact ⟨_,rfl,rfl,rfl⟩
    clear F51
    refine fr_end ?_
    go_upto_if 154 with fail
    refine wp_cond_true (F52.ev (t:=154) rfl) ?_
    go_upto_region 40 with fail
    go_upto_region 40 with fail
    refine fr_region ?_
    refine fr2 F52 155 (.agg (dnC 0 0 false (fun _=>false) none 0 0).toArray) w1 rfl (by decide) ?_ fun _ F53=>?_
    ·refine build_z rfl rfl ?_
     exact ⟨_,rfl,rfl,rfl⟩
    clear F52
    refine fr_op0 F53 rfl (At1 ((w1.setRow w.heap.size (dnC 0 0 false (fun _=>false) none 0 0).toArray))) ?_ ?_
    ·have e2:=F53.kn 2 _ rfl
     have e155:=F53.kn 155 _ rfl
     refine store_dn rfl (.tmp 2) (.tmp 155) rfl (g:=w.heap.size) (F53.ev (t:=2) rfl) (F53.ev (t:=155) rfl) (HB2.out.keep hx1) HZ8.out ?_
     exact ⟨_,rfl,rfl⟩
    rintro a54 _ rfl F54
    clear F53
    refine fr_as F54 3 (.inr rfl) rfl rfl (by decide) fun _ F55=>?_
    clear F54
    refine fr_end ?_
    go_wp2
    exact HRET.out _ _ <| bodyPost_ret (v:=.tuple #[.agg (dnC 0 0 false (fun _=>false) none 0 0).toArray,.int .i64 3]) (results_dn2 rfl (F55.gd (t:=2) rfl) (Blk.row (HB2.out.keep hx1) _) (dn_len _ _ _ _ _ _ _) (F55.gd (t:=3) rfl)) F55.defers ⟨Ext.row (HEX.out.trans hx1) _ _ (Nat.le_refl _),rfl⟩
   have hz3:i2<l.length:=Nat.lt_of_not_le hz3n
   have hzz:((i1:Int) == (l.length:Int)-1)=false:=by have:=HI5.out;rw [beq_eq_false_iff_ne];omega
   obtain ⟨d2,hd2⟩:∃ d,l[i2]'hz3=d:=⟨_,rfl⟩
   have HD2:=Lib.hid (show l[i2]?=some d2 by rw [List.getElem?_eq_getElem hz3,hd2])
   have hz3':(i2:Int)<(l.length:Int):=by omega
   refine fr_region ?_
   refine fr_mv F47 7 150 (.inl rfl) rfl rfl (by decide) rfl fun _ F48=>?_
   clear F47
   refine fr_mv F48 0 151 (.inl rfl) rfl rfl (by decide) rfl fun _ F49=>?_
   clear F48
   refine fr2 F49 152 (.int .i64 (l.length:Nat)) w1 rfl (by decide) ?_ fun _ F50=>?_
   ·have e151:=F49.kn 151 _ rfl;go_wp2;exact ⟨_,rfl,rfl,rfl⟩
   clear F49
   refine fr2 F50 153 (.int .i64 ((l.length:Int)-1)) w1 rfl (by decide) ?_ fun _ F51=>?_
   ·have e152:=F50.kn 152 _ rfl
    have hw:IntKind.i64.wrap ((l.length:Int)-1)=(l.length:Int)-1:=wrap_id (by omega) (by omega)
    go_wp2
    first | exact ⟨_,rfl,rfl,rfl⟩ | exact ⟨_,rfl,congrArg (Value.int .i64) (by omega),rfl⟩
   clear F50
   refine fr2 F51 154 (.bool false) w1 rfl (by decide) ?_ fun _ F52=>?_
   ·have e150:=F51.kn 150 _ rfl;have e153:=F51.kn 153 _ rfl;go_wp2;exact ⟨_,rfl,rfl,rfl⟩
   clear F51
   refine fr_end ?_
   go_upto_if 154 with fail
   refine wp_cond_false (F52.ev (t:=154) rfl) ?_
   go_upto_region 41 with fail
   have HST4:=Lib.hid (HST3.out.trans (by rw [HD2.out]))
   by_cases hz4:d2 ≠ 58
   ·have z4:((d2.toNat:Int) != 58)=true:=by have h9:=u8_ne hz4;simp only [bne];rw [show ((d2.toNat:Int) == 58)=false from h9];rfl
    have hR:=runs_fin HRUN.out (HST4.out.trans (if_neg hz4))
    subst hR
    clear hz4
    refine fr_region ?_
    refine fr_mv F52 0 156 (.inl rfl) rfl rfl (by decide) rfl fun _ F53=>?_
    clear F52
    refine fr_mv F53 7 157 (.inl rfl) rfl rfl (by decide) rfl fun _ F54=>?_
    clear F53
    refine fr2 F54 158 (.int .i64 (i2:Nat)) w1 rfl (by decide) ?_ fun _ F55=>?_
    ·have e157:=F54.kn 157 _ rfl
     have h9:=HI5.out
     have hw:IntKind.i64.wrap ((i1:Int)+1)=(i1:Int)+1:=wrap_id (by omega) (by omega)
     go_wp2
     first | exact ⟨_,rfl,rfl,rfl⟩ | exact ⟨_,rfl,congrArg (Value.int .i64) (by omega),rfl⟩
    clear F54
    refine fr2 F55 159 (.int .u8 (d2.toNat:Nat)) w1 rfl (by decide) ?_ fun _ F56=>?_
    ·have e156:=F55.kn 156 _ rfl;have e158:=F55.kn 158 _ rfl;go_wp2;exact ⟨_,rfl,rfl,rfl⟩
    clear F55
    refine fr2 F56 160 (.bool true) w1 rfl (by decide) ?_ fun _ F57=>?_
    ·have e159:=F56.kn 159 _ rfl;go_wp2;exact ⟨_,rfl,rfl,rfl⟩
    clear F56
    refine fr_end ?_
    go_upto_if 160 with fail
    refine wp_cond_true (F57.ev (t:=160) rfl) ?_
    go_upto_region 42 with fail
    go_upto_region 42 with fail
    refine fr_region ?_
    refine fr2 F57 161 (.agg (dnC 0 0 false (fun _=>false) none 0 0).toArray) w1 rfl (by decide) ?_ fun _ F58=>?_
    ·refine build_z rfl rfl ?_
     exact ⟨_,rfl,rfl,rfl⟩
    clear F57
    refine fr_op0 F58 rfl (At1 ((w1.setRow w.heap.size (dnC 0 0 false (fun _=>false) none 0 0).toArray))) ?_ ?_
    ·have e2:=F58.kn 2 _ rfl
     have e161:=F58.kn 161 _ rfl
     refine store_dn rfl (.tmp 2) (.tmp 161) rfl (g:=w.heap.size) (F58.ev (t:=2) rfl) (F58.ev (t:=161) rfl) (HB2.out.keep hx1) HZ8.out ?_
     exact ⟨_,rfl,rfl⟩
    rintro a59 _ rfl F59
    clear F58
    refine fr_as F59 3 (.inr rfl) rfl rfl (by decide) fun _ F60=>?_
    clear F59
    refine fr_end ?_
    go_wp2
    exact HRET.out _ _ <| bodyPost_ret (v:=.tuple #[.agg (dnC 0 0 false (fun _=>false) none 0 0).toArray,.int .i64 5]) (results_dn2 rfl (F60.gd (t:=2) rfl) (Blk.row (HB2.out.keep hx1) _) (dn_len _ _ _ _ _ _ _) (F60.gd (t:=3) rfl)) F60.defers ⟨Ext.row (HEX.out.trans hx1) _ _ (Nat.le_refl _),rfl⟩
   replace hz4:=Classical.not_not.1 hz4
   have z4:((d2.toNat:Int) != 58)=false:=by rw [hz4];rfl
   have HRUN9:=Lib.hid (runs_go HRUN.out (HST4.out.trans (if_pos hz4)))
   clear hz4
   obtain ⟨i3,hi3'⟩:∃ i3,i+3=i3:=⟨_,rfl⟩
   rw [hi3'] at HRUN9
   have HI6:=Lib.hid (show i3=i1+2 by have:=HI1.out;omega)
   have hi7:i3≤l.length∧i<i3:=by have:=HI5.out;have:=HI1.out;omega
   clear hi3'
   refine fr_region ?_
   refine fr_mv F52 0 156 (.inl rfl) rfl rfl (by decide) rfl fun _ F53=>?_
   clear F52
   refine fr_mv F53 7 157 (.inl rfl) rfl rfl (by decide) rfl fun _ F54=>?_
   clear F53
   refine fr2 F54 158 (.int .i64 (i2:Nat)) w1 rfl (by decide) ?_ fun _ F55=>?_
   ·have e157:=F54.kn 157 _ rfl
    have h9:=HI5.out
    have hw:IntKind.i64.wrap ((i1:Int)+1)=(i1:Int)+1:=wrap_id (by omega) (by omega)
    go_wp2
    first | exact ⟨_,rfl,rfl,rfl⟩ | exact ⟨_,rfl,congrArg (Value.int .i64) (by omega),rfl⟩
   clear F54
   refine fr2 F55 159 (.int .u8 (d2.toNat:Nat)) w1 rfl (by decide) ?_ fun _ F56=>?_
   ·have e156:=F55.kn 156 _ rfl;have e158:=F55.kn 158 _ rfl;go_wp2;exact ⟨_,rfl,rfl,rfl⟩
   clear F55
   refine fr2 F56 160 (.bool false) w1 rfl (by decide) ?_ fun _ F57=>?_
   ·have e159:=F56.kn 159 _ rfl;go_wp2;exact ⟨_,rfl,rfl,rfl⟩
   clear F56
   refine fr_end ?_
   go_upto_if 160 with fail
   refine wp_cond_false (F57.ev (t:=160) rfl) ?_
   go_upto_region 43 with fail
   refine fr_region ?_
   refine fr_mv F57 7 162 (.inl rfl) rfl rfl (by decide) rfl fun _ F58=>?_
   clear F57
   refine fr2 F58 163 (.int .i64 (i3:Nat)) w1 rfl (by decide) ?_ fun _ F59=>?_
   ·have e162:=F58.kn 162 _ rfl
    have h9:=HI6.out
    have hw:IntKind.i64.wrap ((i1:Int)+2)=(i1:Int)+2:=wrap_id (by omega) (by omega)
    go_wp2
    first | exact ⟨_,rfl,rfl,rfl⟩ | exact ⟨_,rfl,congrArg (Value.int .i64) (by omega),rfl⟩
   clear F58
   refine fr_mv F59 163 7 (.inr rfl) rfl rfl (by decide) rfl fun _ F60=>?_
   clear F59
   refine fr_end ?_
   have hrun9:=HRUN9.out
   go_upto_region 48 with fail
   have HPS1:=Lib.hid (HPS.out.keep hx1)
   have HX1:=Lib.hid hx1
   have c0:=hb1.cell 0
   have c1:=hb1.cell 1
   have c2:=hb1.cell 2
   simp only [List.getElem?_cons_zero,List.getElem?_cons_succ] at c0 c1 c2
   refine fr_region ?_
   refine fr_mv F60 4 171 (.inl rfl) rfl rfl (by decide) rfl fun _ F61=>?_
   clear F60
   refine fr2 F61 172 (.agg #[.int .i64 (0:Nat),.slice none 0 0,.slice none 0 0]) w1 rfl (by decide) ?_ fun _ F62=>?_
   ·have e13:=F61.kn 13 _ rfl;go_wp2;exact ⟨_,rfl,rfl,rfl⟩
   clear F61
   refine fr_op F62 173 rfl (by decide) (fun v w'=>v=.slice (some ⟨w1.heap.size,0,none⟩) 1 1∧Ext w1 w' ∧ Rd w' 3 (some ⟨w1.heap.size,0,none⟩) 1 [.int .i64 (0:Nat),.slice none 0 0,.slice none 0 0]) ?_ ?_
   ·have e172:=F62.kn 172 _ rfl
    go_wp2
    exact ⟨_,rfl,rfl,Ext.new1 _ _,rd_newS _ 3 1 _ _ rfl⟩
   rintro a63 _ w3 ⟨rfl,hx3,hr3⟩ F63
   clear F62
   refine fr_op F63 174 rfl (by decide) (fun v w'=>w'.ownsRow (w.heap.size+1) 98 3 v (N+1+1) (cellsO (st ++ [⟨⟨num,alts,items⟩,va,vi⟩]) ++ [.int .i64 (0:Nat),.slice none 0 0,.slice none 0 0])∧Chg (Value.ownBlock (.slice (some ⟨gs,0,none⟩) (N+1) cap)).toList w3 w' ∧ (v.ownBlock=Value.ownBlock (.slice (some ⟨gs,0,none⟩) (N+1) cap)∨v.ownBlock=some w3.heap.size)) ?_ ?_
   ·have e171:=F63.kn 171 _ rfl
    have e173:=F63.kn 173 _ rfl
    have hrow9:w3.ownsRow (w.heap.size+1) 98 3 (.slice (some ⟨gs,0,none⟩) (N+1) cap) (N+1) (cellsO (st ++ [⟨⟨num,alts,items⟩,va,vi⟩])):=by have h9:=own_ext HPS1.out.row hx3;rwa [List.length_append,List.length_singleton,hN] at h9
    have hsz9:=(HPS1.out.head hN).2.2.2.1
    have hsz8:=hx3.size
    refine wpList_app2 elemOp rfl (.tmp 171) (.tmp 173) rfl (base:=w.heap.size+1) (v:=(.slice (some ⟨gs,0,none⟩) (N+1) cap)) (n:=N+1) (F63.ev (t:=171) rfl) hrow9 (by omega) (A:=some ⟨w1.heap.size,0,none⟩) (m:=1) (c:=1) (news:=[.int .i64 (0:Nat),.slice none 0 0,.slice none 0 0]) (F63.ev (t:=173) rfl) hr3 (by intro u hu;simp at hu;rcases hu with rfl | rfl <;> rfl) (by omega) (by unfold maxLen;omega) ?_
    intro v' w' hown hg _ hat
    exact ⟨_,rfl,hown,grew_chg hg,hat⟩
   rintro a64 v9 w4 ⟨hown4,hc4,hat4⟩ F64
   clear F63
   refine fr_mv F64 174 4 (.inr rfl) rfl rfl (by decide) rfl fun _ F65=>?_
   clear F64
   refine fr_end ?_
   go_wp2
   obtain ⟨g9,c9,rfl,h91,h92,h93,h94,-,-⟩:=own_blkS hown4 (by omega)
   have hsz5:=HX1.out.size
   have hsz6:=hx3.size
   have hc5:Chg (Value.ownBlock (.slice (some ⟨gs,0,none⟩) (N+1) cap)).toList wr w4:=((Chg.of_ext HX1.out).trans (.of_ext hx3)).trans hc4
   have hps9:=PStk.push HPS.out 0 hc5 (fun k hk=>by rcases hat4 with h1 | h1;(exact .inl (h1.symm.trans hk));(rw [h1] at hk;cases hk;exact .inr (by omega))) (by rw [List.length_append,List.length_singleton,hN];exact hown4)
   have hxc:∀ k,k<w.heap.size+1→k ∉ (Value.ownBlock (.slice (some ⟨gs,0,none⟩) (N+1) cap)).toList:=fun k hk hm=>by
    have:=(HPS.out.row.lt k (by simpa using hm)).1;omega
   have hex9:Ext w w4:=by
    have h9:=HEX.out
    refine ⟨hc5.os.trans h9.os,hc5.tape.trans h9.tape,hc5.output.trans h9.output,Nat.le_trans h9.size hc5.size,fun k hk=>(hc5.block k (Nat.lt_of_lt_of_le hk h9.size) (hxc k (by omega))).trans (h9.block k hk)⟩
   have hb29:=Blk.chg HB2.out hc5 (hxc _ (by omega))
   refine HKK.out _ _ (Handed.intro (l.length-i3) (by omega) (HJ.out _ _ _ ⟨_,_,_,_,Fr.cons (Fr.cons (Fr.cons (Fr.cons (Fr.cons (Fr.cons F65.nil (F65.kn 7 _ rfl)) (F65.kn 6 _ rfl)) (F65.kn 5 _ rfl)) (F65.kn 4 _ rfl)) (F65.kn 2 _ rfl)) (F65.kn 0 _ rfl),0,[],[],⟨num,alts,items⟩ :: rest,gr,i3,false,st ++ [⟨⟨num,alts,items⟩,va,vi⟩],.slice none 0 0,.slice none 0 0,g9,c9,N+1,rfl,by rw [List.length_append,List.length_singleton,hN],rfl,rfl,rfl,rfl,hps9,by rw [List.map_append,HMO.out,List.reverse_cons];rfl,hrun9,by omega,by omega,by omega,fun y hy=>?_,hex9,hb29⟩))
   rcases List.mem_append.1 hy with h9 | h9
   ·have h8:=HBD.out y h9;omega
   ·rw [List.mem_singleton.1 h9];exact ⟨Nat.zero_le _,Nat.zero_le _⟩
  ·have z2:((d.toNat:Int) == 63)=false:=u8_ne hz2
   have HST3:=Lib.hid (HST2.out.trans (if_neg (by rw [HD.out];exact fun h=>hz2 (Option.some.inj h))))
   clear hz2
   refine fr_region ?_
   refine fr_mv F37 7 140 (.inl rfl) rfl rfl (by decide) rfl fun _ F38=>?_
   clear F37
   refine fr_mv F38 0 141 (.inl rfl) rfl rfl (by decide) rfl fun _ F39=>?_
   clear F38
   refine fr2 F39 142 (.int .i64 (l.length:Nat)) w1 rfl (by decide) ?_ fun _ F40=>?_
   ·have e141:=F39.kn 141 _ rfl;go_wp2;exact ⟨_,rfl,rfl,rfl⟩
   clear F39
   refine fr2 F40 143 (.bool true) w1 rfl (by decide) ?_ fun _ F41=>?_
   ·have e140:=F40.kn 140 _ rfl;have e142:=F40.kn 142 _ rfl;go_wp2;exact ⟨_,rfl,rfl,rfl⟩
   clear F40
   refine fr_mv F41 143 144 (.inl rfl) rfl rfl (by decide) rfl fun _ F42=>?_
   clear F41
   refine fr2 F42 145 (.string ⟨l.toArray⟩) w1 rfl (by decide) ?_ fun _ F43=>?_
   ·have e0:=F42.kn 0 _ rfl;have e144:=F42.kn 144 _ rfl;go_wp2;exact ⟨_,rfl,rfl,rfl⟩
   clear F42
   refine fr2 F43 146 (.int .i64 (i1:Nat)) w1 rfl (by decide) ?_ fun _ F44=>?_
   ·have e7:=F43.kn 7 _ rfl;have e144:=F43.kn 144 _ rfl;go_wp2;exact ⟨_,rfl,rfl,rfl⟩
   clear F43
   refine fr2 F44 147 (.int .u8 (d.toNat:Nat)) w1 rfl (by decide) ?_ fun _ F45=>?_
   ·have e145:=F44.kn 145 _ rfl;have e146:=F44.kn 146 _ rfl;have e144:=F44.kn 144 _ rfl;go_wp2;exact ⟨_,rfl,rfl,rfl⟩
   clear F44
   refine fr2 F45 148 (.bool false) w1 rfl (by decide) ?_ fun _ F46=>?_
   ·have e147:=F45.kn 147 _ rfl;have e144:=F45.kn 144 _ rfl;go_wp2;exact ⟨_,rfl,rfl,rfl⟩
   clear F45
   refine fr2 F46 149 (.bool false) w1 rfl (by decide) ?_ fun _ F47=>?_
   ·have e144:=F46.kn 144 _ rfl;have e148:=F46.kn 148 _ rfl;go_wp2;exact ⟨_,rfl,rfl,rfl⟩
   clear F46
   refine fr_end ?_
   go_upto_if 149 with fail
   refine wp_cond_false (F47.ev (t:=149) rfl) ?_
   go_upto_region 44 with fail
   by_cases hg9:gr=9
   ·have hR:=runs_fin HRUN.out (HST3.out.trans (if_pos hg9))
    subst hR
    have hg9':((gr:Int) == 9)=true:=by rw [hg9];rfl
    have HG9:=Lib.hid hg9
    clear hg9
    refine fr_region ?_
    refine fr_mv F47 5 164 (.inl rfl) rfl rfl (by decide) rfl fun _ F48=>?_
    clear F47
    refine fr2 F48 165 (.bool true) w1 rfl (by decide) ?_ fun _ F49=>?_
    ·have e164:=F48.kn 164 _ rfl;go_wp2;exact ⟨_,rfl,rfl,rfl⟩
    clear F48
    refine fr_end ?_
    go_upto_if 165 with fail
    refine wp_cond_true (F49.ev (t:=165) rfl) ?_
    go_upto_region 45 with fail
    go_upto_region 45 with fail
    refine fr_region ?_
    refine fr2 F49 166 (.agg (dnC 0 0 false (fun _=>false) none 0 0).toArray) w1 rfl (by decide) ?_ fun _ F50=>?_
    ·refine build_z rfl rfl ?_
     exact ⟨_,rfl,rfl,rfl⟩
    clear F49
    refine fr_op0 F50 rfl (At1 ((w1.setRow w.heap.size (dnC 0 0 false (fun _=>false) none 0 0).toArray))) ?_ ?_
    ·have e2:=F50.kn 2 _ rfl
     have e166:=F50.kn 166 _ rfl
     refine store_dn rfl (.tmp 2) (.tmp 166) rfl (g:=w.heap.size) (F50.ev (t:=2) rfl) (F50.ev (t:=166) rfl) (HB2.out.keep hx1) HZ8.out ?_
     exact ⟨_,rfl,rfl⟩
    rintro a51 _ rfl F51
    clear F50
    refine fr_as F51 3 (.inr rfl) rfl rfl (by decide) fun _ F52=>?_
    clear F51
    refine fr_end ?_
    go_wp2
    exact HRET.out _ _ <| bodyPost_ret (v:=.tuple #[.agg (dnC 0 0 false (fun _=>false) none 0 0).toArray,.int .i64 2]) (results_dn2 rfl (F52.gd (t:=2) rfl) (Blk.row (HB2.out.keep hx1) _) (dn_len _ _ _ _ _ _ _) (F52.gd (t:=3) rfl)) F52.defers ⟨Ext.row (HEX.out.trans hx1) _ _ (Nat.le_refl _),rfl⟩
   have hg9':((gr:Int) == 9)=false:=by rw [beq_eq_false_iff_ne];omega
   obtain ⟨g1,hg1⟩:∃ g1,gr+1=g1:=⟨_,rfl⟩
   have hrun9:=runs_go HRUN.out (HST3.out.trans (if_neg hg9))
   rw [hg1] at hrun9
   have HG1:=Lib.hid hg1
   have hg19:g1≤9:=by omega
   have HRUN9:=Lib.hid hrun9
   clear hg1 hrun9
   refine fr_region ?_
   refine fr_mv F47 5 164 (.inl rfl) rfl rfl (by decide) rfl fun _ F48=>?_
   clear F47
   refine fr2 F48 165 (.bool false) w1 rfl (by decide) ?_ fun _ F49=>?_
   ·have e164:=F48.kn 164 _ rfl;go_wp2;exact ⟨_,rfl,rfl,rfl⟩
   clear F48
   refine fr_end ?_
   go_upto_if 165 with fail
   refine wp_cond_false (F49.ev (t:=165) rfl) ?_
   go_upto_region 46 with fail
   refine fr_region ?_
   refine fr_mv F49 5 167 (.inl rfl) rfl rfl (by decide) rfl fun _ F50=>?_
   clear F49
   refine fr2 F50 168 (.int .i64 (g1:Nat)) w1 rfl (by decide) ?_ fun _ F51=>?_
   ·have e167:=F50.kn 167 _ rfl
    have h9:=HG1.out
    have hw:IntKind.i64.wrap ((gr:Int)+1)=(gr:Int)+1:=wrap_id (by omega) (by omega)
    go_wp2
    first | exact ⟨_,rfl,rfl,rfl⟩ | exact ⟨_,rfl,congrArg (Value.int .i64) (by omega),rfl⟩
   clear F50
   refine fr_mv F51 168 5 (.inr rfl) rfl rfl (by decide) rfl fun _ F52=>?_
   clear F51
   refine fr_end ?_
   go_upto_region 47 with fail
   refine fr_region ?_
   refine fr_mv F52 5 169 (.inl rfl) rfl rfl (by decide) rfl fun _ F53=>?_
   clear F52
   refine fr2 F53 170 (.pointer (some ⟨wr.heap.size,0,none⟩)) w1 rfl (by decide) ?_ fun _ F54=>?_
   ·have e13:=F53.kn 13 _ rfl;go_wp2;exact ⟨_,rfl,rfl,rfl⟩
   clear F53
   refine fr_op0 F54 rfl (NewO wr wr.heap.size [.int .i64 (g1:Nat),.slice none 0 0,.slice none 0 0]) ?_ ?_
   ·have e170:=F54.kn 170 _ rfl
    have e169:=F54.kn 169 _ rfl
    have p0:=hb1.cell 0
    simp only [List.getElem?_cons_zero] at p0
    have f0:=hb1.frozen 0
    go_wp2
    have h9:=hb1.set_ 0 (.int .i64 (g1:Nat))
    first | exact ⟨undef,rfl,Ext.setNewX hx1 (Nat.le_refl _) _,h9,h9.lt⟩ | exact ⟨Ext.setNewX hx1 (Nat.le_refl _) _,h9,h9.lt⟩
   rintro a55 w2 ⟨hx2,hb2,hs2⟩ F55
   clear F54
   refine fr_end ?_
   have hrun9:=HRUN9.out
   clear hb1
   have hb1:=hb2
   go_upto_region 48 with fail
   have HPS1:=Lib.hid (HPS.out.keep hx2)
   have HX1:=Lib.hid hx2
   have c0:=hb1.cell 0
   have c1:=hb1.cell 1
   have c2:=hb1.cell 2
   simp only [List.getElem?_cons_zero,List.getElem?_cons_succ] at c0 c1 c2
   refine fr_region ?_
   refine fr_mv F55 4 171 (.inl rfl) rfl rfl (by decide) rfl fun _ F56=>?_
   clear F55
   refine fr2 F56 172 (.agg #[.int .i64 (g1:Nat),.slice none 0 0,.slice none 0 0]) w2 rfl (by decide) ?_ fun _ F57=>?_
   ·have e13:=F56.kn 13 _ rfl;go_wp2;exact ⟨_,rfl,rfl,rfl⟩
   clear F56
   refine fr_op F57 173 rfl (by decide) (fun v w'=>v=.slice (some ⟨w2.heap.size,0,none⟩) 1 1∧Ext w2 w' ∧ Rd w' 3 (some ⟨w2.heap.size,0,none⟩) 1 [.int .i64 (g1:Nat),.slice none 0 0,.slice none 0 0]) ?_ ?_
   ·have e172:=F57.kn 172 _ rfl
    go_wp2
    exact ⟨_,rfl,rfl,Ext.new1 _ _,rd_newS _ 3 1 _ _ rfl⟩
   rintro a58 _ w3 ⟨rfl,hx3,hr3⟩ F58
   clear F57
   refine fr_op F58 174 rfl (by decide) (fun v w'=>w'.ownsRow (w.heap.size+1) 98 3 v (N+1+1) (cellsO (st ++ [⟨⟨num,alts,items⟩,va,vi⟩]) ++ [.int .i64 (g1:Nat),.slice none 0 0,.slice none 0 0])∧Chg (Value.ownBlock (.slice (some ⟨gs,0,none⟩) (N+1) cap)).toList w3 w' ∧ (v.ownBlock=Value.ownBlock (.slice (some ⟨gs,0,none⟩) (N+1) cap)∨v.ownBlock=some w3.heap.size)) ?_ ?_
   ·have e171:=F58.kn 171 _ rfl
    have e173:=F58.kn 173 _ rfl
    have hrow9:w3.ownsRow (w.heap.size+1) 98 3 (.slice (some ⟨gs,0,none⟩) (N+1) cap) (N+1) (cellsO (st ++ [⟨⟨num,alts,items⟩,va,vi⟩])):=by have h9:=own_ext HPS1.out.row hx3;rwa [List.length_append,List.length_singleton,hN] at h9
    have hsz9:=(HPS1.out.head hN).2.2.2.1
    have hsz8:=hx3.size
    refine wpList_app2 elemOp rfl (.tmp 171) (.tmp 173) rfl (base:=w.heap.size+1) (v:=(.slice (some ⟨gs,0,none⟩) (N+1) cap)) (n:=N+1) (F58.ev (t:=171) rfl) hrow9 (by omega) (A:=some ⟨w2.heap.size,0,none⟩) (m:=1) (c:=1) (news:=[.int .i64 (g1:Nat),.slice none 0 0,.slice none 0 0]) (F58.ev (t:=173) rfl) hr3 (by intro u hu;simp at hu;rcases hu with rfl | rfl <;> rfl) (by omega) (by unfold maxLen;omega) ?_
    intro v' w' hown hg _ hat
    exact ⟨_,rfl,hown,grew_chg hg,hat⟩
   rintro a59 v9 w4 ⟨hown4,hc4,hat4⟩ F59
   clear F58
   refine fr_mv F59 174 4 (.inr rfl) rfl rfl (by decide) rfl fun _ F60=>?_
   clear F59
   refine fr_end ?_
   go_wp2
   obtain ⟨g9,c9,rfl,h91,h92,h93,h94,-,-⟩:=own_blkS hown4 (by omega)
   have hsz5:=HX1.out.size
   have hsz6:=hx3.size
   have hc5:Chg (Value.ownBlock (.slice (some ⟨gs,0,none⟩) (N+1) cap)).toList wr w4:=((Chg.of_ext HX1.out).trans (.of_ext hx3)).trans hc4
   have hps9:=PStk.push HPS.out g1 hc5 (fun k hk=>by rcases hat4 with h1 | h1;(exact .inl (h1.symm.trans hk));(rw [h1] at hk;cases hk;exact .inr (by omega))) (by rw [List.length_append,List.length_singleton,hN];exact hown4)
   have hxc:∀ k,k<w.heap.size+1→k ∉ (Value.ownBlock (.slice (some ⟨gs,0,none⟩) (N+1) cap)).toList:=fun k hk hm=>by
    have:=(HPS.out.row.lt k (by simpa using hm)).1;omega
   have hex9:Ext w w4:=by
    have h9:=HEX.out
    refine ⟨hc5.os.trans h9.os,hc5.tape.trans h9.tape,hc5.output.trans h9.output,Nat.le_trans h9.size hc5.size,fun k hk=>(hc5.block k (Nat.lt_of_lt_of_le hk h9.size) (hxc k (by omega))).trans (h9.block k hk)⟩
   have hb29:=Blk.chg HB2.out hc5 (hxc _ (by omega))
   refine HKK.out _ _ (Handed.intro (l.length-i1) (by omega) (HJ.out _ _ _ ⟨_,_,_,_,Fr.cons (Fr.cons (Fr.cons (Fr.cons (Fr.cons (Fr.cons F60.nil (F60.kn 7 _ rfl)) (F60.kn 6 _ rfl)) (F60.kn 5 _ rfl)) (F60.kn 4 _ rfl)) (F60.kn 2 _ rfl)) (F60.kn 0 _ rfl),g1,[],[],⟨num,alts,items⟩ :: rest,g1,i1,false,st ++ [⟨⟨num,alts,items⟩,va,vi⟩],.slice none 0 0,.slice none 0 0,g9,c9,N+1,rfl,by rw [List.length_append,List.length_singleton,hN],rfl,rfl,rfl,rfl,hps9,by rw [List.map_append,HMO.out,List.reverse_cons];rfl,hrun9,by omega,by omega,by omega,fun y hy=>?_,hex9,hb29⟩))
   rcases List.mem_append.1 hy with h9 | h9
   ·have h8:=HBD.out y h9;omega
   ·rw [List.mem_singleton.1 h9];exact ⟨Nat.zero_le _,Nat.zero_le _⟩
 ·have hz1':¬ (i1:Int)<(l.length:Int):=by omega
  have HST3:=Lib.hid (HST2.out.trans (if_neg (by rw [List.getElem?_eq_none (by omega)];exact fun h=>by cases h)))
  refine fr_region ?_
  refine fr_mv F37 7 140 (.inl rfl) rfl rfl (by decide) rfl fun _ F38=>?_
  clear F37
  refine fr_mv F38 0 141 (.inl rfl) rfl rfl (by decide) rfl fun _ F39=>?_
  clear F38
  refine fr2 F39 142 (.int .i64 (l.length:Nat)) w1 rfl (by decide) ?_ fun _ F40=>?_
  ·have e141:=F39.kn 141 _ rfl;go_wp2;exact ⟨_,rfl,rfl,rfl⟩
  clear F39
  refine fr2 F40 143 (.bool false) w1 rfl (by decide) ?_ fun _ F41=>?_
  ·have e140:=F40.kn 140 _ rfl;have e142:=F40.kn 142 _ rfl;go_wp2;exact ⟨_,rfl,rfl,rfl⟩
  clear F40
  refine fr_mv F41 143 144 (.inl rfl) rfl rfl (by decide) rfl fun _ F42=>?_
  clear F41
  refine fr2 F42 145 (undef) w1 rfl (by decide) ?_ fun _ F43=>?_
  ·have e144:=F42.kn 144 _ rfl;go_wp2;exact ⟨_,rfl,rfl,rfl⟩
  clear F42
  refine fr2 F43 146 (undef) w1 rfl (by decide) ?_ fun _ F44=>?_
  ·have e144:=F43.kn 144 _ rfl;go_wp2;exact ⟨_,rfl,rfl,rfl⟩
  clear F43
  refine fr2 F44 147 (undef) w1 rfl (by decide) ?_ fun _ F45=>?_
  ·have e144:=F44.kn 144 _ rfl;go_wp2;exact ⟨_,rfl,rfl,rfl⟩
  clear F44
  refine fr2 F45 148 (undef) w1 rfl (by decide) ?_ fun _ F46=>?_
  ·have e144:=F45.kn 144 _ rfl;go_wp2;exact ⟨_,rfl,rfl,rfl⟩
  clear F45
  refine fr2 F46 149 (.bool false) w1 rfl (by decide) ?_ fun _ F47=>?_
  ·have e144:=F46.kn 144 _ rfl;have e148:=F46.kn 148 _ rfl;go_wp2;exact ⟨_,rfl,rfl,rfl⟩
  clear F46
  refine fr_end ?_
  go_upto_if 149 with fail
  refine wp_cond_false (F47.ev (t:=149) rfl) ?_
  go_upto_region 44 with fail
  by_cases hg9:gr=9
  ·have hR:=runs_fin HRUN.out (HST3.out.trans (if_pos hg9))
   subst hR
   have hg9':((gr:Int) == 9)=true:=by rw [hg9];rfl
   have HG9:=Lib.hid hg9
   clear hg9
   refine fr_region ?_
   refine fr_mv F47 5 164 (.inl rfl) rfl rfl (by decide) rfl fun _ F48=>?_
   clear F47
   refine fr2 F48 165 (.bool true) w1 rfl (by decide) ?_ fun _ F49=>?_
   ·have e164:=F48.kn 164 _ rfl;go_wp2;exact ⟨_,rfl,rfl,rfl⟩
   clear F48
   refine fr_end ?_
   go_upto_if 165 with fail
   refine wp_cond_true (F49.ev (t:=165) rfl) ?_
   go_upto_region 45 with fail
   go_upto_region 45 with fail
   refine fr_region ?_
   refine fr2 F49 166 (.agg (dnC 0 0 false (fun _=>false) none 0 0).toArray) w1 rfl (by decide) ?_ fun _ F50=>?_
   ·refine build_z rfl rfl ?_
    exact ⟨_,rfl,rfl,rfl⟩
   clear F49
   refine fr_op0 F50 rfl (At1 ((w1.setRow w.heap.size (dnC 0 0 false (fun _=>false) none 0 0).toArray))) ?_ ?_
   ·have e2:=F50.kn 2 _ rfl
    have e166:=F50.kn 166 _ rfl
    refine store_dn rfl (.tmp 2) (.tmp 166) rfl (g:=w.heap.size) (F50.ev (t:=2) rfl) (F50.ev (t:=166) rfl) (HB2.out.keep hx1) HZ8.out ?_
    exact ⟨_,rfl,rfl⟩
   rintro a51 _ rfl F51
   clear F50
   refine fr_as F51 3 (.inr rfl) rfl rfl (by decide) fun _ F52=>?_
   clear F51
   refine fr_end ?_
   go_wp2
   exact HRET.out _ _ <| bodyPost_ret (v:=.tuple #[.agg (dnC 0 0 false (fun _=>false) none 0 0).toArray,.int .i64 2]) (results_dn2 rfl (F52.gd (t:=2) rfl) (Blk.row (HB2.out.keep hx1) _) (dn_len _ _ _ _ _ _ _) (F52.gd (t:=3) rfl)) F52.defers ⟨Ext.row (HEX.out.trans hx1) _ _ (Nat.le_refl _),rfl⟩
  have hg9':((gr:Int) == 9)=false:=by rw [beq_eq_false_iff_ne];omega
  obtain ⟨g1,hg1⟩:∃ g1,gr+1=g1:=⟨_,rfl⟩
  have hrun9:=runs_go HRUN.out (HST3.out.trans (if_neg hg9))
  rw [hg1] at hrun9
  have HG1:=Lib.hid hg1
  have hg19:g1≤9:=by omega
  have HRUN9:=Lib.hid hrun9
  clear hg1 hrun9
  refine fr_region ?_
  refine fr_mv F47 5 164 (.inl rfl) rfl rfl (by decide) rfl fun _ F48=>?_
  clear F47
  refine fr2 F48 165 (.bool false) w1 rfl (by decide) ?_ fun _ F49=>?_
  ·have e164:=F48.kn 164 _ rfl;go_wp2;exact ⟨_,rfl,rfl,rfl⟩
  clear F48
  refine fr_end ?_
  go_upto_if 165 with fail
  refine wp_cond_false (F49.ev (t:=165) rfl) ?_
  go_upto_region 46 with fail
  refine fr_region ?_
  refine fr_mv F49 5 167 (.inl rfl) rfl rfl (by decide) rfl fun _ F50=>?_
  clear F49
  refine fr2 F50 168 (.int .i64 (g1:Nat)) w1 rfl (by decide) ?_ fun _ F51=>?_
  ·have e167:=F50.kn 167 _ rfl
   have h9:=HG1.out
   have hw:IntKind.i64.wrap ((gr:Int)+1)=(gr:Int)+1:=wrap_id (by omega) (by omega)
   go_wp2
   first | exact ⟨_,rfl,rfl,rfl⟩ | exact ⟨_,rfl,congrArg (Value.int .i64) (by omega),rfl⟩
  clear F50
  refine fr_mv F51 168 5 (.inr rfl) rfl rfl (by decide) rfl fun _ F52=>?_
  clear F51
  refine fr_end ?_
  go_upto_region 47 with fail
  refine fr_region ?_
  refine fr_mv F52 5 169 (.inl rfl) rfl rfl (by decide) rfl fun _ F53=>?_
  clear F52
  refine fr2 F53 170 (.pointer (some ⟨wr.heap.size,0,none⟩)) w1 rfl (by decide) ?_ fun _ F54=>?_
  ·have e13:=F53.kn 13 _ rfl;go_wp2;exact ⟨_,rfl,rfl,rfl⟩
  clear F53
  refine fr_op0 F54 rfl (NewO wr wr.heap.size [.int .i64 (g1:Nat),.slice none 0 0,.slice none 0 0]) ?_ ?_
  ·have e170:=F54.kn 170 _ rfl
   have e169:=F54.kn 169 _ rfl
   have p0:=hb1.cell 0
   simp only [List.getElem?_cons_zero] at p0
   have f0:=hb1.frozen 0
   go_wp2
   have h9:=hb1.set_ 0 (.int .i64 (g1:Nat))
   first | exact ⟨undef,rfl,Ext.setNewX hx1 (Nat.le_refl _) _,h9,h9.lt⟩ | exact ⟨Ext.setNewX hx1 (Nat.le_refl _) _,h9,h9.lt⟩
  rintro a55 w2 ⟨hx2,hb2,hs2⟩ F55
  clear F54
  refine fr_end ?_
  have hrun9:=HRUN9.out
  clear hb1
  have hb1:=hb2
  go_upto_region 48 with fail
  have HPS1:=Lib.hid (HPS.out.keep hx2)
  have HX1:=Lib.hid hx2
  have c0:=hb1.cell 0
  have c1:=hb1.cell 1
  have c2:=hb1.cell 2
  simp only [List.getElem?_cons_zero,List.getElem?_cons_succ] at c0 c1 c2
  refine fr_region ?_
  refine fr_mv F55 4 171 (.inl rfl) rfl rfl (by decide) rfl fun _ F56=>?_
  clear F55
  refine fr2 F56 172 (.agg #[.int .i64 (g1:Nat),.slice none 0 0,.slice none 0 0]) w2 rfl (by decide) ?_ fun _ F57=>?_
  ·have e13:=F56.kn 13 _ rfl;go_wp2;exact ⟨_,rfl,rfl,rfl⟩
  clear F56
  refine fr_op F57 173 rfl (by decide) (fun v w'=>v=.slice (some ⟨w2.heap.size,0,none⟩) 1 1∧Ext w2 w' ∧ Rd w' 3 (some ⟨w2.heap.size,0,none⟩) 1 [.int .i64 (g1:Nat),.slice none 0 0,.slice none 0 0]) ?_ ?_
  ·have e172:=F57.kn 172 _ rfl
   go_wp2
   exact ⟨_,rfl,rfl,Ext.new1 _ _,rd_newS _ 3 1 _ _ rfl⟩
  rintro a58 _ w3 ⟨rfl,hx3,hr3⟩ F58
  clear F57
  refine fr_op F58 174 rfl (by decide) (fun v w'=>w'.ownsRow (w.heap.size+1) 98 3 v (N+1+1) (cellsO (st ++ [⟨⟨num,alts,items⟩,va,vi⟩]) ++ [.int .i64 (g1:Nat),.slice none 0 0,.slice none 0 0])∧Chg (Value.ownBlock (.slice (some ⟨gs,0,none⟩) (N+1) cap)).toList w3 w' ∧ (v.ownBlock=Value.ownBlock (.slice (some ⟨gs,0,none⟩) (N+1) cap)∨v.ownBlock=some w3.heap.size)) ?_ ?_
  ·have e171:=F58.kn 171 _ rfl
   have e173:=F58.kn 173 _ rfl
   have hrow9:w3.ownsRow (w.heap.size+1) 98 3 (.slice (some ⟨gs,0,none⟩) (N+1) cap) (N+1) (cellsO (st ++ [⟨⟨num,alts,items⟩,va,vi⟩])):=by have h9:=own_ext HPS1.out.row hx3;rwa [List.length_append,List.length_singleton,hN] at h9
   have hsz9:=(HPS1.out.head hN).2.2.2.1
   have hsz8:=hx3.size
   refine wpList_app2 elemOp rfl (.tmp 171) (.tmp 173) rfl (base:=w.heap.size+1) (v:=(.slice (some ⟨gs,0,none⟩) (N+1) cap)) (n:=N+1) (F58.ev (t:=171) rfl) hrow9 (by omega) (A:=some ⟨w2.heap.size,0,none⟩) (m:=1) (c:=1) (news:=[.int .i64 (g1:Nat),.slice none 0 0,.slice none 0 0]) (F58.ev (t:=173) rfl) hr3 (by intro u hu;simp at hu;rcases hu with rfl | rfl <;> rfl) (by omega) (by unfold maxLen;omega) ?_
   intro v' w' hown hg _ hat
   exact ⟨_,rfl,hown,grew_chg hg,hat⟩
  rintro a59 v9 w4 ⟨hown4,hc4,hat4⟩ F59
  clear F58
  refine fr_mv F59 174 4 (.inr rfl) rfl rfl (by decide) rfl fun _ F60=>?_
  clear F59
  refine fr_end ?_
  go_wp2
  obtain ⟨g9,c9,rfl,h91,h92,h93,h94,-,-⟩:=own_blkS hown4 (by omega)
  have hsz5:=HX1.out.size
  have hsz6:=hx3.size
  have hc5:Chg (Value.ownBlock (.slice (some ⟨gs,0,none⟩) (N+1) cap)).toList wr w4:=((Chg.of_ext HX1.out).trans (.of_ext hx3)).trans hc4
  have hps9:=PStk.push HPS.out g1 hc5 (fun k hk=>by rcases hat4 with h1 | h1;(exact .inl (h1.symm.trans hk));(rw [h1] at hk;cases hk;exact .inr (by omega))) (by rw [List.length_append,List.length_singleton,hN];exact hown4)
  have hxc:∀ k,k<w.heap.size+1→k ∉ (Value.ownBlock (.slice (some ⟨gs,0,none⟩) (N+1) cap)).toList:=fun k hk hm=>by
   have:=(HPS.out.row.lt k (by simpa using hm)).1;omega
  have hex9:Ext w w4:=by
   have h9:=HEX.out
   refine ⟨hc5.os.trans h9.os,hc5.tape.trans h9.tape,hc5.output.trans h9.output,Nat.le_trans h9.size hc5.size,fun k hk=>(hc5.block k (Nat.lt_of_lt_of_le hk h9.size) (hxc k (by omega))).trans (h9.block k hk)⟩
  have hb29:=Blk.chg HB2.out hc5 (hxc _ (by omega))
  refine HKK.out _ _ (Handed.intro (l.length-i1) (by omega) (HJ.out _ _ _ ⟨_,_,_,_,Fr.cons (Fr.cons (Fr.cons (Fr.cons (Fr.cons (Fr.cons F60.nil (F60.kn 7 _ rfl)) (F60.kn 6 _ rfl)) (F60.kn 5 _ rfl)) (F60.kn 4 _ rfl)) (F60.kn 2 _ rfl)) (F60.kn 0 _ rfl),g1,[],[],⟨num,alts,items⟩ :: rest,g1,i1,false,st ++ [⟨⟨num,alts,items⟩,va,vi⟩],.slice none 0 0,.slice none 0 0,g9,c9,N+1,rfl,by rw [List.length_append,List.length_singleton,hN],rfl,rfl,rfl,rfl,hps9,by rw [List.map_append,HMO.out,List.reverse_cons];rfl,hrun9,by omega,by omega,by omega,fun y hy=>?_,hex9,hb29⟩))
  rcases List.mem_append.1 hy with h9 | h9
  ·have h8:=HBD.out y h9;omega
  ·rw [List.mem_singleton.1 h9];exact ⟨Nat.zero_le _,Nat.zero_le _⟩
set_option maxHeartbeats 40000000 in
set_option maxRecDepth 20000 in
theorem way4 (l:List UInt8) (R:PR) (w:World) (_:(l.length:Int)≤120) (HZ8:Hid (Tryz.zeroCells38.toList.length=260)) (_:Hid (R ≠ .out)) (HL:Hid (l.length≤120)) (Q:Exit→Act→World→Prop)
  (HRET:Hid (∀ a w',bodyPost Tryz.prog Tryz.f30 (fun e w'=>RefRes w R e w') .ret a w' → Q .ret a w')) (gk:Nat) (a0:Act) (wr:World) (J:Nat→Act→World→Prop) (K:Act→World→Prop)
  (HJ:Hid (∀ k a' w',LInv l R w k a' w' → J k a' w')) (HKK:Hid (∀ a' w',Handed J gk a' w' → K a' w')) (sv gv av iv:Value)
  (F0:Fr 280 [(0,.string ⟨l.toArray⟩),(2,.pointer (some ⟨w.heap.size,0,none⟩)),(4,sv),(5,gv),(6,av),(7,iv)] a0) (hrel:PInv l R w gk sv gv av iv wr)
  (i:Nat) (hiv:iv=.int .i64 (i:Nat)) (c:UInt8) (hlt:i<l.length) (hc:l[i]'hlt=c) (hrep:¬ isRep c) (k124:c ≠ 124) (k40:c ≠ 40) (k41:c=41) :
  Code.wp Tryz.prog bodyP (Exit.then K Q) a0 wr:=by
 have H9hrep:=Lib.hid hrep
 have H9k124:=Lib.hid k124
 have H9k40:=Lib.hid k40
 have H9k41:=Lib.hid k41
 clear hrep k124 k40 k41
 unfold bodyP
 unfold Tryz.f30
 dsimp only [loopIn,Option.getD,Option.bind]
 obtain ⟨num,alts,items,rest,gr,i9,ag,st,va,vi,gs,cap,N,rfl,hN,rfl,rfl,rfl,rfl,hps,hmo,hrun,hil,hgr,hN8,hbd,hext,hb2⟩:=hrel
 obtain rfl:i=i9:=by
  simp only [Value.int.injEq,true_and] at hiv
  omega
 clear hiv
 obtain ⟨hcap,hcm,hBg,hglt,hfr,y0,y1,y2⟩:=hps.head hN
 dsimp only at y0 y1 y2
 have HPS:=Lib.hid hps
 have HMO:=Lib.hid hmo
 have HRUN:=Lib.hid hrun
 have HBD:=Lib.hid hbd
 have HEX:=Lib.hid hext
 have HB2:=Lib.hid hb2
 clear hps hmo hrun hbd hext hb2
 have hlt':(i:Int)<(l.length:Int):=by omega
 have HLI:=Lib.hid (show l[i]?=some c by rw [List.getElem?_eq_getElem hlt,hc])
 go_upto_region 6 with fail
 refine fr_region ?_
 refine fr_mv F0 7 24 (.inl rfl) rfl rfl (by decide) rfl fun _ F1=>?_
 clear F0
 refine fr_mv F1 0 25 (.inl rfl) rfl rfl (by decide) rfl fun _ F2=>?_
 clear F1
 refine fr2 F2 26 (.int .i64 (l.length:Nat)) wr rfl (by decide) ?_ fun _ F3=>?_
 ·have e25:=F2.kn 25 _ rfl;go_wp2;exact ⟨_,rfl,rfl,rfl⟩
 clear F2
 refine fr2 F3 27 (.bool true) wr rfl (by decide) ?_ fun _ F4=>?_
 ·have e24:=F3.kn 24 _ rfl;have e26:=F3.kn 26 _ rfl;go_wp2;exact ⟨_,rfl,rfl,rfl⟩
 clear F3
 refine fr_end ?_
 go_upto_if 27 with fail
 refine wp_cond_true (F4.ev (t:=27) rfl) ?_
 go_upto_region 7 with fail
 refine fr_region ?_
 refine fr_mv F4 4 28 (.inl rfl) rfl rfl (by decide) rfl fun _ F5=>?_
 clear F4
 refine fr2 F5 29 (.int .i64 ((N:Int)+1)) wr rfl (by decide) ?_ fun _ F6=>?_
 ·have e28:=F5.kn 28 _ rfl;go_wp2;exact ⟨_,rfl,rfl,rfl⟩
 clear F5
 refine fr2 F6 30 (.int .i64 (N:Nat)) wr rfl (by decide) ?_ fun _ F7=>?_
 ·have e29:=F6.kn 29 _ rfl;go_wp2;exact ⟨_,rfl,rfl,rfl⟩
 clear F6
 refine fr_mv F7 30 8 (.inr rfl) rfl rfl (by decide) rfl fun _ F8=>?_
 clear F7
 refine fr_end ?_
 go_upto_region 8 with fail
 refine fr_region ?_
 refine fr_mv F8 0 31 (.inl rfl) rfl rfl (by decide) rfl fun _ F9=>?_
 clear F8
 refine fr_mv F9 7 32 (.inl rfl) rfl rfl (by decide) rfl fun _ F10=>?_
 clear F9
 refine fr2 F10 33 (.int .u8 (c.toNat:Nat)) wr rfl (by decide) ?_ fun _ F11=>?_
 ·have e31:=F10.kn 31 _ rfl;have e32:=F10.kn 32 _ rfl;go_wp2;exact ⟨_,rfl,rfl,rfl⟩
 clear F10
 refine fr_mv F11 33 9 (.inr rfl) rfl rfl (by decide) rfl fun _ F12=>?_
 clear F11
 refine fr_end ?_
 have hrep:=H9hrep.out
 have k124:=H9k124.out
 have k40:=H9k40.out
 have k41:=H9k41.out
 clear H9hrep H9k124 H9k40 H9k41
 have z42:((c.toNat:Int) == 42)=false:=u8_ne (fun h=>hrep (.inl h))
 have z43:((c.toNat:Int) == 43)=false:=u8_ne (fun h=>hrep (.inr (.inl h)))
 have z63:((c.toNat:Int) == 63)=false:=u8_ne (fun h=>hrep (.inr (.inr h)))
 have z124:((c.toNat:Int) == 124)=false:=u8_ne k124
 have z40:((c.toNat:Int) == 40)=false:=u8_ne k40
 have z41:((c.toNat:Int) == 41)=true:=by rw [k41];rfl
 have HLK:=Lib.hid (show l[i]?=some 41 from by rw [HLI.out,k41])
 clear hrep k124 k40 k41
 obtain ⟨⟨csa,ha,hka⟩,⟨csi,hi,hki⟩⟩:=HPS.out.each _ (List.mem_append.2 (.inr (List.mem_singleton.2 rfl)))
 dsimp only at ha hka hi hki
 have hbd9:=HBD.out _ (List.mem_append.2 (.inr (List.mem_singleton.2 rfl)))
 dsimp only at hbd9
 obtain ⟨na,hna⟩:∃ na,alts.length=na:=⟨_,rfl⟩
 obtain ⟨ni,hni⟩:∃ ni,items.length=ni:=⟨_,rfl⟩
 rw [hna] at ha hbd9
 rw [hni] at hi hbd9
 obtain ⟨Aa,ca,rfl,hca,hma,hRa⟩:=own_rd ha
 obtain ⟨Ai,ci,rfl,hci,hmi,hRi⟩:=own_rd hi
 have HA:=Lib.hid ha
 have HKA:=Lib.hid hka
 have HI:=Lib.hid hi
 have HKI:=Lib.hid hki
 have HRA:=Lib.hid hRa
 have HRI:=Lib.hid hRi
 have HNA:=Lib.hid hna
 have HNI:=Lib.hid hni
 have hn120:na≤120∧ni≤120:=by have:=HL.out;omega
 have HCC:=Lib.hid (And.intro (And.intro hca hma) (And.intro hci hmi))
 clear ha hka hi hki hRa hRi hna hni hbd9 hca hma hci hmi
 go_upto_region 9 with fail
 refine fr_region ?_
 refine fr_mv F12 9 34 (.inl rfl) rfl rfl (by decide) rfl fun _ F13=>?_
 clear F12
 refine fr2 F13 35 (.bool false) wr rfl (by decide) ?_ fun _ F14=>?_
 ·have e34:=F13.kn 34 _ rfl;go_wp2;exact ⟨_,rfl,rfl,rfl⟩
 clear F13
 refine fr_mv F14 35 36 (.inl rfl) rfl rfl (by decide) rfl fun _ F15=>?_
 clear F14
 refine fr2 F15 37 (.int .u8 (c.toNat:Nat)) wr rfl (by decide) ?_ fun _ F16=>?_
 ·have e9:=F15.kn 9 _ rfl;have e36:=F15.kn 36 _ rfl;go_wp2;exact ⟨_,rfl,rfl,rfl⟩
 clear F15
 refine fr2 F16 38 (.bool false) wr rfl (by decide) ?_ fun _ F17=>?_
 ·have e37:=F16.kn 37 _ rfl;have e36:=F16.kn 36 _ rfl;go_wp2;exact ⟨_,rfl,rfl,rfl⟩
 clear F16
 refine fr2 F17 39 (.bool false) wr rfl (by decide) ?_ fun _ F18=>?_
 ·have e36:=F17.kn 36 _ rfl;have e38:=F17.kn 38 _ rfl;go_wp2;exact ⟨_,rfl,rfl,rfl⟩
 clear F17
 refine fr_mv F18 39 40 (.inl rfl) rfl rfl (by decide) rfl fun _ F19=>?_
 clear F18
 refine fr2 F19 41 (.int .u8 (c.toNat:Nat)) wr rfl (by decide) ?_ fun _ F20=>?_
 ·have e9:=F19.kn 9 _ rfl;have e40:=F19.kn 40 _ rfl;go_wp2;exact ⟨_,rfl,rfl,rfl⟩
 clear F19
 refine fr2 F20 42 (.bool false) wr rfl (by decide) ?_ fun _ F21=>?_
 ·have e41:=F20.kn 41 _ rfl;have e40:=F20.kn 40 _ rfl;go_wp2;exact ⟨_,rfl,rfl,rfl⟩
 clear F20
 refine fr2 F21 43 (.bool false) wr rfl (by decide) ?_ fun _ F22=>?_
 ·have e40:=F21.kn 40 _ rfl;have e42:=F21.kn 42 _ rfl;go_wp2;exact ⟨_,rfl,rfl,rfl⟩
 clear F21
 refine fr_end ?_
 go_upto_if 43 with fail
 refine wp_cond_false (F22.ev (t:=43) rfl) ?_
 go_upto_region 27 with fail
 refine fr_region ?_
 refine fr_as F22 6 (.inr rfl) rfl rfl (by decide) fun _ F23=>?_
 clear F22
 refine fr_end ?_
 go_upto_region 28 with fail
 refine fr_region ?_
 refine fr_mv F23 9 105 (.inl rfl) rfl rfl (by decide) rfl fun _ F24=>?_
 clear F23
 refine fr_end ?_
 go_upto_region 29 with fail
 refine fr_region ?_
 refine fr2 F24 107 (.bool false) wr rfl (by decide) ?_ fun _ F25=>?_
 ·have e105:=F24.kn 105 _ rfl;go_wp2;exact ⟨_,rfl,rfl,rfl⟩
 clear F24
 refine fr_mv F25 107 106 (.inr rfl) rfl rfl (by decide) rfl fun _ F26=>?_
 clear F25
 refine fr_end ?_
 go_upto_if 106 with fail
 refine wp_cond_false (F26.ev (t:=106) rfl) ?_
 go_upto_region 33 with fail
 refine fr_region ?_
 refine fr2 F26 132 (.bool false) wr rfl (by decide) ?_ fun _ F27=>?_
 ·have e105:=F26.kn 105 _ rfl;go_wp2;exact ⟨_,rfl,rfl,rfl⟩
 clear F26
 refine fr_mv F27 132 131 (.inr rfl) rfl rfl (by decide) rfl fun _ F28=>?_
 clear F27
 refine fr_end ?_
 go_upto_if 131 with fail
 refine wp_cond_false (F28.ev (t:=131) rfl) ?_
 go_upto_region 49 with fail
 refine fr_region ?_
 refine fr2 F28 176 (.bool true) wr rfl (by decide) ?_ fun _ F29=>?_
 ·have e105:=F28.kn 105 _ rfl;go_wp2;exact ⟨_,rfl,rfl,rfl⟩
 clear F28
 refine fr_mv F29 176 175 (.inr rfl) rfl rfl (by decide) rfl fun _ F30=>?_
 clear F29
 refine fr_end ?_
 go_upto_if 175 with fail
 refine wp_cond_true (F30.ev (t:=175) rfl) ?_
 go_upto_region 50 with fail
 by_cases hN0:N=0
 ·have hst0:st=[]:=List.eq_nil_of_length_eq_zero (by rw [hN,hN0])
  have hr0:rest=[]:=by have:=HMO.out;rw [hst0] at this;simpa using this.symm
  subst hr0
  have hR:=runs_fin HRUN.out (stp_shut0 HLK.out)
  subst hR
  have z0:((N:Int) == 0)=true:=by rw [hN0];rfl
  have HN0:=Lib.hid hN0
  clear hN0 hst0
  refine fr_region ?_
  refine fr_mv F30 8 177 (.inl rfl) rfl rfl (by decide) rfl fun _ F31=>?_
  clear F30
  refine fr2 F31 178 (.bool true) wr rfl (by decide) ?_ fun _ F32=>?_
  ·have e177:=F31.kn 177 _ rfl;go_wp2;exact ⟨_,rfl,rfl,rfl⟩
  clear F31
  refine fr_end ?_
  go_upto_if 178 with fail
  refine wp_cond_true (F32.ev (t:=178) rfl) ?_
  go_upto_region 51 with fail
  go_upto_region 51 with fail
  refine fr_region ?_
  refine fr2 F32 179 (.agg (dnC 0 0 false (fun _=>false) none 0 0).toArray) wr rfl (by decide) ?_ fun _ F33=>?_
  ·refine build_z rfl rfl ?_
   exact ⟨_,rfl,rfl,rfl⟩
  clear F32
  refine fr_op0 F33 rfl (At1 ((wr.setRow w.heap.size (dnC 0 0 false (fun _=>false) none 0 0).toArray))) ?_ ?_
  ·have e2:=F33.kn 2 _ rfl
   have e179:=F33.kn 179 _ rfl
   refine store_dn rfl (.tmp 2) (.tmp 179) rfl (g:=w.heap.size) (F33.ev (t:=2) rfl) (F33.ev (t:=179) rfl) (HB2.out) HZ8.out ?_
   exact ⟨_,rfl,rfl⟩
  rintro a34 _ rfl F34
  clear F33
  refine fr_as F34 3 (.inr rfl) rfl rfl (by decide) fun _ F35=>?_
  clear F34
  refine fr_end ?_
  go_wp2
  exact HRET.out _ _ <| bodyPost_ret (v:=.tuple #[.agg (dnC 0 0 false (fun _=>false) none 0 0).toArray,.int .i64 5]) (results_dn2 rfl (F35.gd (t:=2) rfl) (Blk.row (HB2.out) _) (dn_len _ _ _ _ _ _ _) (F35.gd (t:=3) rfl)) F35.defers ⟨Ext.row (HEX.out) _ _ (Nat.le_refl _),rfl⟩
 have z0:((N:Int) == 0)=false:=by rw [beq_eq_false_iff_ne];omega
 refine fr_region ?_
 refine fr_mv F30 8 177 (.inl rfl) rfl rfl (by decide) rfl fun _ F31=>?_
 clear F30
 refine fr2 F31 178 (.bool false) wr rfl (by decide) ?_ fun _ F32=>?_
 ·have e177:=F31.kn 177 _ rfl;go_wp2;exact ⟨_,rfl,rfl,rfl⟩
 clear F31
 refine fr_end ?_
 go_upto_if 178 with fail
 refine wp_cond_false (F32.ev (t:=178) rfl) ?_
 go_upto_region 52 with fail
 clear z0
 obtain ⟨p,r,hrp⟩:∃ p r,rest=p :: r:=by
  cases rest with
  | nil=>exact absurd (by have:=congrArg List.length HMO.out;simp at this;rw [← hN,this];rfl) hN0
  | cons p r=>exact ⟨p,r,rfl⟩
 subst hrp
 obtain ⟨st,z,rfl,hz,hmo1⟩:=ofCfg_pop HMO.out
 obtain ⟨N,rfl⟩:∃ n,N=n+1:=⟨N-1,by omega⟩
 have hN1:st.length=N:=by rw [List.length_append,List.length_singleton] at hN;omega
 have hpsL:=HPS.out
 rw [← hN] at hpsL
 obtain ⟨hpsP,hopv,hdis⟩:=PStk.pop hpsL (vs':=.slice (some ⟨gs,0,none⟩) (st ++ [z]).length cap) rfl hpsL.cutRow
 rw [hN] at hpsP hopv hdis
 obtain ⟨⟨ca7,ha7,hka7⟩,⟨ci7,hi7,hki7⟩⟩:=hopv
 dsimp only at ha7 hka7 hi7 hki7
 rw [HNA.out] at ha7
 rw [HNI.out] at hi7
 obtain ⟨A7,c7,e7,hc71,hc72,hra7⟩:=own_rd ha7
 simp only [Value.slice.injEq] at e7
 obtain ⟨rfl,-,rfl⟩:=e7
 obtain ⟨A8,c8,e8,hc81,hc82,hri7⟩:=own_rd hi7
 simp only [Value.slice.injEq] at e8
 obtain ⟨rfl,-,rfl⟩:=e8
 have HPSP:=Lib.hid hpsP
 have HKA7:=Lib.hid hka7
 have HKI7:=Lib.hid hki7
 have HRA7:=Lib.hid hra7
 have HRI7:=Lib.hid hri7
 have HDIS:=Lib.hid hdis
 have HI7:=Lib.hid hi7
 have HSI7:=Lib.hid (show ∀ b q x,Ai=some ⟨b,q,x⟩→0<items.length→(w.heap.size+1≤b∧b ∉ liveO (.slice (some ⟨gs,0,none⟩) (N+1) cap) (st ++ [z])) from fun b q x e _=>by subst e;exact ⟨(hi7.lt b rfl).1,hdis b (by unfold OpS.live;rw [List.mem_append];exact .inr (by simp [Value.ownBlock]))⟩)
 have HLV7:=Lib.hid (show ∀ b,wr.heap.size≤b→(w.heap.size+1≤b∧b ∉ liveO (.slice (some ⟨gs,0,none⟩) (N+1) cap) (st ++ [z])) from fun b hb=>⟨by have:=HEX.out.size;have:=HB2.out.lt;omega,fun hm=>by have:=hpsP.liveLt b hm;omega⟩)
 clear hpsL hpsP hdis ha7 hka7 hi7 hki7 hra7 hri7 hc71 hc72 hc81 hc82
 refine fr_region ?_
 refine fr_mv F32 4 180 (.inl rfl) rfl rfl (by decide) rfl fun _ F33=>?_
 clear F32
 refine fr_mv F33 8 181 (.inl rfl) rfl rfl (by decide) rfl fun _ F34=>?_
 clear F33
 refine fr2 F34 182 (.pointer (some ⟨gs,(N+1)*3,none⟩)) wr rfl (by decide) ?_ fun _ F35=>?_
 ·have e180:=F34.kn 180 _ rfl;have e181:=F34.kn 181 _ rfl;go_wp2;exact ⟨_,rfl,rfl,rfl⟩
 clear F34
 refine fr2 F35 183 (.agg #[.int .i64 (num:Nat),.slice Aa na ca,.slice Ai ni ci]) wr rfl (by decide) ?_ fun _ F36=>?_
 ·have e182:=F35.kn 182 _ rfl;go_wp2;exact ⟨_,rfl,rfl,rfl⟩
 clear F35
 refine fr_op F36 184 rfl (by decide) (fun v w'=>∃ k9 m9 z9 p9 B9 n9 c9,v=.agg (dnC k9 m9 z9 p9 B9 n9 c9).toArray∧DNodeV (fun b=>w.heap.size+1≤b∧b ∉ liveO (.slice (some ⟨gs,0,none⟩) (N+1) cap) (st ++ [z])) w' (closeT ⟨num,alts,items⟩) (dnC k9 m9 z9 p9 B9 n9 c9)∧Ext wr w') ?_ ?_
 ·have e183:=F36.kn 183 _ rfl
  go_wp2_with (go_at_call 54;refine (show Calls Tryz.prog 54 #[.agg #[.int .i64 (num:Nat),.slice Aa na ca,.slice Ai ni ci]] wr _ from by have h8:=refClosed (fun b=>w.heap.size+1≤b∧b ∉ liveO (.slice (some ⟨gs,0,none⟩) (N+1) cap) (st ++ [z])) ⟨num,alts,items⟩ Aa Ai ca ci ca7 ci7 wr (by rw [HNA.out];omega) (by rw [HNA.out];exact HRA7.out) HKA7.out (by rw [HNI.out];exact HCC.out.2.1) HCC.out.2.2 (by rw [HNI.out];exact HRI7.out) HKI7.out HSI7.out HLV7.out;dsimp only at h8;rw [HNA.out,HNI.out] at h8;exact h8).mono ?_;rintro e w2 ⟨lc,rfl,hdc,hx2⟩;obtain ⟨k9,m9,z9,p9,B9,n9,c9,rfl⟩:=dnodeV_form hdc)
  exact ⟨_,rfl,k9,m9,z9,p9,B9,n9,c9,rfl,hdc,hx2⟩
 rintro a37 _ w2 ⟨k9,m9,z9,p9,B9,n9,c9,rfl,hdc,hx2⟩ F37
 clear F36
 refine fr_op F37 14 rfl (by decide) (At2 (.pointer (some ⟨w2.heap.size,0,none⟩)) (w2.alloc (.cells Tryz.zeroCells38 38))) ?_ ?_
 ·go_wp2
  exact ⟨_,rfl,rfl,rfl⟩
 rintro a38 _ _ ⟨rfl,rfl⟩ F38
 clear F37
 refine fr_op0 F38 rfl (fun w'=>Ext w2 w' ∧ Blk w' w2.heap.size 38 (dnC k9 m9 z9 p9 B9 n9 c9)) ?_ ?_
 ·have e14:=F38.kn 14 _ rfl
  have e184:=F38.kn 184 _ rfl
  refine store_dn_new rfl (.tmp 14) (.tmp 184) rfl (F38.ev (t:=14) rfl) (F38.ev (t:=184) rfl) zsize40 ?_
  exact ⟨_,rfl,Ext.new1 _ _,Blk.newL _ _ _⟩
 rintro a39 w3 ⟨hx3,hb14⟩ F39
 clear F38
 refine fr_end ?_
 go_upto_region 53 with fail
 refine fr_region ?_
 refine fr_mv F39 4 185 (.inl rfl) rfl rfl (by decide) rfl fun _ F40=>?_
 clear F39
 refine fr_mv F40 8 186 (.inl rfl) rfl rfl (by decide) rfl fun _ F41=>?_
 clear F40
 refine fr2 F41 187 (.slice (some ⟨gs,0,none⟩) (N+1) cap) w3 rfl (by decide) ?_ fun _ F42=>?_
 ·have e185:=F41.kn 185 _ rfl;have e186:=F41.kn 186 _ rfl;go_wp2;exact ⟨_,rfl,rfl,rfl⟩
 clear F41
 refine fr_mv F42 187 4 (.inr rfl) rfl rfl (by decide) rfl fun _ F43=>?_
 clear F42
 refine fr_end ?_
 have hrun9:=runs_go HRUN.out (stp_shut HLK.out)
 obtain ⟨TC,hTC⟩:∃ t,closeT ⟨num,alts,items⟩=t:=⟨_,rfl⟩
 rw [hTC] at hrun9 hdc
 clear hTC
 obtain ⟨po,va,vi⟩:=z
 obtain rfl:po=p:=hz
 obtain ⟨num,alts,items⟩:=po
 dsimp only at hrun9
 have HRUN9:=Lib.hid hrun9
 have HLW:=Lib.hid (show ∀ k,k ∈ liveO (.slice (some ⟨gs,0,none⟩) (N+1) cap) (st ++ [⟨⟨num,alts,items⟩,va,vi⟩])→k<wr.heap.size from fun k hk=>HPSP.out.liveLt k hk)
 have HSZ2:=Lib.hid hx2.size
 have hsz3:=(hx2.trans hx3).size
 clear hN
 have hN:=hN1
 have hxW:=hx2.trans hx3
 have hdc3:=hdc.keep hx3
 have HPS:=Lib.hid (HPSP.out.keep hxW)
 have hbd7:=HBD.out
 have HBD:=Lib.hid (show ∀ y ∈ st ++ [⟨⟨num,alts,items⟩,va,vi⟩],y.o.alts.length≤i∧y.o.items.length≤i from fun y hy=>hbd7 y (List.mem_append.2 (.inl hy)))
 clear hbd7 hrun9 hdc HMO HPSP HKA7 HKI7 HRA7 HRI7 HDIS HI7 HSI7 HLV7 HA HKA HI HKI HRA HRI HNA HNI HCC y0 y1 y2 hfr
 have HEX:=Lib.hid (HEX.out.trans hxW)
 have HB2:=Lib.hid (HB2.out.keep hxW)
 have HMO:=Lib.hid hmo1
 have HDC:=Lib.hid hdc3
 have HB14:=Lib.hid hb14
 clear hxW hdc3 hb14 hx2 hx3 hmo1 hN1
 obtain ⟨⟨csa,ha,hka⟩,⟨csi,hi,hki⟩⟩:=HPS.out.each _ (List.mem_append.2 (.inr (List.mem_singleton.2 rfl)))
 dsimp only at ha hka hi hki
 have hbd9:=HBD.out _ (List.mem_append.2 (.inr (List.mem_singleton.2 rfl)))
 dsimp only at hbd9
 obtain ⟨na,hna⟩:∃ na,alts.length=na:=⟨_,rfl⟩
 obtain ⟨ni,hni⟩:∃ ni,items.length=ni:=⟨_,rfl⟩
 rw [hna] at ha hbd9
 rw [hni] at hi hbd9
 obtain ⟨Aa,ca,rfl,hca,hma,hRa⟩:=own_rd ha
 obtain ⟨Ai,ci,rfl,hci,hmi,hRi⟩:=own_rd hi
 have HA:=Lib.hid ha
 have HKA:=Lib.hid hka
 have HI:=Lib.hid hi
 have HKI:=Lib.hid hki
 have HRA:=Lib.hid hRa
 have HRI:=Lib.hid hRi
 have HNA:=Lib.hid hna
 have HNI:=Lib.hid hni
 have hn120:na≤120∧ni≤120:=by have:=HL.out;omega
 have HCC:=Lib.hid (And.intro (And.intro hca hma) (And.intro hci hmi))
 clear ha hka hi hki hRa hRi hna hni hbd9 hca hma hci hmi
 go_upto_region 54 with fail
 refine wp_region_dagE (w:=w3) (fun f w9=>BoolS w3 4 (f 0) (f 3) w9) (fun iq v=>match iq with | 0=>True | 1=>True | 2=>True | 3=>True | _=>True) (show Tryz.prog.follows .mixedOrders=true from Checked.mixed Tryz.checked) 280 F43.size (by decide +kernel) (⟨(Below.refl _ _).drew,fun v h=>(by cases h),fun v h=>(by cases h)⟩) ⟨?_,?_,?_,?_,trivial⟩ ?_
 ·intro f ac wx hS hfi hon hoff hsz hdf h
  clear h hsz hdf hon hoff
  go_wp2
  first | (exact ⟨_,rfl,trivial,hS.ext.trans (Ext.new1 _ _),fun v hv=>⟨wx.heap.size,false,(Option.some.inj hv).symm,hS.ext.size,Blk.newL _ _ _⟩,hS.res⟩) | (exact ⟨_,rfl,hS.ext.trans (Ext.new1 _ _),fun v hv=>⟨wx.heap.size,false,(Option.some.inj hv).symm,hS.ext.size,Blk.newL _ _ _⟩,hS.res⟩) | (exact ⟨_,hS.ext.trans (Ext.new1 _ _),fun v hv=>⟨wx.heap.size,false,(Option.some.inj hv).symm,hS.ext.size,Blk.newL _ _ _⟩,hS.res⟩)
 ·intro f ac wx hS hfi hon hoff hsz hdf h
  obtain ⟨v188,e188,f188⟩:∃ v,ac.tmps[188]?=some v∧f 0=some v:=by obtain ⟨v,h1,h2,h3⟩:=h 188 (by decide +kernel);exact ⟨v,h1,h2⟩
  clear h hsz hdf hon hoff
  obtain ⟨g8,b8,rfl,hg8,hb8⟩:=hS.blk _ f188
  have p0:=hb8.cell 0
  simp only [List.getElem?_cons_zero] at p0
  have f0:=hb8.frozen 0
  go_wp2
  have h9:=hb8.set_ 0 (.bool true)
  first | (exact ⟨undef,rfl,trivial,Ext.setNewX hS.ext hg8 _,fun v hv=>⟨g8,true,(Option.some.inj (f188.symm.trans hv)).symm,hg8,h9⟩,hS.res⟩) | (exact ⟨undef,rfl,Ext.setNewX hS.ext hg8 _,fun v hv=>⟨g8,true,(Option.some.inj (f188.symm.trans hv)).symm,hg8,h9⟩,hS.res⟩) | (exact ⟨undef,Ext.setNewX hS.ext hg8 _,fun v hv=>⟨g8,true,(Option.some.inj (f188.symm.trans hv)).symm,hg8,h9⟩,hS.res⟩)
 ·intro f ac wx hS hfi hon hoff hsz hdf h
  obtain ⟨v188,e188,f188⟩:∃ v,ac.tmps[188]?=some v∧f 0=some v:=by obtain ⟨v,h1,h2,h3⟩:=h 188 (by decide +kernel);exact ⟨v,h1,h2⟩
  clear h hsz hdf hon hoff
  obtain ⟨g8,b8,rfl,hg8,hb8⟩:=hS.blk _ f188
  have p0:=hb8.cell 0
  simp only [List.getElem?_cons_zero] at p0
  have f0:=hb8.frozen 0
  go_wp2
  have h9:=hb8.set_ 0 (.bool false)
  first | (exact ⟨undef,rfl,trivial,Ext.setNewX hS.ext hg8 _,fun v hv=>⟨g8,false,(Option.some.inj (f188.symm.trans hv)).symm,hg8,h9⟩,hS.res⟩) | (exact ⟨undef,rfl,Ext.setNewX hS.ext hg8 _,fun v hv=>⟨g8,false,(Option.some.inj (f188.symm.trans hv)).symm,hg8,h9⟩,hS.res⟩) | (exact ⟨undef,Ext.setNewX hS.ext hg8 _,fun v hv=>⟨g8,false,(Option.some.inj (f188.symm.trans hv)).symm,hg8,h9⟩,hS.res⟩)
 ·intro f ac wx hS hfi hon hoff hsz hdf h
  obtain ⟨v188,e188,f188⟩:∃ v,ac.tmps[188]?=some v∧f 0=some v:=by obtain ⟨v,h1,h2,h3⟩:=h 188 (by decide +kernel);exact ⟨v,h1,h2⟩
  clear h hsz hdf hon hoff
  obtain ⟨g8,b8,rfl,hg8,hb8⟩:=hS.blk _ f188
  have p0:=hb8.cell 0
  simp only [List.getElem?_cons_zero] at p0
  go_wp2
  first | (exact ⟨_,rfl,trivial,hS.ext,hS.blk,fun v hv=>⟨b8,(Option.some.inj hv).symm⟩⟩) | (exact ⟨_,rfl,hS.ext,hS.blk,fun v hv=>⟨b8,(Option.some.inj hv).symm⟩⟩) | (exact ⟨_,hS.ext,hS.blk,fun v hv=>⟨b8,(Option.some.inj hv).symm⟩⟩)
 intro f a44 w4 hS h hsz hdf hrest
 obtain ⟨v0,q0,s0,g0⟩:=h 0 _ rfl
 obtain ⟨v1,q1,s1,g1⟩:=h 1 _ rfl
 obtain ⟨v2,q2,s2,g2⟩:=h 2 _ rfl
 obtain ⟨v3,q3,s3,g3⟩:=h 3 _ rfl
 have F44:=(((((((((Fr.start (hsz.trans F43.size) (hdf.trans F43.defers)).cons (t:=0) (v:=.string ⟨l.toArray⟩) ((hrest 0 (by decide +kernel)).trans (F43.kn 0 _ rfl))).cons (t:=2) (v:=.pointer (some ⟨w.heap.size,0,none⟩)) ((hrest 2 (by decide +kernel)).trans (F43.kn 2 _ rfl))).cons (t:=4) (v:=.slice (some ⟨gs,0,none⟩) (N+1) cap) ((hrest 4 (by decide +kernel)).trans (F43.kn 4 _ rfl))).cons (t:=5) (v:=.int .i64 (gr:Nat)) ((hrest 5 (by decide +kernel)).trans (F43.kn 5 _ rfl))).cons (t:=7) (v:=.int .i64 (i:Nat)) ((hrest 7 (by decide +kernel)).trans (F43.kn 7 _ rfl))).cons (t:=8) (v:=.int .i64 ((N+1):Nat)) ((hrest 8 (by decide +kernel)).trans (F43.kn 8 _ rfl))).cons (t:=14) (v:=.pointer (some ⟨w2.heap.size,0,none⟩)) ((hrest 14 (by decide +kernel)).trans (F43.kn 14 _ rfl))).cons (t:=189) (v:=v3) (g3 189 rfl))
 obtain ⟨b5,hb5⟩:=hS.res _ q3
 subst hb5
 have hx4:=hS.ext
 clear h hrest hsz hdf hS q0 s0 g0 q1 s1 g1 q2 s2 g2 q3 s3 g3 F43
 have HX2:=Lib.hid hx4
 have HPSW:=Lib.hid (HPS.out.keep hx4)
 clear hx4
 have HROW:=Lib.hid (show w4.ownsRow (w.heap.size+1) 98 3 (.slice (some ⟨gs,0,none⟩) (N+1) cap) (N+1) (cellsO st ++ OpS.cells ⟨⟨num,alts,items⟩,.slice Aa na ca,.slice Ai ni ci⟩) from by have h9:=HPSW.out.row;rwa [List.length_append,List.length_singleton,hN,cellsO_snoc] at h9)
 have HI2:=Lib.hid (own_ext HI.out HX2.out)
 have HSW:=Lib.hid (show w.heap.size+1≤w4.heap.size by have:=HX2.out.size;omega)
 have HAP:=Lib.hid (show OneAp0 w4 ((Value.ownBlock (.slice Ai ni ci)).toList ++ (Value.ownBlock (.slice (some ⟨gs,0,none⟩) (N+1) cap)).toList) (.slice Ai ni ci) (.slice (some ⟨gs,0,none⟩) (N+1) cap) from ⟨fun k hk=>List.mem_append.2 (.inl (by simp [hk])),fun k hk=>List.mem_append.2 (.inr (by simp [hk])),fun k hk=>HPSW.out.apart k (by unfold OpS.live;rw [List.mem_append];exact .inr (by simp [hk])),fun k hk=>HPSW.out.liveLt k (by unfold liveO;rw [List.mem_append];exact .inl (by simp [hk]))⟩)
 have HCSL:=Lib.hid (show csi.length=ni*260 from HI.out.1)
 have HLO:=Lib.hid (dn_ones 2 0 false (fun _=>false) none 0 0)
 have HLL:=Lib.hid (dn_len 2 0 false (fun _=>false) none 0 0)
 have HG15:=Lib.hid (show w2.heap.size ∉ (Value.ownBlock (.slice Ai ni ci)).toList ++ (Value.ownBlock (.slice (some ⟨gs,0,none⟩) (N+1) cap)).toList from fun hm=>by
  have h9:=HSZ2.out
  rcases List.mem_append.1 hm with h1 | h1
  ·have:=HLW.out _ (show w2.heap.size ∈ _ from by rw [liveO_snoc,List.mem_append];exact .inr (by unfold OpS.live;rw [List.mem_append];exact .inr h1));omega
  ·have:=HLW.out _ (show w2.heap.size ∈ _ from by rw [liveO_snoc,List.mem_append];exact .inl (by unfold liveO;rw [List.mem_append];exact .inl h1));omega)
 have HB4:=Lib.hid (HB14.out.keep HX2.out)
 obtain ⟨i1,hi1⟩:∃ i1,i+1=i1:=⟨_,rfl⟩
 have HI1:=Lib.hid hi1
 have hi3:i1≤120:=by have:=HL.out;omega
 have hi4:i<i1∧i1≤l.length:=by omega
 clear hi1
 cases b5
 ·go_upto_if 189 with fail
  refine wp_cond_false (F44.ev (t:=189) rfl) ?_
  go_upto_region 57 with fail
  refine wp_region_dagE (w:=w4) (fun f w9=>GrowS (w.heap.size+1) w4 ((Value.ownBlock (.slice Ai ni ci)).toList ++ (Value.ownBlock (.slice (some ⟨gs,0,none⟩) (N+1) cap)).toList) (.slice Ai ni ci) ni csi (dnC k9 m9 z9 p9 B9 n9 c9) (dnC k9 m9 z9 p9 B9 n9 c9) (.slice (some ⟨gs,0,none⟩) (N+1) cap) (N+1) (cellsO st ++ OpS.cells ⟨⟨num,alts,items⟩,.slice Aa na ca,.slice Ai ni ci⟩) (fun v9=>cellsO st ++ [.int .i64 (num:Nat),.slice Aa na ca,v9]) (f 10) (f 11) none none (f 14) w9) (fun iq v=>match iq with | 0=>v=.slice (some ⟨gs,0,none⟩) (N+1) cap | 1=>v=.int .i64 ((N+1):Nat) | 2=>v=.int .i64 (N:Nat) | 3=>v=.slice (some ⟨gs,0,none⟩) (N+1) cap | 4=>v=.int .i64 ((N+1):Nat) | 5=>v=.int .i64 (N:Nat) | 6=>v=.pointer (some ⟨gs,N*3,none⟩) | 7=>v=.pointer (some ⟨gs,N*3+2,none⟩) | 8=>v=.slice Ai ni ci | 9=>v=.agg (dnC k9 m9 z9 p9 B9 n9 c9).toArray | 10=>True | 11=>True | 12=>v=.pointer (some ⟨gs,N*3,none⟩) | 13=>v=.pointer (some ⟨gs,N*3+2,none⟩) | 14=>True | _=>True) (show Tryz.prog.follows .mixedOrders=true from Checked.mixed Tryz.checked) 280 F44.size (by decide +kernel) (⟨OneApp.start ((Below.refl _ _).drew) HROW.out HI2.out,fun v p h=>(by cases h)⟩) ⟨?_,?_,?_,?_,?_,?_,?_,?_,?_,?_,?_,?_,?_,?_,?_,trivial⟩ ?_
  ·intro f ac wx hS hfi hon hoff hsz hdf h
   have e4:ac.tmps[4]?=some (.slice (some ⟨gs,0,none⟩) (N+1) cap):=by obtain ⟨v,h1,h2⟩:=h 4 (by decide +kernel);exact h1.trans (h2.symm.trans (F44.kn 4 _ rfl))
   clear h hsz hdf hon hoff
   go_wp2
   exact ⟨_,rfl,rfl,hS⟩
  ·intro f ac wx hS hfi hon hoff hsz hdf h
   have e8:ac.tmps[8]?=some (.int .i64 ((N+1):Nat)):=by obtain ⟨v,h1,h2⟩:=h 8 (by decide +kernel);exact h1.trans (h2.symm.trans (F44.kn 8 _ rfl))
   clear h hsz hdf hon hoff
   go_wp2
   exact ⟨_,rfl,rfl,hS⟩
  ·intro f ac wx hS hfi hon hoff hsz hdf h
   have e207:ac.tmps[207]?=some (.int .i64 ((N+1):Nat)):=by obtain ⟨v,h1,h2,h3⟩:=h 207 (by decide +kernel);rw [h1];exact congrArg some h3
   clear h hsz hdf hon hoff
   go_wp2
   exact ⟨_,rfl,rfl,hS⟩
  ·intro f ac wx hS hfi hon hoff hsz hdf h
   have e4:ac.tmps[4]?=some (.slice (some ⟨gs,0,none⟩) (N+1) cap):=by obtain ⟨v,h1,h2⟩:=h 4 (by decide +kernel);exact h1.trans (h2.symm.trans (F44.kn 4 _ rfl))
   clear h hsz hdf hon hoff
   go_wp2
   exact ⟨_,rfl,rfl,hS⟩
  ·intro f ac wx hS hfi hon hoff hsz hdf h
   have e8:ac.tmps[8]?=some (.int .i64 ((N+1):Nat)):=by obtain ⟨v,h1,h2⟩:=h 8 (by decide +kernel);exact h1.trans (h2.symm.trans (F44.kn 8 _ rfl))
   clear h hsz hdf hon hoff
   go_wp2
   exact ⟨_,rfl,rfl,hS⟩
  ·intro f ac wx hS hfi hon hoff hsz hdf h
   have e210:ac.tmps[210]?=some (.int .i64 ((N+1):Nat)):=by obtain ⟨v,h1,h2,h3⟩:=h 210 (by decide +kernel);rw [h1];exact congrArg some h3
   clear h hsz hdf hon hoff
   go_wp2
   exact ⟨_,rfl,rfl,hS⟩
  ·intro f ac wx hS hfi hon hoff hsz hdf h
   have e209:ac.tmps[209]?=some (.slice (some ⟨gs,0,none⟩) (N+1) cap):=by obtain ⟨v,h1,h2,h3⟩:=h 209 (by decide +kernel);rw [h1];exact congrArg some h3
   have e211:ac.tmps[211]?=some (.int .i64 (N:Nat)):=by obtain ⟨v,h1,h2,h3⟩:=h 211 (by decide +kernel);rw [h1];exact congrArg some h3
   clear h hsz hdf hon hoff
   go_wp2
   exact ⟨_,rfl,rfl,hS⟩
  ·intro f ac wx hS hfi hon hoff hsz hdf h
   have e212:ac.tmps[212]?=some (.pointer (some ⟨gs,N*3,none⟩)):=by obtain ⟨v,h1,h2,h3⟩:=h 212 (by decide +kernel);rw [h1];exact congrArg some h3
   clear h hsz hdf hon hoff
   go_wp2
   exact ⟨_,rfl,rfl,hS⟩
  ·intro f ac wx hS hfi hon hoff hsz hdf h
   have e213:ac.tmps[213]?=some (.pointer (some ⟨gs,N*3+2,none⟩)):=by obtain ⟨v,h1,h2,h3⟩:=h 213 (by decide +kernel);rw [h1];exact congrArg some h3
   have n14:f 14=none:=hoff 14 _ rfl (by decide +kernel)
   clear h hsz hdf hon hoff
   have hr9:=row_head (hS.one.row0 n14) hN
   obtain ⟨fz9,y91,y92⟩:=hr9
   go_wp2
   exact ⟨_,rfl,rfl,hS⟩
  ·intro f ac wx hS hfi hon hoff hsz hdf h
   have e14:ac.tmps[14]?=some (.pointer (some ⟨w2.heap.size,0,none⟩)):=by obtain ⟨v,h1,h2⟩:=h 14 (by decide +kernel);exact h1.trans (h2.symm.trans (F44.kn 14 _ rfl))
   clear h hsz hdf hon hoff
   refine load_dn rfl (.tmp 14) rfl (g:=w2.heap.size) (by simp [Act.eval,e14]) (Blk.chg HB4.out hS.one.chg HG15.out) ?_
   go_wp2
   exact ⟨_,rfl,rfl,hS⟩
  ·intro f ac wx hS hfi hon hoff hsz hdf h
   have e215:ac.tmps[215]?=some (.agg (dnC k9 m9 z9 p9 B9 n9 c9).toArray):=by obtain ⟨v,h1,h2,h3⟩:=h 215 (by decide +kernel);rw [h1];exact congrArg some h3
   clear h hsz hdf hon hoff
   have h2:=hS.one
   rw [hfi] at h2
   refine mk_dn rfl (.tmp 215) rfl (v:=(dnC k9 m9 z9 p9 B9 n9 c9)) (dn_len _ _ _ _ _ _ _) (by simp [Act.eval,e215]) ?_
   go_wp2
   first | (exact ⟨_,rfl,trivial,h2.doM,fun v p h1 h2=>hS.at_ v p h1 h2⟩) | (exact ⟨_,rfl,h2.doM,fun v p h1 h2=>hS.at_ v p h1 h2⟩) | (exact ⟨_,h2.doM,fun v p h1 h2=>hS.at_ v p h1 h2⟩)
  ·intro f ac wx hS hfi hon hoff hsz hdf h
   have e214:ac.tmps[214]?=some (.slice Ai ni ci):=by obtain ⟨v,h1,h2,h3⟩:=h 214 (by decide +kernel);rw [h1];exact congrArg some h3
   obtain ⟨v216,e216,f216⟩:∃ v,ac.tmps[216]?=some v∧f 10=some v:=by obtain ⟨v,h1,h2,h3⟩:=h 216 (by decide +kernel);exact ⟨v,h1,h2⟩
   have n14:f 14=none:=hoff 14 _ rfl (by decide +kernel)
   clear h hsz hdf hon hoff
   have h2:=hS.one
   rw [hfi,f216,n14] at h2
   obtain ⟨gm,rfl,hgm,hbm⟩:=h2.hm _ rfl rfl
   refine wpList_app2 elemDn rfl (.tmp 214) (.tmp 216) rfl (base:=w.heap.size+1) (v:=.slice Ai ni ci) (n:=ni) (xs:=csi) ?_ (h2.it0 rfl) (by have:=h2.chg.size;have:=HSW.out;omega) (A:=some ⟨gm,0,none⟩) (m:=1) (c:=1) (news:=(dnC k9 m9 z9 p9 B9 n9 c9)) ?_ (blk_rd1 hbm (dn_len _ _ _ _ _ _ _)) (dn_ones _ _ _ _ _ _ _) (by omega) (by unfold maxLen;omega) ?_
   ·simp [Act.eval,e214]
   ·simp [Act.eval,e216]
   ·intro v' w' hown hg _ hat
    go_wp2
    have h3:=h2.doA HAP.out hown hg hat
    rw [← f216] at h3
    first | (refine ⟨_,rfl,trivial,?_,fun v p h1 h2=>?_⟩) | (refine ⟨_,rfl,?_,fun v p h1 h2=>?_⟩) | (refine ⟨_,?_,fun v p h1 h2=>?_⟩)
    ·show OneApp _ _ _ _ _ _ _ _ _ _ _ _ _ _ (f 10) (some v') none (f 14) w'
     rw [n14];exact h3
    ·cases h2
  ·intro f ac wx hS hfi hon hoff hsz hdf h
   have e206:ac.tmps[206]?=some (.slice (some ⟨gs,0,none⟩) (N+1) cap):=by obtain ⟨v,h1,h2,h3⟩:=h 206 (by decide +kernel);rw [h1];exact congrArg some h3
   have e208:ac.tmps[208]?=some (.int .i64 (N:Nat)):=by obtain ⟨v,h1,h2,h3⟩:=h 208 (by decide +kernel);rw [h1];exact congrArg some h3
   clear h hsz hdf hon hoff
   go_wp2
   exact ⟨_,rfl,rfl,hS⟩
  ·intro f ac wx hS hfi hon hoff hsz hdf h
   have e218:ac.tmps[218]?=some (.pointer (some ⟨gs,N*3,none⟩)):=by obtain ⟨v,h1,h2,h3⟩:=h 218 (by decide +kernel);rw [h1];exact congrArg some h3
   clear h hsz hdf hon hoff
   go_wp2
   exact ⟨_,rfl,rfl,hS⟩
  ·intro f ac wx hS hfi hon hoff hsz hdf h
   have e219:ac.tmps[219]?=some (.pointer (some ⟨gs,N*3+2,none⟩)):=by obtain ⟨v,h1,h2,h3⟩:=h 219 (by decide +kernel);rw [h1];exact congrArg some h3
   obtain ⟨v217,e217,f217⟩:∃ v,ac.tmps[217]?=some v∧f 11=some v:=by obtain ⟨v,h1,h2,h3⟩:=h 217 (by decide +kernel);exact ⟨v,h1,h2⟩
   clear h hsz hdf hon hoff
   have h2:=hS.one
   rw [hfi,f217] at h2
   obtain ⟨A8,c8,rfl,h81,h82,h83⟩:=own_rd (h2.it1 _ rfl).1
   obtain ⟨fz9,y91,y92⟩:=row_head (h2.row0 rfl) hN
   have fz:=fz9 (N*3+2)
   go_wp2
   have h3:=h2.doR (u:=undef) (i:=N*3+2) HAP.out rfl (by rw [show N*3+2=st.length*3+2 by rw [hN]];exact (cellsO_set2 st ⟨⟨num,alts,items⟩,.slice Aa na ca,.slice Ai ni ci⟩ _).symm)
   rw [← f217] at h3
   first | (exact ⟨undef,rfl,trivial,h3,fun v p h1 h2=>hS.at_ v p h1 h2⟩) | (exact ⟨undef,rfl,h3,fun v p h1 h2=>hS.at_ v p h1 h2⟩) | (exact ⟨undef,h3,fun v p h1 h2=>hS.at_ v p h1 h2⟩)
  intro f a45 w9 hS h hsz hdf hrest
  obtain ⟨v0,q0,s0,g0⟩:=h 0 _ rfl
  obtain ⟨v1,q1,s1,g1⟩:=h 1 _ rfl
  obtain ⟨v2,q2,s2,g2⟩:=h 2 _ rfl
  obtain ⟨v3,q3,s3,g3⟩:=h 3 _ rfl
  obtain ⟨v4,q4,s4,g4⟩:=h 4 _ rfl
  obtain ⟨v5,q5,s5,g5⟩:=h 5 _ rfl
  obtain ⟨v6,q6,s6,g6⟩:=h 6 _ rfl
  obtain ⟨v7,q7,s7,g7⟩:=h 7 _ rfl
  obtain ⟨v8,q8,s8,g8⟩:=h 8 _ rfl
  obtain ⟨v9,q9,s9,g9⟩:=h 9 _ rfl
  obtain ⟨v10,q10,s10,g10⟩:=h 10 _ rfl
  obtain ⟨v11,q11,s11,g11⟩:=h 11 _ rfl
  obtain ⟨v12,q12,s12,g12⟩:=h 12 _ rfl
  obtain ⟨v13,q13,s13,g13⟩:=h 13 _ rfl
  obtain ⟨v14,q14,s14,g14⟩:=h 14 _ rfl
  have F45:=((((((Fr.start (hsz.trans F44.size) (hdf.trans F44.defers)).cons (t:=0) (v:=.string ⟨l.toArray⟩) ((hrest 0 (by decide +kernel)).trans (F44.kn 0 _ rfl))).cons (t:=2) (v:=.pointer (some ⟨w.heap.size,0,none⟩)) ((hrest 2 (by decide +kernel)).trans (F44.kn 2 _ rfl))).cons (t:=4) (v:=.slice (some ⟨gs,0,none⟩) (N+1) cap) ((hrest 4 (by decide +kernel)).trans (F44.kn 4 _ rfl))).cons (t:=5) (v:=.int .i64 (gr:Nat)) ((hrest 5 (by decide +kernel)).trans (F44.kn 5 _ rfl))).cons (t:=7) (v:=.int .i64 (i:Nat)) ((hrest 7 (by decide +kernel)).trans (F44.kn 7 _ rfl)))
  have hone:=hS.one
  rw [q11,q14] at hone
  obtain ⟨hown9,hat9⟩:=hone.it1 _ rfl
  have hrow9:=hone.row1 _ _ rfl rfl
  have hc9:=hone.chg
  clear h hrest hsz hdf hS q0 s0 g0 q1 s1 g1 q2 s2 g2 q3 s3 g3 q4 s4 g4 q5 s5 g5 q6 s6 g6 q7 s7 g7 q8 s8 g8 q9 s9 g9 q10 s10 g10 q11 s11 g11 q12 s12 g12 q13 s13 g13 q14 s14 g14 F44
  go_upto_region 58 with fail
  refine fr_region ?_
  refine fr_mv F45 7 220 (.inl rfl) rfl rfl (by decide) rfl fun _ F46=>?_
  clear F45
  refine fr2 F46 221 (.int .i64 (i1:Nat)) w9 rfl (by decide) ?_ fun _ F47=>?_
  ·have e220:=F46.kn 220 _ rfl
   have h9:=HI1.out
   have hw:IntKind.i64.wrap ((i:Int)+1)=(i:Int)+1:=wrap_id (by omega) (by omega)
   go_wp2
   first | exact ⟨_,rfl,rfl,rfl⟩ | exact ⟨_,rfl,congrArg (Value.int .i64) (by omega),rfl⟩
  clear F46
  refine fr_mv F47 221 7 (.inr rfl) rfl rfl (by decide) rfl fun _ F48=>?_
  clear F47
  refine fr_end ?_
  go_upto_region 59 with fail
  refine fr_region ?_
  refine fr_as F48 6 (.inr rfl) rfl rfl (by decide) fun _ F49=>?_
  clear F48
  refine fr_end ?_
  go_wp2
  have hrun9:=HRUN9.out
  rw [HI1.out] at hrun9
  have hi1':=HI1.out
  have hsz9:=HX2.out.size
  have hNT:=HDC.out.keep HX2.out
  have hni:=HNI.out
  have hps9:=grow_items HPSW.out hc9 (by rw [hni];exact hown9) hat9 (dkidsV_map (fun t v h=>DNodeV.keep h HX2.out) HKI.out) hNT (by rw [hN];exact hrow9)
  have hxc:∀ k,k<w.heap.size+1→k ∉ (Value.ownBlock (.slice Ai ni ci)).toList ++ (Value.ownBlock (.slice (some ⟨gs,0,none⟩) (N+1) cap)).toList:=fun k hk hm=>by
   rcases List.mem_append.1 hm with h1 | h1
   ·have:=(HI.out.lt k (by simpa using h1)).1;omega
   ·have:=(HPS.out.row.lt k (by simpa using h1)).1;omega
  have hex9:Ext w w9:=by
   have h9:=HEX.out.trans HX2.out
   refine ⟨hc9.os.trans h9.os,hc9.tape.trans h9.tape,hc9.output.trans h9.output,Nat.le_trans h9.size hc9.size,fun k hk=>(hc9.block k (Nat.lt_of_lt_of_le hk h9.size) (hxc k (by omega))).trans (h9.block k hk)⟩
  have hb29:=Blk.chg (HB2.out.keep HX2.out) hc9 (hxc _ (by omega))
  refine HKK.out _ _ (Handed.intro (l.length-i1) (by omega) (HJ.out _ _ _ ⟨_,_,_,_,Fr.cons (Fr.cons (Fr.cons (Fr.cons (Fr.cons (Fr.cons F49.nil (F49.kn 7 _ rfl)) (F49.kn 6 _ rfl)) (F49.kn 5 _ rfl)) (F49.kn 4 _ rfl)) (F49.kn 2 _ rfl)) (F49.kn 0 _ rfl),num,alts,items ++ [TC],r,gr,i1,true,st,_,_,gs,cap,N,rfl,hN,rfl,rfl,rfl,rfl,hps9,HMO.out,hrun9,by omega,hgr,by omega,fun y hy=>?_,hex9,hb29⟩))
  rcases List.mem_append.1 hy with h9 | h9
  ·have h8:=HBD.out y (List.mem_append.2 (.inl h9));omega
  ·have h8:=HBD.out _ (List.mem_append.2 (.inr (List.mem_singleton.2 rfl)));rw [List.mem_singleton.1 h9];dsimp only at h8 ⊢;rw [List.length_append];simp only [List.length_singleton];omega
 ·go_upto_if 189 with fail
  refine wp_cond_true (F44.ev (t:=189) rfl) ?_
  go_upto_region 55 with fail
  refine wp_region_dagE (w:=w4) (fun f w9=>GrowS (w.heap.size+1) w4 ((Value.ownBlock (.slice Ai ni ci)).toList ++ (Value.ownBlock (.slice (some ⟨gs,0,none⟩) (N+1) cap)).toList) (.slice Ai ni ci) ni csi (dnC 0 0 false (fun _=>false) none 0 0) (dnC k9 m9 z9 p9 B9 n9 c9) (.slice (some ⟨gs,0,none⟩) (N+1) cap) (N+1) (cellsO st ++ OpS.cells ⟨⟨num,alts,items⟩,.slice Aa na ca,.slice Ai ni ci⟩) (fun v9=>cellsO st ++ [.int .i64 (num:Nat),.slice Aa na ca,v9]) (f 11) (f 12) none none (f 15) w9) (fun iq v=>match iq with | 0=>v=.slice (some ⟨gs,0,none⟩) (N+1) cap | 1=>v=.int .i64 ((N+1):Nat) | 2=>v=.int .i64 (N:Nat) | 3=>v=.slice (some ⟨gs,0,none⟩) (N+1) cap | 4=>v=.int .i64 ((N+1):Nat) | 5=>v=.int .i64 (N:Nat) | 6=>v=.pointer (some ⟨gs,N*3,none⟩) | 7=>v=.pointer (some ⟨gs,N*3+2,none⟩) | 8=>v=.slice Ai ni ci | 9=>v=.agg (dnC k9 m9 z9 p9 B9 n9 c9).toArray | 10=>v=.int .i64 (ni:Nat) | 11=>True | 12=>True | 13=>v=.pointer (some ⟨gs,N*3,none⟩) | 14=>v=.pointer (some ⟨gs,N*3+2,none⟩) | 15=>True | _=>True) (show Tryz.prog.follows .mixedOrders=true from Checked.mixed Tryz.checked) 280 F44.size (by decide +kernel) (⟨OneApp.start ((Below.refl _ _).drew) HROW.out HI2.out,fun v p h=>(by cases h)⟩) ⟨?_,?_,?_,?_,?_,?_,?_,?_,?_,?_,?_,?_,?_,?_,?_,?_,trivial⟩ ?_
  ·intro f ac wx hS hfi hon hoff hsz hdf h
   have e4:ac.tmps[4]?=some (.slice (some ⟨gs,0,none⟩) (N+1) cap):=by obtain ⟨v,h1,h2⟩:=h 4 (by decide +kernel);exact h1.trans (h2.symm.trans (F44.kn 4 _ rfl))
   clear h hsz hdf hon hoff
   go_wp2
   exact ⟨_,rfl,rfl,hS⟩
  ·intro f ac wx hS hfi hon hoff hsz hdf h
   have e8:ac.tmps[8]?=some (.int .i64 ((N+1):Nat)):=by obtain ⟨v,h1,h2⟩:=h 8 (by decide +kernel);exact h1.trans (h2.symm.trans (F44.kn 8 _ rfl))
   clear h hsz hdf hon hoff
   go_wp2
   exact ⟨_,rfl,rfl,hS⟩
  ·intro f ac wx hS hfi hon hoff hsz hdf h
   have e191:ac.tmps[191]?=some (.int .i64 ((N+1):Nat)):=by obtain ⟨v,h1,h2,h3⟩:=h 191 (by decide +kernel);rw [h1];exact congrArg some h3
   clear h hsz hdf hon hoff
   go_wp2
   exact ⟨_,rfl,rfl,hS⟩
  ·intro f ac wx hS hfi hon hoff hsz hdf h
   have e4:ac.tmps[4]?=some (.slice (some ⟨gs,0,none⟩) (N+1) cap):=by obtain ⟨v,h1,h2⟩:=h 4 (by decide +kernel);exact h1.trans (h2.symm.trans (F44.kn 4 _ rfl))
   clear h hsz hdf hon hoff
   go_wp2
   exact ⟨_,rfl,rfl,hS⟩
  ·intro f ac wx hS hfi hon hoff hsz hdf h
   have e8:ac.tmps[8]?=some (.int .i64 ((N+1):Nat)):=by obtain ⟨v,h1,h2⟩:=h 8 (by decide +kernel);exact h1.trans (h2.symm.trans (F44.kn 8 _ rfl))
   clear h hsz hdf hon hoff
   go_wp2
   exact ⟨_,rfl,rfl,hS⟩
  ·intro f ac wx hS hfi hon hoff hsz hdf h
   have e194:ac.tmps[194]?=some (.int .i64 ((N+1):Nat)):=by obtain ⟨v,h1,h2,h3⟩:=h 194 (by decide +kernel);rw [h1];exact congrArg some h3
   clear h hsz hdf hon hoff
   go_wp2
   exact ⟨_,rfl,rfl,hS⟩
  ·intro f ac wx hS hfi hon hoff hsz hdf h
   have e193:ac.tmps[193]?=some (.slice (some ⟨gs,0,none⟩) (N+1) cap):=by obtain ⟨v,h1,h2,h3⟩:=h 193 (by decide +kernel);rw [h1];exact congrArg some h3
   have e195:ac.tmps[195]?=some (.int .i64 (N:Nat)):=by obtain ⟨v,h1,h2,h3⟩:=h 195 (by decide +kernel);rw [h1];exact congrArg some h3
   clear h hsz hdf hon hoff
   go_wp2
   exact ⟨_,rfl,rfl,hS⟩
  ·intro f ac wx hS hfi hon hoff hsz hdf h
   have e196:ac.tmps[196]?=some (.pointer (some ⟨gs,N*3,none⟩)):=by obtain ⟨v,h1,h2,h3⟩:=h 196 (by decide +kernel);rw [h1];exact congrArg some h3
   clear h hsz hdf hon hoff
   go_wp2
   exact ⟨_,rfl,rfl,hS⟩
  ·intro f ac wx hS hfi hon hoff hsz hdf h
   have e197:ac.tmps[197]?=some (.pointer (some ⟨gs,N*3+2,none⟩)):=by obtain ⟨v,h1,h2,h3⟩:=h 197 (by decide +kernel);rw [h1];exact congrArg some h3
   have n15:f 15=none:=hoff 15 _ rfl (by decide +kernel)
   clear h hsz hdf hon hoff
   have hr9:=row_head (hS.one.row0 n15) hN
   obtain ⟨fz9,y91,y92⟩:=hr9
   go_wp2
   exact ⟨_,rfl,rfl,hS⟩
  ·intro f ac wx hS hfi hon hoff hsz hdf h
   have e14:ac.tmps[14]?=some (.pointer (some ⟨w2.heap.size,0,none⟩)):=by obtain ⟨v,h1,h2⟩:=h 14 (by decide +kernel);exact h1.trans (h2.symm.trans (F44.kn 14 _ rfl))
   clear h hsz hdf hon hoff
   refine load_dn rfl (.tmp 14) rfl (g:=w2.heap.size) (by simp [Act.eval,e14]) (Blk.chg HB4.out hS.one.chg HG15.out) ?_
   go_wp2
   exact ⟨_,rfl,rfl,hS⟩
  ·intro f ac wx hS hfi hon hoff hsz hdf h
   have e198:ac.tmps[198]?=some (.slice Ai ni ci):=by obtain ⟨v,h1,h2,h3⟩:=h 198 (by decide +kernel);rw [h1];exact congrArg some h3
   clear h hsz hdf hon hoff
   go_wp2
   exact ⟨_,rfl,rfl,hS⟩
  ·intro f ac wx hS hfi hon hoff hsz hdf h
   clear h hsz hdf hon hoff
   have h2:=hS.one
   rw [hfi] at h2
   refine mk_dn rfl (_) rfl (v:=(dnC 0 0 false (fun _=>false) none 0 0)) (dn_len _ _ _ _ _ _ _) (by refine congrArg Value.agg ?_;unfold dnC bcs;kernel_rfl) ?_
   go_wp2
   first | (exact ⟨_,rfl,trivial,h2.doM,fun v p h1 h2=>hS.at_ v p h1 h2⟩) | (exact ⟨_,rfl,h2.doM,fun v p h1 h2=>hS.at_ v p h1 h2⟩) | (exact ⟨_,h2.doM,fun v p h1 h2=>hS.at_ v p h1 h2⟩)
  ·intro f ac wx hS hfi hon hoff hsz hdf h
   have e198:ac.tmps[198]?=some (.slice Ai ni ci):=by obtain ⟨v,h1,h2,h3⟩:=h 198 (by decide +kernel);rw [h1];exact congrArg some h3
   obtain ⟨v201,e201,f201⟩:∃ v,ac.tmps[201]?=some v∧f 11=some v:=by obtain ⟨v,h1,h2,h3⟩:=h 201 (by decide +kernel);exact ⟨v,h1,h2⟩
   have n15:f 15=none:=hoff 15 _ rfl (by decide +kernel)
   clear h hsz hdf hon hoff
   have h2:=hS.one
   rw [hfi,f201,n15] at h2
   obtain ⟨gm,rfl,hgm,hbm⟩:=h2.hm _ rfl rfl
   refine wpList_app2 elemDn rfl (.tmp 198) (.tmp 201) rfl (base:=w.heap.size+1) (v:=.slice Ai ni ci) (n:=ni) (xs:=csi) ?_ (h2.it0 rfl) (by have:=h2.chg.size;have:=HSW.out;omega) (A:=some ⟨gm,0,none⟩) (m:=1) (c:=1) (news:=(dnC 0 0 false (fun _=>false) none 0 0)) ?_ (blk_rd1 hbm (dn_len _ _ _ _ _ _ _)) (dn_ones _ _ _ _ _ _ _) (by omega) (by unfold maxLen;omega) ?_
   ·simp [Act.eval,e198]
   ·simp [Act.eval,e201]
   ·intro v' w' hown hg _ hat
    go_wp2
    have h3:=h2.doA HAP.out hown hg hat
    rw [← f201] at h3
    first | (refine ⟨_,rfl,trivial,?_,fun v p h1 h2=>?_⟩) | (refine ⟨_,rfl,?_,fun v p h1 h2=>?_⟩) | (refine ⟨_,?_,fun v p h1 h2=>?_⟩)
    ·show OneApp _ _ _ _ _ _ _ _ _ _ _ _ _ _ (f 11) (some v') none (f 15) w'
     rw [n15];exact h3
    ·cases h2
  ·intro f ac wx hS hfi hon hoff hsz hdf h
   have e190:ac.tmps[190]?=some (.slice (some ⟨gs,0,none⟩) (N+1) cap):=by obtain ⟨v,h1,h2,h3⟩:=h 190 (by decide +kernel);rw [h1];exact congrArg some h3
   have e192:ac.tmps[192]?=some (.int .i64 (N:Nat)):=by obtain ⟨v,h1,h2,h3⟩:=h 192 (by decide +kernel);rw [h1];exact congrArg some h3
   clear h hsz hdf hon hoff
   go_wp2
   exact ⟨_,rfl,rfl,hS⟩
  ·intro f ac wx hS hfi hon hoff hsz hdf h
   have e203:ac.tmps[203]?=some (.pointer (some ⟨gs,N*3,none⟩)):=by obtain ⟨v,h1,h2,h3⟩:=h 203 (by decide +kernel);rw [h1];exact congrArg some h3
   clear h hsz hdf hon hoff
   go_wp2
   exact ⟨_,rfl,rfl,hS⟩
  ·intro f ac wx hS hfi hon hoff hsz hdf h
   have e204:ac.tmps[204]?=some (.pointer (some ⟨gs,N*3+2,none⟩)):=by obtain ⟨v,h1,h2,h3⟩:=h 204 (by decide +kernel);rw [h1];exact congrArg some h3
   obtain ⟨v202,e202,f202⟩:∃ v,ac.tmps[202]?=some v∧f 12=some v:=by obtain ⟨v,h1,h2,h3⟩:=h 202 (by decide +kernel);exact ⟨v,h1,h2⟩
   clear h hsz hdf hon hoff
   have h2:=hS.one
   rw [hfi,f202] at h2
   obtain ⟨A8,c8,rfl,h81,h82,h83⟩:=own_rd (h2.it1 _ rfl).1
   obtain ⟨fz9,y91,y92⟩:=row_head (h2.row0 rfl) hN
   have fz:=fz9 (N*3+2)
   go_wp2
   have h3:=h2.doR (u:=undef) (i:=N*3+2) HAP.out rfl (by rw [show N*3+2=st.length*3+2 by rw [hN]];exact (cellsO_set2 st ⟨⟨num,alts,items⟩,.slice Aa na ca,.slice Ai ni ci⟩ _).symm)
   rw [← f202] at h3
   first | (exact ⟨undef,rfl,trivial,h3,fun v p h1 h2=>hS.at_ v p h1 h2⟩) | (exact ⟨undef,rfl,h3,fun v p h1 h2=>hS.at_ v p h1 h2⟩) | (exact ⟨undef,h3,fun v p h1 h2=>hS.at_ v p h1 h2⟩)
  intro f a45 w5 hS h hsz hdf hrest
  obtain ⟨v0,q0,s0,g0⟩:=h 0 _ rfl
  obtain ⟨v1,q1,s1,g1⟩:=h 1 _ rfl
  obtain ⟨v2,q2,s2,g2⟩:=h 2 _ rfl
  obtain ⟨v3,q3,s3,g3⟩:=h 3 _ rfl
  obtain ⟨v4,q4,s4,g4⟩:=h 4 _ rfl
  obtain ⟨v5,q5,s5,g5⟩:=h 5 _ rfl
  obtain ⟨v6,q6,s6,g6⟩:=h 6 _ rfl
  obtain ⟨v7,q7,s7,g7⟩:=h 7 _ rfl
  obtain ⟨v8,q8,s8,g8⟩:=h 8 _ rfl
  obtain ⟨v9,q9,s9,g9⟩:=h 9 _ rfl
  obtain ⟨v10,q10,s10,g10⟩:=h 10 _ rfl
  obtain ⟨v11,q11,s11,g11⟩:=h 11 _ rfl
  obtain ⟨v12,q12,s12,g12⟩:=h 12 _ rfl
  obtain ⟨v13,q13,s13,g13⟩:=h 13 _ rfl
  obtain ⟨v14,q14,s14,g14⟩:=h 14 _ rfl
  obtain ⟨v15,q15,s15,g15⟩:=h 15 _ rfl
  have F45:=(((((((((Fr.start (hsz.trans F44.size) (hdf.trans F44.defers)).cons (t:=0) (v:=.string ⟨l.toArray⟩) ((hrest 0 (by decide +kernel)).trans (F44.kn 0 _ rfl))).cons (t:=2) (v:=.pointer (some ⟨w.heap.size,0,none⟩)) ((hrest 2 (by decide +kernel)).trans (F44.kn 2 _ rfl))).cons (t:=4) (v:=.slice (some ⟨gs,0,none⟩) (N+1) cap) ((hrest 4 (by decide +kernel)).trans (F44.kn 4 _ rfl))).cons (t:=5) (v:=.int .i64 (gr:Nat)) ((hrest 5 (by decide +kernel)).trans (F44.kn 5 _ rfl))).cons (t:=7) (v:=.int .i64 (i:Nat)) ((hrest 7 (by decide +kernel)).trans (F44.kn 7 _ rfl))).cons (t:=202) (v:=v12) (g12 202 rfl)).cons (t:=200) (v:=.int .i64 (ni:Nat)) ((g10 200 rfl).trans (congrArg some s10))).cons (t:=199) (v:=.agg (dnC k9 m9 z9 p9 B9 n9 c9).toArray) ((g9 199 rfl).trans (congrArg some s9)))
  have hone0:=hS.one
  rw [q12,q15] at hone0
  obtain ⟨hown8,-⟩:=hone0.it1 _ rfl
  obtain ⟨gQ,cQ,rfl,h81,h82,h83,h84,-,-⟩:=own_blkS hown8 (by omega)
  clear h hrest hsz hdf hS q0 s0 g0 q1 s1 g1 q2 s2 g2 q3 s3 g3 q4 s4 g4 q5 s5 g5 q6 s6 g6 q7 s7 g7 q8 s8 g8 q9 s9 g9 q10 s10 g10 q11 s11 g11 q12 s12 g12 q13 s13 g13 q14 s14 g14 q15 s15 g15 F44
  go_upto_region 56 with fail
  refine fr_region ?_
  refine fr2 F45 205 (.pointer (some ⟨gQ,ni*260,none⟩)) w5 rfl (by decide) ?_ fun _ F46=>?_
  ·have e202:=F45.kn 202 _ rfl;have e200:=F45.kn 200 _ rfl;go_wp2;exact ⟨_,rfl,rfl,rfl⟩
  clear F45
  refine fr_op0 F46 rfl (fun w'=>w'.ownsRow (w.heap.size+1) 38 260 (.slice (some ⟨gQ,0,none⟩) (ni+1) cQ) (ni+1) (csi ++ (dnC k9 m9 z9 p9 B9 n9 c9))∧Chg [gQ] w5 w') ?_ ?_
  ·have e205:=F46.kn 205 _ rfl
   have e199:=F46.kn 199 _ rfl
   refine store_last rfl (.tmp 205) (.tmp 199) rfl (l0:=(dnC 0 0 false (fun _=>false) none 0 0)) (l:=(dnC k9 m9 z9 p9 B9 n9 c9)) hown8 HCSL.out (dn_len _ _ _ _ _ _ _) (dn_ones _ _ _ _ _ _ _) (F46.ev (t:=205) rfl) (F46.ev (t:=199) rfl) ?_
   intro w' hown hc
   exact ⟨_,rfl,hown,hc⟩
  rintro a47 w9 ⟨hownN,hcN⟩ F47
  clear F46
  refine fr_end ?_
  have hone:=hone0.doS (u:=undef) HAP.out hownN hcN
  obtain ⟨hown9,hat9⟩:=hone.it1 _ rfl
  have hrow9:=hone.row1 _ _ rfl rfl
  have hc9:=hone.chg
  go_upto_region 58 with fail
  refine fr_region ?_
  refine fr_mv F47 7 220 (.inl rfl) rfl rfl (by decide) rfl fun _ F48=>?_
  clear F47
  refine fr2 F48 221 (.int .i64 (i1:Nat)) w9 rfl (by decide) ?_ fun _ F49=>?_
  ·have e220:=F48.kn 220 _ rfl
   have h9:=HI1.out
   have hw:IntKind.i64.wrap ((i:Int)+1)=(i:Int)+1:=wrap_id (by omega) (by omega)
   go_wp2
   first | exact ⟨_,rfl,rfl,rfl⟩ | exact ⟨_,rfl,congrArg (Value.int .i64) (by omega),rfl⟩
  clear F48
  refine fr_mv F49 221 7 (.inr rfl) rfl rfl (by decide) rfl fun _ F50=>?_
  clear F49
  refine fr_end ?_
  go_upto_region 59 with fail
  refine fr_region ?_
  refine fr_as F50 6 (.inr rfl) rfl rfl (by decide) fun _ F51=>?_
  clear F50
  refine fr_end ?_
  go_wp2
  have hrun9:=HRUN9.out
  rw [HI1.out] at hrun9
  have hi1':=HI1.out
  have hsz9:=HX2.out.size
  have hNT:=HDC.out.keep HX2.out
  have hni:=HNI.out
  have hps9:=grow_items HPSW.out hc9 (by rw [hni];exact hown9) hat9 (dkidsV_map (fun t v h=>DNodeV.keep h HX2.out) HKI.out) hNT (by rw [hN];exact hrow9)
  have hxc:∀ k,k<w.heap.size+1→k ∉ (Value.ownBlock (.slice Ai ni ci)).toList ++ (Value.ownBlock (.slice (some ⟨gs,0,none⟩) (N+1) cap)).toList:=fun k hk hm=>by
   rcases List.mem_append.1 hm with h1 | h1
   ·have:=(HI.out.lt k (by simpa using h1)).1;omega
   ·have:=(HPS.out.row.lt k (by simpa using h1)).1;omega
  have hex9:Ext w w9:=by
   have h9:=HEX.out.trans HX2.out
   refine ⟨hc9.os.trans h9.os,hc9.tape.trans h9.tape,hc9.output.trans h9.output,Nat.le_trans h9.size hc9.size,fun k hk=>(hc9.block k (Nat.lt_of_lt_of_le hk h9.size) (hxc k (by omega))).trans (h9.block k hk)⟩
  have hb29:=Blk.chg (HB2.out.keep HX2.out) hc9 (hxc _ (by omega))
  refine HKK.out _ _ (Handed.intro (l.length-i1) (by omega) (HJ.out _ _ _ ⟨_,_,_,_,Fr.cons (Fr.cons (Fr.cons (Fr.cons (Fr.cons (Fr.cons F51.nil (F51.kn 7 _ rfl)) (F51.kn 6 _ rfl)) (F51.kn 5 _ rfl)) (F51.kn 4 _ rfl)) (F51.kn 2 _ rfl)) (F51.kn 0 _ rfl),num,alts,items ++ [TC],r,gr,i1,true,st,_,_,gs,cap,N,rfl,hN,rfl,rfl,rfl,rfl,hps9,HMO.out,hrun9,by omega,hgr,by omega,fun y hy=>?_,hex9,hb29⟩))
  rcases List.mem_append.1 hy with h9 | h9
  ·have h8:=HBD.out y (List.mem_append.2 (.inl h9));omega
  ·have h8:=HBD.out _ (List.mem_append.2 (.inr (List.mem_singleton.2 rfl)));rw [List.mem_singleton.1 h9];dsimp only at h8 ⊢;rw [List.length_append];simp only [List.length_singleton];omega
end Go.Proofs.YtigmdlchbjanoaaGreatDoor
