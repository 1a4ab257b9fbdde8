/- Put together: Rp9c. -/
import Derived.Test.YtigmdlchbjanoaaGreatDoorPGvE
namespace Go.Proofs.YtigmdlchbjanoaaGreatDoor
open Go Go.RowKit
set_option maxHeartbeats 40000000 in
set_option maxRecDepth 20000 in
theorem way5 (l:List UInt8) (R:PR) (w:World) (_:(l.length:Int)≤120) (HZ8:Hid (Tryz.zeroCells38.toList.length=260)) (_:Hid (R ≠ .out)) (HL:Hid (l.length≤120)) (Q:Exit→Act→World→Prop)
  (HRET:Hid (∀ a w',bodyPost Tryz.prog Tryz.f30 (fun e w'=>RefRes w R e w') .ret a w' → Q .ret a w')) (gk:Nat) (a0:Act) (wr:World) (J:Nat→Act→World→Prop) (K:Act→World→Prop)
  (HJ:Hid (∀ k a' w',LInv l R w k a' w' → J k a' w')) (HKK:Hid (∀ a' w',Handed J gk a' w' → K a' w')) (sv gv av iv:Value)
  (F0:Fr 280 [(0,.string ⟨l.toArray⟩),(2,.pointer (some ⟨w.heap.size,0,none⟩)),(4,sv),(5,gv),(6,av),(7,iv)] a0) (hrel:PInv l R w gk sv gv av iv wr)
  (i:Nat) (hiv:iv=.int .i64 (i:Nat)) (c:UInt8) (hlt:i<l.length) (hc:l[i]'hlt=c) (hrep:¬ isRep c) (k124:c ≠ 124) (k40:c ≠ 40) (k41:c ≠ 41) :
  Code.wp Tryz.prog bodyP (Exit.then K Q) a0 wr:=by
 have H9hrep:=Lib.hid hrep
 have H9k124:=Lib.hid k124
 have H9k40:=Lib.hid k40
 have H9k41:=Lib.hid k41
 clear hrep k124 k40 k41
 unfold bodyP
 unfold Tryz.f30
 dsimp only [loopIn,Option.getD,Option.bind]
 obtain ⟨num,alts,items,rest,gr,i9,ag,st,va,vi,gs,cap,N,rfl,hN,rfl,rfl,rfl,rfl,hps,hmo,hrun,hil,hgr,hN8,hbd,hext,hb2⟩:=hrel
 obtain rfl:i=i9:=by
  simp only [Value.int.injEq,true_and] at hiv
  omega
 clear hiv
 obtain ⟨hcap,hcm,hBg,hglt,hfr,y0,y1,y2⟩:=hps.head hN
 dsimp only at y0 y1 y2
 have HPS:=Lib.hid hps
 have HMO:=Lib.hid hmo
 have HRUN:=Lib.hid hrun
 have HBD:=Lib.hid hbd
 have HEX:=Lib.hid hext
 have HB2:=Lib.hid hb2
 clear hps hmo hrun hbd hext hb2
 have hlt':(i:Int)<(l.length:Int):=by omega
 have HLI:=Lib.hid (show l[i]?=some c by rw [List.getElem?_eq_getElem hlt,hc])
 go_upto_region 6 with fail
 refine fr_region ?_
 refine fr_mv F0 7 24 (.inl rfl) rfl rfl (by decide) rfl fun _ F1=>?_
 clear F0
 refine fr_mv F1 0 25 (.inl rfl) rfl rfl (by decide) rfl fun _ F2=>?_
 clear F1
 refine fr2 F2 26 (.int .i64 (l.length:Nat)) wr rfl (by decide) ?_ fun _ F3=>?_
 ·have e25:=F2.kn 25 _ rfl;go_wp2;exact ⟨_,rfl,rfl,rfl⟩
 clear F2
 refine fr2 F3 27 (.bool true) wr rfl (by decide) ?_ fun _ F4=>?_
 ·have e24:=F3.kn 24 _ rfl;have e26:=F3.kn 26 _ rfl;go_wp2;exact ⟨_,rfl,rfl,rfl⟩
 clear F3
 refine fr_end ?_
 go_upto_if 27 with fail
 refine wp_cond_true (F4.ev (t:=27) rfl) ?_
 go_upto_region 7 with fail
 refine fr_region ?_
 refine fr_mv F4 4 28 (.inl rfl) rfl rfl (by decide) rfl fun _ F5=>?_
 clear F4
 refine fr2 F5 29 (.int .i64 ((N:Int)+1)) wr rfl (by decide) ?_ fun _ F6=>?_
 ·have e28:=F5.kn 28 _ rfl;go_wp2;exact ⟨_,rfl,rfl,rfl⟩
 clear F5
 refine fr2 F6 30 (.int .i64 (N:Nat)) wr rfl (by decide) ?_ fun _ F7=>?_
 ·have e29:=F6.kn 29 _ rfl;go_wp2;exact ⟨_,rfl,rfl,rfl⟩
 clear F6
 refine fr_mv F7 30 8 (.inr rfl) rfl rfl (by decide) rfl fun _ F8=>?_
 clear F7
 refine fr_end ?_
 go_upto_region 8 with fail
 refine fr_region ?_
 refine fr_mv F8 0 31 (.inl rfl) rfl rfl (by decide) rfl fun _ F9=>?_
 clear F8
 refine fr_mv F9 7 32 (.inl rfl) rfl rfl (by decide) rfl fun _ F10=>?_
 clear F9
 refine fr2 F10 33 (.int .u8 (c.toNat:Nat)) wr rfl (by decide) ?_ fun _ F11=>?_
 ·have e31:=F10.kn 31 _ rfl;have e32:=F10.kn 32 _ rfl;go_wp2;exact ⟨_,rfl,rfl,rfl⟩
 clear F10
 refine fr_mv F11 33 9 (.inr rfl) rfl rfl (by decide) rfl fun _ F12=>?_
 clear F11
 refine fr_end ?_
 have hrep:=H9hrep.out
 have k124:=H9k124.out
 have k40:=H9k40.out
 have k41:=H9k41.out
 clear H9hrep H9k124 H9k40 H9k41
 have z42:((c.toNat:Int) == 42)=false:=u8_ne (fun h=>hrep (.inl h))
 have z43:((c.toNat:Int) == 43)=false:=u8_ne (fun h=>hrep (.inr (.inl h)))
 have z63:((c.toNat:Int) == 63)=false:=u8_ne (fun h=>hrep (.inr (.inr h)))
 have z124:((c.toNat:Int) == 124)=false:=u8_ne k124
 have z40:((c.toNat:Int) == 40)=false:=u8_ne k40
 have z41:((c.toNat:Int) == 41)=false:=u8_ne k41
 have HK:=Lib.hid (And.intro hrep (And.intro k124 (And.intro k40 k41)))
 clear hrep k124 k40 k41
 obtain ⟨⟨csa,ha,hka⟩,⟨csi,hi,hki⟩⟩:=HPS.out.each _ (List.mem_append.2 (.inr (List.mem_singleton.2 rfl)))
 dsimp only at ha hka hi hki
 have hbd9:=HBD.out _ (List.mem_append.2 (.inr (List.mem_singleton.2 rfl)))
 dsimp only at hbd9
 obtain ⟨na,hna⟩:∃ na,alts.length=na:=⟨_,rfl⟩
 obtain ⟨ni,hni⟩:∃ ni,items.length=ni:=⟨_,rfl⟩
 rw [hna] at ha hbd9
 rw [hni] at hi hbd9
 obtain ⟨Aa,ca,rfl,hca,hma,hRa⟩:=own_rd ha
 obtain ⟨Ai,ci,rfl,hci,hmi,hRi⟩:=own_rd hi
 have HA:=Lib.hid ha
 have HKA:=Lib.hid hka
 have HI:=Lib.hid hi
 have HKI:=Lib.hid hki
 have HRA:=Lib.hid hRa
 have HRI:=Lib.hid hRi
 have HNA:=Lib.hid hna
 have HNI:=Lib.hid hni
 have hn120:na≤120∧ni≤120:=by have:=HL.out;omega
 have HCC:=Lib.hid (And.intro (And.intro hca hma) (And.intro hci hmi))
 clear ha hka hi hki hRa hRi hna hni hbd9 hca hma hci hmi
 go_upto_region 9 with fail
 refine fr_region ?_
 refine fr_mv F12 9 34 (.inl rfl) rfl rfl (by decide) rfl fun _ F13=>?_
 clear F12
 refine fr2 F13 35 (.bool false) wr rfl (by decide) ?_ fun _ F14=>?_
 ·have e34:=F13.kn 34 _ rfl;go_wp2;exact ⟨_,rfl,rfl,rfl⟩
 clear F13
 refine fr_mv F14 35 36 (.inl rfl) rfl rfl (by decide) rfl fun _ F15=>?_
 clear F14
 refine fr2 F15 37 (.int .u8 (c.toNat:Nat)) wr rfl (by decide) ?_ fun _ F16=>?_
 ·have e9:=F15.kn 9 _ rfl;have e36:=F15.kn 36 _ rfl;go_wp2;exact ⟨_,rfl,rfl,rfl⟩
 clear F15
 refine fr2 F16 38 (.bool false) wr rfl (by decide) ?_ fun _ F17=>?_
 ·have e37:=F16.kn 37 _ rfl;have e36:=F16.kn 36 _ rfl;go_wp2;exact ⟨_,rfl,rfl,rfl⟩
 clear F16
 refine fr2 F17 39 (.bool false) wr rfl (by decide) ?_ fun _ F18=>?_
 ·have e36:=F17.kn 36 _ rfl;have e38:=F17.kn 38 _ rfl;go_wp2;exact ⟨_,rfl,rfl,rfl⟩
 clear F17
 refine fr_mv F18 39 40 (.inl rfl) rfl rfl (by decide) rfl fun _ F19=>?_
 clear F18
 refine fr2 F19 41 (.int .u8 (c.toNat:Nat)) wr rfl (by decide) ?_ fun _ F20=>?_
 ·have e9:=F19.kn 9 _ rfl;have e40:=F19.kn 40 _ rfl;go_wp2;exact ⟨_,rfl,rfl,rfl⟩
 clear F19
 refine fr2 F20 42 (.bool false) wr rfl (by decide) ?_ fun _ F21=>?_
 ·have e41:=F20.kn 41 _ rfl;have e40:=F20.kn 40 _ rfl;go_wp2;exact ⟨_,rfl,rfl,rfl⟩
 clear F20
 refine fr2 F21 43 (.bool false) wr rfl (by decide) ?_ fun _ F22=>?_
 ·have e40:=F21.kn 40 _ rfl;have e42:=F21.kn 42 _ rfl;go_wp2;exact ⟨_,rfl,rfl,rfl⟩
 clear F21
 refine fr_end ?_
 go_upto_if 43 with fail
 refine wp_cond_false (F22.ev (t:=43) rfl) ?_
 go_upto_region 27 with fail
 refine fr_region ?_
 refine fr_as F22 6 (.inr rfl) rfl rfl (by decide) fun _ F23=>?_
 clear F22
 refine fr_end ?_
 go_upto_region 28 with fail
 refine fr_region ?_
 refine fr_mv F23 9 105 (.inl rfl) rfl rfl (by decide) rfl fun _ F24=>?_
 clear F23
 refine fr_end ?_
 go_upto_region 29 with fail
 refine fr_region ?_
 refine fr2 F24 107 (.bool false) wr rfl (by decide) ?_ fun _ F25=>?_
 ·have e105:=F24.kn 105 _ rfl;go_wp2;exact ⟨_,rfl,rfl,rfl⟩
 clear F24
 refine fr_mv F25 107 106 (.inr rfl) rfl rfl (by decide) rfl fun _ F26=>?_
 clear F25
 refine fr_end ?_
 go_upto_if 106 with fail
 refine wp_cond_false (F26.ev (t:=106) rfl) ?_
 go_upto_region 33 with fail
 refine fr_region ?_
 refine fr2 F26 132 (.bool false) wr rfl (by decide) ?_ fun _ F27=>?_
 ·have e105:=F26.kn 105 _ rfl;go_wp2;exact ⟨_,rfl,rfl,rfl⟩
 clear F26
 refine fr_mv F27 132 131 (.inr rfl) rfl rfl (by decide) rfl fun _ F28=>?_
 clear F27
 refine fr_end ?_
 go_upto_if 131 with fail
 refine wp_cond_false (F28.ev (t:=131) rfl) ?_
 go_upto_region 49 with fail
 refine fr_region ?_
 refine fr2 F28 176 (.bool false) wr rfl (by decide) ?_ fun _ F29=>?_
 ·have e105:=F28.kn 105 _ rfl;go_wp2;exact ⟨_,rfl,rfl,rfl⟩
 clear F28
 refine fr_mv F29 176 175 (.inr rfl) rfl rfl (by decide) rfl fun _ F30=>?_
 clear F29
 refine fr_end ?_
 go_upto_if 175 with fail
 refine wp_cond_false (F30.ev (t:=175) rfl) ?_
 go_upto_region 60 with fail
 have hw9:IntKind.i64.wrap ((i:Int)+1)=(i:Int)+1:=wrap_id (by omega) (by omega)
 refine fr_region ?_
 refine fr_mv F30 0 222 (.inl rfl) rfl rfl (by decide) rfl fun _ F31=>?_
 clear F30
 refine fr_mv F31 7 223 (.inl rfl) rfl rfl (by decide) rfl fun _ F32=>?_
 clear F31
 refine fr_mv F32 7 224 (.inl rfl) rfl rfl (by decide) rfl fun _ F33=>?_
 clear F32
 refine fr2 F33 225 (.int .i64 ((i:Int)+1)) wr rfl (by decide) ?_ fun _ F34=>?_
 ·have e224:=F33.kn 224 _ rfl;go_wp2;exact ⟨_,rfl,rfl,rfl⟩
 clear F33
 refine fr2 F34 226 (.string ⟨((l.take (i+1)).drop i).toArray⟩) wr rfl (by decide) ?_ fun _ F35=>?_
 ·have e222:=F34.kn 222 _ rfl;have e223:=F34.kn 223 _ rfl;have e225:=F34.kn 225 _ rfl;go_wp2;exact ⟨_,rfl,rfl,rfl⟩
 clear F34
 refine fr_op F35 227 rfl (by decide) (AtX (bp (fun j=>((l.take (i+1)).drop i).any fun c=>c.toNat == j)) wr) ?_ ?_
 ·have e226:=F35.kn 226 _ rfl
  go_wp2_with (go_at_call 25;refine (refIn ((l.take (i+1)).drop i) (by rw [List.length_drop,List.length_take];omega) _).mono ?_;rintro e w9 ⟨rfl,hx9⟩)
  exact ⟨_,rfl,rfl,hx9⟩
 rintro a36 _ w1 ⟨rfl,hx1⟩ F36
 clear F35
 refine fr_op F36 15 rfl (by decide) (At2 (.pointer (some ⟨w1.heap.size,0,none⟩)) (w1.alloc (.cells Tryz.zeroCells35 35))) ?_ ?_
 ·go_wp2
  exact ⟨_,rfl,rfl,rfl⟩
 rintro a37 _ _ ⟨rfl,rfl⟩ F37
 clear F36
 refine fr_op0 F37 rfl (fun w'=>Ext w1 w' ∧ BB w' w1.heap.size (fun j=>((l.take (i+1)).drop i).any fun c=>c.toNat == j)) ?_ ?_
 ·have e15:=F37.kn 15 _ rfl
  have e227:=F37.kn 227 _ rfl
  refine store_set rfl (.tmp 15) (.tmp 227) rfl (g:=w1.heap.size) (F37.ev (t:=15) rfl) (F37.ev (t:=227) rfl) (BB.zero rfl) ?_
  exact ⟨_,rfl,(made w1 _).2,(made w1 _).1⟩
 rintro a38 w2 ⟨hx2,hbb⟩ F38
 clear F37
 refine fr_as F38 16 (.inr rfl) rfl rfl (by decide) fun _ F39=>?_
 clear F38
 refine fr_as F39 17 (.inr rfl) rfl rfl (by decide) fun _ F40=>?_
 clear F39
 refine fr_end ?_
 have hxW:=hx1.trans hx2
 have hg15:wr.heap.size≤w1.heap.size:=hx1.size
 by_cases k46:c=46
 ·have z46:((c.toNat:Int) == 46)=true:=by rw [k46];rfl
  have z91:((c.toNat:Int) == 91)=false:=by rw [k46];rfl
  have z92:((c.toNat:Int) == 92)=false:=by rw [k46];rfl
  have HK46:=Lib.hid k46
  clear k46
  go_upto_region 61 with fail
  refine fr_region ?_
  refine fr_mv F40 9 228 (.inl rfl) rfl rfl (by decide) rfl fun _ F41=>?_
  clear F40
  refine fr2 F41 229 (.bool true) w2 rfl (by decide) ?_ fun _ F42=>?_
  ·have e228:=F41.kn 228 _ rfl;go_wp2;exact ⟨_,rfl,rfl,rfl⟩
  clear F41
  refine fr_end ?_
  go_upto_if 229 with fail
  refine wp_cond_true (F42.ev (t:=229) rfl) ?_
  go_upto_region 62 with fail
  refine fr_region ?_
  refine fr_op F42 230 rfl (by decide) (AtX (bp (fun j=>decide (0≤j) && decide (j≤255))) w2) ?_ ?_
  ·go_wp2_with (go_at_call 27;refine (refFrom 0 255 (by omega) (by omega) _).mono ?_;rintro e w9 ⟨rfl,hx9⟩)
   exact ⟨_,rfl,rfl,hx9⟩
  rintro a43 _ w3 ⟨rfl,hx3⟩ F43
  clear F42
  refine fr_op0 F43 rfl (fun w'=>Ext wr w' ∧ BB w' w1.heap.size (fun j=>decide (0≤j) && decide (j≤255))) ?_ ?_
  ·have e15:=F43.kn 15 _ rfl
   have e230:=F43.kn 230 _ rfl
   refine store_set rfl (.tmp 15) (.tmp 230) rfl (g:=w1.heap.size) (F43.ev (t:=15) rfl) (F43.ev (t:=230) rfl) (hbb.keep hx3) ?_
   exact ⟨_,rfl,Ext.row (hxW.trans hx3) _ _ hg15,(hbb.keep hx3).row _⟩
  rintro a44 w4 ⟨hxW,hbb⟩ F44
  clear F43
  refine fr_end ?_
  go_upto_region 63 with fail
  refine fr_region ?_
  refine fr_mv F44 9 231 (.inl rfl) rfl rfl (by decide) rfl fun _ F45=>?_
  clear F44
  refine fr2 F45 232 (.bool false) w4 rfl (by decide) ?_ fun _ F46=>?_
  ·have e231:=F45.kn 231 _ rfl;go_wp2;exact ⟨_,rfl,rfl,rfl⟩
  clear F45
  refine fr_end ?_
  go_upto_if 232 with fail
  refine wp_cond_false (F46.ev (t:=232) rfl) ?_
  go_upto_region 65 with fail
  refine fr_region ?_
  refine fr_mv F46 9 241 (.inl rfl) rfl rfl (by decide) rfl fun _ F47=>?_
  clear F46
  refine fr2 F47 242 (.bool false) w4 rfl (by decide) ?_ fun _ F48=>?_
  ·have e241:=F47.kn 241 _ rfl;go_wp2;exact ⟨_,rfl,rfl,rfl⟩
  clear F47
  refine fr_end ?_
  have HONE:=Lib.hid (show oneS l i c=(allP,1,0) from by unfold oneS;rw [HK46.out];rfl)
  go_upto_if 242 with fail
  refine wp_cond_false (F48.ev (t:=242) rfl) ?_
  go_upto_region 67 with fail
  have HXW:=Lib.hid hxW
  have hst:=stp_set (num:=num) (alts:=alts) (items:=items) (rest:=rest) (gr:=gr) (ag:=ag) HLI.out HK.out.1 HK.out.2.1 HK.out.2.2.1 HK.out.2.2.2
  have HST:=Lib.hid hst
  clear hst
  have HER:=Lib.hid (show (oneS l i c).2.2=0 by rw [HONE.out])
  have HSZ:=Lib.hid (show (oneS l i c).2.1=1 by rw [HONE.out])
  have hbnd:=one_bound HLI.out HER.out
  rw [HSZ.out] at hbnd
  obtain ⟨hb91,hb92⟩:=hbnd
  refine fr_region ?_
  refine fr_mv F48 17 252 (.inl rfl) rfl rfl (by decide) rfl fun _ F49=>?_
  clear F48
  refine fr2 F49 253 (.bool false) w4 rfl (by decide) ?_ fun _ F50=>?_
  ·have e252:=F49.kn 252 _ rfl;go_wp2;exact ⟨_,rfl,rfl,rfl⟩
  clear F49
  refine fr_end ?_
  go_upto_if 253 with fail
  refine wp_cond_false (F50.ev (t:=253) rfl) ?_
  go_upto_region 69 with fail
  have HBB0:=Lib.hid hg15
  have HX2:=Lib.hid hxW
  have HBB:=Lib.hid hbb
  have HPSW:=Lib.hid (HPS.out.keep hxW)
  clear hx1 hx2 hbb hxW hw9 hfr y0 y1 y2
  have HROW:=Lib.hid (show w4.ownsRow (w.heap.size+1) 98 3 (.slice (some ⟨gs,0,none⟩) (N+1) cap) (N+1) (cellsO st ++ OpS.cells ⟨⟨num,alts,items⟩,.slice Aa na ca,.slice Ai ni ci⟩) from by have h9:=HPSW.out.row;rwa [List.length_append,List.length_singleton,hN,cellsO_snoc] at h9)
  have HI2:=Lib.hid (own_ext HI.out HX2.out)
  have HSW:=Lib.hid (show w.heap.size+1≤w4.heap.size by have:=HX2.out.size;omega)
  have HAP:=Lib.hid (show OneAp0 w4 ((Value.ownBlock (.slice Ai ni ci)).toList ++ (Value.ownBlock (.slice (some ⟨gs,0,none⟩) (N+1) cap)).toList) (.slice Ai ni ci) (.slice (some ⟨gs,0,none⟩) (N+1) cap) from ⟨fun k hk=>List.mem_append.2 (.inl (by simp [hk])),fun k hk=>List.mem_append.2 (.inr (by simp [hk])),fun k hk=>HPSW.out.apart k (by unfold OpS.live;rw [List.mem_append];exact .inr (by simp [hk])),fun k hk=>HPSW.out.liveLt k (by unfold liveO;rw [List.mem_append];exact .inl (by simp [hk]))⟩)
  have HG15:=Lib.hid (show w1.heap.size ∉ (Value.ownBlock (.slice Ai ni ci)).toList ++ (Value.ownBlock (.slice (some ⟨gs,0,none⟩) (N+1) cap)).toList from fun hm=>by
   have h9:=HBB0.out
   rcases List.mem_append.1 hm with h1 | h1
   ·have:=HPS.out.liveLt _ (show w1.heap.size ∈ _ from by rw [liveO_snoc,List.mem_append];exact .inr (by unfold OpS.live;rw [List.mem_append];exact .inr h1));omega
   ·have:=HPS.out.liveLt _ (show w1.heap.size ∈ _ from by unfold liveO;rw [List.mem_append];exact .inl h1);omega)
  have HCSL:=Lib.hid (show csi.length=ni*260 from HI.out.1)
  have HLO:=Lib.hid (dn_ones 2 0 false (fun j=>decide (0≤j) && decide (j≤255)) none 0 0)
  have HLL:=Lib.hid (dn_len 2 0 false (fun j=>decide (0≤j) && decide (j≤255)) none 0 0)
  refine app69 (num:=num) (alts:=alts) (items:=items) (Fr.cons (Fr.cons (Fr.cons (Fr.cons (Fr.cons (Fr.cons (Fr.cons (Fr.cons F50.nil (F50.kn 16 _ rfl)) (F50.kn 15 _ rfl)) (F50.kn 8 _ rfl)) (F50.kn 7 _ rfl)) (F50.kn 5 _ rfl)) (F50.kn 4 _ rfl)) (F50.kn 2 _ rfl)) (F50.kn 0 _ rfl)) hcap hcm HCC hn120 hN8 hN HBB HG15 HROW HI2 HSW HAP HCSL HLO HLL (Lib.hid fun a51 w9 v9 F51 hown9 hat9 hrow9 hc9=>?_)
  clear F50
  obtain ⟨i1,hi1⟩:∃ i1,i+1=i1:=⟨_,rfl⟩
  have HI1:=Lib.hid hi1
  have hi3:i1≤120:=by have:=HL.out;omega
  clear hi1
  go_upto_region 70 with fail
  refine fr_region ?_
  refine fr_mv F51 7 269 (.inl rfl) rfl rfl (by decide) rfl fun _ F52=>?_
  clear F51
  refine fr_mv F52 16 270 (.inl rfl) rfl rfl (by decide) rfl fun _ F53=>?_
  clear F52
  refine fr2 F53 271 (.int .i64 (i1:Nat)) w9 rfl (by decide) ?_ fun _ F54=>?_
  ·have e269:=F53.kn 269 _ rfl
   have e270:=F53.kn 270 _ rfl
   have h9:=HI1.out
   have hw:IntKind.i64.wrap ((i:Int)+1)=(i:Int)+1:=wrap_id (by omega) (by omega)
   go_wp2
   first | exact ⟨_,rfl,rfl,rfl⟩ | exact ⟨_,rfl,congrArg (Value.int .i64) (by omega),rfl⟩
  clear F53
  refine fr_mv F54 271 7 (.inr rfl) rfl rfl (by decide) rfl fun _ F55=>?_
  clear F54
  refine fr_end ?_
  go_upto_region 71 with fail
  refine fr_region ?_
  refine fr_as F55 6 (.inr rfl) rfl rfl (by decide) fun _ F56=>?_
  clear F55
  refine fr_end ?_
  go_wp2
  have hrun9:=runs_go HRUN.out (HST.out.trans (if_pos HER.out))
  rw [show i+(oneS l i c).2.1=i1 by rw [HSZ.out];exact HI1.out] at hrun9
  have hP:∀ j,j<256→(fun j=>decide (0≤j) && decide (j≤255)) j=(oneS l i c).1 j:=fun j hj=>by rw [HONE.out];simp [allP];omega
  have hi1':=HI1.out
  have hsz9:=HX2.out.size
  have hNT:DNodeV (fun b=>w.heap.size+1≤b∧b ∉ liveO (.slice (some ⟨gs,0,none⟩) (N+1) cap) (st ++ [⟨⟨num,alts,items⟩,.slice Aa na ca,.slice Ai ni ci⟩])) w4 (.node 2 0 false (oneS l i c).1 []) (dnC 2 0 false (fun j=>decide (0≤j) && decide (j≤255)) none 0 0):=by rw [dn_congr hP];exact dnode_leaf 2 0 false _
  have hni:=HNI.out
  have hps9:=grow_items HPSW.out hc9 (by rw [hni];exact hown9) hat9 (dkidsV_map (fun t v h=>DNodeV.keep h HX2.out) HKI.out) hNT (by rw [hN];exact hrow9)
  have hxc:∀ k,k<w.heap.size+1→k ∉ (Value.ownBlock (.slice Ai ni ci)).toList ++ (Value.ownBlock (.slice (some ⟨gs,0,none⟩) (N+1) cap)).toList:=fun k hk hm=>by
   rcases List.mem_append.1 hm with h1 | h1
   ·have:=(HI.out.lt k (by simpa using h1)).1;omega
   ·have:=(HPS.out.row.lt k (by simpa using h1)).1;omega
  have hex9:Ext w w9:=by
   have h9:=HEX.out.trans HX2.out
   refine ⟨hc9.os.trans h9.os,hc9.tape.trans h9.tape,hc9.output.trans h9.output,Nat.le_trans h9.size hc9.size,fun k hk=>(hc9.block k (Nat.lt_of_lt_of_le hk h9.size) (hxc k (by omega))).trans (h9.block k hk)⟩
  have hb29:=Blk.chg (HB2.out.keep HX2.out) hc9 (hxc _ (by omega))
  refine HKK.out _ _ (Handed.intro (l.length-i1) (by omega) (HJ.out _ _ _ ⟨_,_,_,_,Fr.cons (Fr.cons (Fr.cons (Fr.cons (Fr.cons (Fr.cons F56.nil (F56.kn 7 _ rfl)) (F56.kn 6 _ rfl)) (F56.kn 5 _ rfl)) (F56.kn 4 _ rfl)) (F56.kn 2 _ rfl)) (F56.kn 0 _ rfl),num,alts,items ++ [.node 2 0 false (oneS l i c).1 []],rest,gr,i1,true,st,_,_,gs,cap,N,rfl,hN,rfl,rfl,rfl,rfl,hps9,HMO.out,hrun9,by omega,hgr,hN8,fun y hy=>?_,hex9,hb29⟩))
  rcases List.mem_append.1 hy with h9 | h9
  ·have h8:=HBD.out y (List.mem_append.2 (.inl h9));omega
  ·have h8:=HBD.out _ (List.mem_append.2 (.inr (List.mem_singleton.2 rfl)));rw [List.mem_singleton.1 h9];dsimp only at h8 ⊢;rw [List.length_append];simp only [List.length_singleton];omega
 by_cases k91:c=91
 ·have z46:((c.toNat:Int) == 46)=false:=u8_ne k46
  have z91:((c.toNat:Int) == 91)=true:=by rw [k91];rfl
  have z92:((c.toNat:Int) == 92)=false:=by rw [k91];rfl
  have HK46:=Lib.hid k46
  have HK91:=Lib.hid k91
  clear k46 k91
  go_upto_region 61 with fail
  refine fr_region ?_
  refine fr_mv F40 9 228 (.inl rfl) rfl rfl (by decide) rfl fun _ F41=>?_
  clear F40
  refine fr2 F41 229 (.bool false) w2 rfl (by decide) ?_ fun _ F42=>?_
  ·have e228:=F41.kn 228 _ rfl;go_wp2;exact ⟨_,rfl,rfl,rfl⟩
  clear F41
  refine fr_end ?_
  go_upto_if 229 with fail
  refine wp_cond_false (F42.ev (t:=229) rfl) ?_
  go_upto_region 63 with fail
  refine fr_region ?_
  refine fr_mv F42 9 231 (.inl rfl) rfl rfl (by decide) rfl fun _ F43=>?_
  clear F42
  refine fr2 F43 232 (.bool true) w2 rfl (by decide) ?_ fun _ F44=>?_
  ·have e231:=F43.kn 231 _ rfl;go_wp2;exact ⟨_,rfl,rfl,rfl⟩
  clear F43
  refine fr_end ?_
  go_upto_if 232 with fail
  refine wp_cond_true (F44.ev (t:=232) rfl) ?_
  go_upto_region 64 with fail
  obtain ⟨t,ht⟩:∃ t,l.drop i=91 :: t:=⟨_,by rw [List.drop_eq_getElem_cons hlt,hc,HK91.out]⟩
  have HPA:=Lib.hid (refParse91 t (by rw [← ht,List.length_drop];omega) w2)
  rw [← ht] at HPA
  clear ht
  refine fr_region ?_
  refine fr_mv F44 0 234 (.inl rfl) rfl rfl (by decide) rfl fun _ F45=>?_
  clear F44
  refine fr_mv F45 7 235 (.inl rfl) rfl rfl (by decide) rfl fun _ F46=>?_
  clear F45
  refine fr2 F46 236 (.string ⟨(l.drop i).toArray⟩) w2 rfl (by decide) ?_ fun _ F47=>?_
  ·have e234:=F46.kn 234 _ rfl;have e235:=F46.kn 235 _ rfl;go_wp2;exact ⟨_,rfl,rfl,rfl⟩
  clear F46
  refine fr_op F47 237 rfl (by decide) (AtX (parseB (parseS (l.drop i))) w2) ?_ ?_
  ·have e236:=F47.kn 236 _ rfl
   go_wp2_with (go_at_call 28;refine HPA.out.mono ?_;rintro e w9 ⟨rfl,hx9⟩)
   exact ⟨_,rfl,rfl,hx9⟩
  rintro a48 _ w3 ⟨rfl,hx3⟩ F48
  clear F47
  refine fr2 F48 233 (.tuple #[bp (parseS (l.drop i)).1,.int .i64 ((parseS (l.drop i)).2.1:Nat),.int .i64 ((parseS (l.drop i)).2.2:Nat)]) w3 rfl (by decide) ?_ fun _ F49=>?_
  ·have e237:=F48.kn 237 _ rfl;go_wp2;exact ⟨_,rfl,rfl,rfl⟩
  clear F48
  refine fr2 F49 238 (bp (parseS (l.drop i)).1) w3 rfl (by decide) ?_ fun _ F50=>?_
  ·have e233:=F49.kn 233 _ rfl;go_wp2;exact ⟨_,rfl,rfl,rfl⟩
  clear F49
  refine fr2 F50 239 (.int .i64 ((parseS (l.drop i)).2.1:Nat)) w3 rfl (by decide) ?_ fun _ F51=>?_
  ·have e233:=F50.kn 233 _ rfl;go_wp2;exact ⟨_,rfl,rfl,rfl⟩
  clear F50
  refine fr2 F51 240 (.int .i64 ((parseS (l.drop i)).2.2:Nat)) w3 rfl (by decide) ?_ fun _ F52=>?_
  ·have e233:=F51.kn 233 _ rfl;go_wp2;exact ⟨_,rfl,rfl,rfl⟩
  clear F51
  refine fr_op0 F52 rfl (fun w'=>Ext wr w' ∧ BB w' w1.heap.size (parseS (l.drop i)).1) ?_ ?_
  ·have e15:=F52.kn 15 _ rfl
   have e238:=F52.kn 238 _ rfl
   refine store_set rfl (.tmp 15) (.tmp 238) rfl (g:=w1.heap.size) (F52.ev (t:=15) rfl) (F52.ev (t:=238) rfl) (hbb.keep hx3) ?_
   exact ⟨_,rfl,Ext.row (hxW.trans hx3) _ _ hg15,(hbb.keep hx3).row _⟩
  rintro a53 w4 ⟨hxW,hbb⟩ F53
  clear F52
  refine fr_mv F53 239 16 (.inr rfl) rfl rfl (by decide) rfl fun _ F54=>?_
  clear F53
  refine fr_mv F54 240 17 (.inr rfl) rfl rfl (by decide) rfl fun _ F55=>?_
  clear F54
  refine fr_end ?_
  go_upto_region 65 with fail
  refine fr_region ?_
  refine fr_mv F55 9 241 (.inl rfl) rfl rfl (by decide) rfl fun _ F56=>?_
  clear F55
  refine fr2 F56 242 (.bool false) w4 rfl (by decide) ?_ fun _ F57=>?_
  ·have e241:=F56.kn 241 _ rfl;go_wp2;exact ⟨_,rfl,rfl,rfl⟩
  clear F56
  refine fr_end ?_
  have HONE:=Lib.hid (show oneS l i c=parseS (l.drop i) from by unfold oneS;rw [HK91.out];rfl)
  go_upto_if 242 with fail
  refine wp_cond_false (F57.ev (t:=242) rfl) ?_
  go_upto_region 67 with fail
  have HXW:=Lib.hid hxW
  have hst:=stp_set (num:=num) (alts:=alts) (items:=items) (rest:=rest) (gr:=gr) (ag:=ag) HLI.out HK.out.1 HK.out.2.1 HK.out.2.2.1 HK.out.2.2.2
  have HST:=Lib.hid hst
  clear hst
  obtain ⟨er,her⟩:∃ er,(parseS (l.drop i)).2.2=er:=⟨_,rfl⟩
  obtain ⟨sz,hsz9⟩:∃ sz,(parseS (l.drop i)).2.1=sz:=⟨_,rfl⟩
  rw [her,hsz9] at F57
  have HER:=Lib.hid (show (oneS l i c).2.2=er by rw [HONE.out];exact her)
  have HSZ:=Lib.hid (show (oneS l i c).2.1=sz by rw [HONE.out];exact hsz9)
  clear her hsz9
  by_cases he:er=0
  rotate_left
  ·have hne:((er:Int) != 0)=true:=by simp;omega
   have hR:=runs_fin HRUN.out (HST.out.trans (if_neg (by rw [HER.out];exact he)))
   rw [HER.out] at hR
   subst hR
   have HE:=Lib.hid he
   clear he
   refine fr_region ?_
   refine fr_mv F57 17 252 (.inl rfl) rfl rfl (by decide) rfl fun _ F58=>?_
   clear F57
   refine fr2 F58 253 (.bool true) w4 rfl (by decide) ?_ fun _ F59=>?_
   ·have e252:=F58.kn 252 _ rfl;go_wp2;exact ⟨_,rfl,rfl,rfl⟩
   clear F58
   refine fr_end ?_
   go_upto_if 253 with fail
   refine wp_cond_true (F59.ev (t:=253) rfl) ?_
   go_upto_region 68 with fail
   go_upto_region 68 with fail
   refine fr_region ?_
   refine fr2 F59 254 (.agg (dnC 0 0 false (fun _=>false) none 0 0).toArray) w4 rfl (by decide) ?_ fun _ F60=>?_
   ·refine build_z rfl rfl ?_
    exact ⟨_,rfl,rfl,rfl⟩
   clear F59
   refine fr_mv F60 17 255 (.inl rfl) rfl rfl (by decide) rfl fun _ F61=>?_
   clear F60
   refine fr_op0 F61 rfl (At1 ((w4.setRow w.heap.size (dnC 0 0 false (fun _=>false) none 0 0).toArray))) ?_ ?_
   ·have e2:=F61.kn 2 _ rfl
    have e254:=F61.kn 254 _ rfl
    refine store_dn rfl (.tmp 2) (.tmp 254) rfl (g:=w.heap.size) (F61.ev (t:=2) rfl) (F61.ev (t:=254) rfl) (HB2.out.keep HXW.out) HZ8.out ?_
    exact ⟨_,rfl,rfl⟩
   rintro a62 _ rfl F62
   clear F61
   refine fr_mv F62 255 3 (.inr rfl) rfl rfl (by decide) rfl fun _ F63=>?_
   clear F62
   refine fr_end ?_
   go_wp2
   exact HRET.out _ _ <| bodyPost_ret (v:=.tuple #[.agg (dnC 0 0 false (fun _=>false) none 0 0).toArray,.int .i64 (er:Nat)]) (results_dn2 rfl (F63.gd (t:=2) rfl) (Blk.row (HB2.out.keep HXW.out) _) (dn_len _ _ _ _ _ _ _) (F63.gd (t:=3) rfl)) F63.defers ⟨Ext.row (HEX.out.trans HXW.out) _ _ (Nat.le_refl _),rfl⟩
  subst he
  have hbnd:=one_bound HLI.out HER.out
  rw [HSZ.out] at hbnd
  obtain ⟨hb91,hb92⟩:=hbnd
  refine fr_region ?_
  refine fr_mv F57 17 252 (.inl rfl) rfl rfl (by decide) rfl fun _ F58=>?_
  clear F57
  refine fr2 F58 253 (.bool false) w4 rfl (by decide) ?_ fun _ F59=>?_
  ·have e252:=F58.kn 252 _ rfl;go_wp2;exact ⟨_,rfl,rfl,rfl⟩
  clear F58
  refine fr_end ?_
  go_upto_if 253 with fail
  refine wp_cond_false (F59.ev (t:=253) rfl) ?_
  go_upto_region 69 with fail
  have HBB0:=Lib.hid hg15
  have HX2:=Lib.hid hxW
  have HBB:=Lib.hid hbb
  have HPSW:=Lib.hid (HPS.out.keep hxW)
  clear hx1 hx2 hbb hxW hw9 hfr y0 y1 y2
  have HROW:=Lib.hid (show w4.ownsRow (w.heap.size+1) 98 3 (.slice (some ⟨gs,0,none⟩) (N+1) cap) (N+1) (cellsO st ++ OpS.cells ⟨⟨num,alts,items⟩,.slice Aa na ca,.slice Ai ni ci⟩) from by have h9:=HPSW.out.row;rwa [List.length_append,List.length_singleton,hN,cellsO_snoc] at h9)
  have HI2:=Lib.hid (own_ext HI.out HX2.out)
  have HSW:=Lib.hid (show w.heap.size+1≤w4.heap.size by have:=HX2.out.size;omega)
  have HAP:=Lib.hid (show OneAp0 w4 ((Value.ownBlock (.slice Ai ni ci)).toList ++ (Value.ownBlock (.slice (some ⟨gs,0,none⟩) (N+1) cap)).toList) (.slice Ai ni ci) (.slice (some ⟨gs,0,none⟩) (N+1) cap) from ⟨fun k hk=>List.mem_append.2 (.inl (by simp [hk])),fun k hk=>List.mem_append.2 (.inr (by simp [hk])),fun k hk=>HPSW.out.apart k (by unfold OpS.live;rw [List.mem_append];exact .inr (by simp [hk])),fun k hk=>HPSW.out.liveLt k (by unfold liveO;rw [List.mem_append];exact .inl (by simp [hk]))⟩)
  have HG15:=Lib.hid (show w1.heap.size ∉ (Value.ownBlock (.slice Ai ni ci)).toList ++ (Value.ownBlock (.slice (some ⟨gs,0,none⟩) (N+1) cap)).toList from fun hm=>by
   have h9:=HBB0.out
   rcases List.mem_append.1 hm with h1 | h1
   ·have:=HPS.out.liveLt _ (show w1.heap.size ∈ _ from by rw [liveO_snoc,List.mem_append];exact .inr (by unfold OpS.live;rw [List.mem_append];exact .inr h1));omega
   ·have:=HPS.out.liveLt _ (show w1.heap.size ∈ _ from by unfold liveO;rw [List.mem_append];exact .inl h1);omega)
  have HCSL:=Lib.hid (show csi.length=ni*260 from HI.out.1)
  have HLO:=Lib.hid (dn_ones 2 0 false (parseS (l.drop i)).1 none 0 0)
  have HLL:=Lib.hid (dn_len 2 0 false (parseS (l.drop i)).1 none 0 0)
  refine app69 (num:=num) (alts:=alts) (items:=items) (Fr.cons (Fr.cons (Fr.cons (Fr.cons (Fr.cons (Fr.cons (Fr.cons (Fr.cons F59.nil (F59.kn 16 _ rfl)) (F59.kn 15 _ rfl)) (F59.kn 8 _ rfl)) (F59.kn 7 _ rfl)) (F59.kn 5 _ rfl)) (F59.kn 4 _ rfl)) (F59.kn 2 _ rfl)) (F59.kn 0 _ rfl)) hcap hcm HCC hn120 hN8 hN HBB HG15 HROW HI2 HSW HAP HCSL HLO HLL (Lib.hid fun a60 w9 v9 F60 hown9 hat9 hrow9 hc9=>?_)
  clear F59
  obtain ⟨i1,hi1⟩:∃ i1,i+sz=i1:=⟨_,rfl⟩
  have HI1:=Lib.hid hi1
  have hi3:i1≤120:=by have:=HL.out;omega
  clear hi1
  go_upto_region 70 with fail
  refine fr_region ?_
  refine fr_mv F60 7 269 (.inl rfl) rfl rfl (by decide) rfl fun _ F61=>?_
  clear F60
  refine fr_mv F61 16 270 (.inl rfl) rfl rfl (by decide) rfl fun _ F62=>?_
  clear F61
  refine fr2 F62 271 (.int .i64 (i1:Nat)) w9 rfl (by decide) ?_ fun _ F63=>?_
  ·have e269:=F62.kn 269 _ rfl
   have e270:=F62.kn 270 _ rfl
   have h9:=HI1.out
   have hw:IntKind.i64.wrap ((i:Int)+(sz:Int))=(i:Int)+(sz:Int):=wrap_id (by omega) (by omega)
   go_wp2
   first | exact ⟨_,rfl,rfl,rfl⟩ | exact ⟨_,rfl,congrArg (Value.int .i64) (by omega),rfl⟩
  clear F62
  refine fr_mv F63 271 7 (.inr rfl) rfl rfl (by decide) rfl fun _ F64=>?_
  clear F63
  refine fr_end ?_
  go_upto_region 71 with fail
  refine fr_region ?_
  refine fr_as F64 6 (.inr rfl) rfl rfl (by decide) fun _ F65=>?_
  clear F64
  refine fr_end ?_
  go_wp2
  have hrun9:=runs_go HRUN.out (HST.out.trans (if_pos HER.out))
  rw [show i+(oneS l i c).2.1=i1 by rw [HSZ.out];exact HI1.out] at hrun9
  have hP:∀ j,j<256→(parseS (l.drop i)).1 j=(oneS l i c).1 j:=fun j hj=>by rw [HONE.out]
  have hi1':=HI1.out
  have hsz9:=HX2.out.size
  have hNT:DNodeV (fun b=>w.heap.size+1≤b∧b ∉ liveO (.slice (some ⟨gs,0,none⟩) (N+1) cap) (st ++ [⟨⟨num,alts,items⟩,.slice Aa na ca,.slice Ai ni ci⟩])) w4 (.node 2 0 false (oneS l i c).1 []) (dnC 2 0 false (parseS (l.drop i)).1 none 0 0):=by rw [dn_congr hP];exact dnode_leaf 2 0 false _
  have hni:=HNI.out
  have hps9:=grow_items HPSW.out hc9 (by rw [hni];exact hown9) hat9 (dkidsV_map (fun t v h=>DNodeV.keep h HX2.out) HKI.out) hNT (by rw [hN];exact hrow9)
  have hxc:∀ k,k<w.heap.size+1→k ∉ (Value.ownBlock (.slice Ai ni ci)).toList ++ (Value.ownBlock (.slice (some ⟨gs,0,none⟩) (N+1) cap)).toList:=fun k hk hm=>by
   rcases List.mem_append.1 hm with h1 | h1
   ·have:=(HI.out.lt k (by simpa using h1)).1;omega
   ·have:=(HPS.out.row.lt k (by simpa using h1)).1;omega
  have hex9:Ext w w9:=by
   have h9:=HEX.out.trans HX2.out
   refine ⟨hc9.os.trans h9.os,hc9.tape.trans h9.tape,hc9.output.trans h9.output,Nat.le_trans h9.size hc9.size,fun k hk=>(hc9.block k (Nat.lt_of_lt_of_le hk h9.size) (hxc k (by omega))).trans (h9.block k hk)⟩
  have hb29:=Blk.chg (HB2.out.keep HX2.out) hc9 (hxc _ (by omega))
  refine HKK.out _ _ (Handed.intro (l.length-i1) (by omega) (HJ.out _ _ _ ⟨_,_,_,_,Fr.cons (Fr.cons (Fr.cons (Fr.cons (Fr.cons (Fr.cons F65.nil (F65.kn 7 _ rfl)) (F65.kn 6 _ rfl)) (F65.kn 5 _ rfl)) (F65.kn 4 _ rfl)) (F65.kn 2 _ rfl)) (F65.kn 0 _ rfl),num,alts,items ++ [.node 2 0 false (oneS l i c).1 []],rest,gr,i1,true,st,_,_,gs,cap,N,rfl,hN,rfl,rfl,rfl,rfl,hps9,HMO.out,hrun9,by omega,hgr,hN8,fun y hy=>?_,hex9,hb29⟩))
  rcases List.mem_append.1 hy with h9 | h9
  ·have h8:=HBD.out y (List.mem_append.2 (.inl h9));omega
  ·have h8:=HBD.out _ (List.mem_append.2 (.inr (List.mem_singleton.2 rfl)));rw [List.mem_singleton.1 h9];dsimp only at h8 ⊢;rw [List.length_append];simp only [List.length_singleton];omega
 by_cases k92:c=92
 ·have z46:((c.toNat:Int) == 46)=false:=u8_ne k46
  have z91:((c.toNat:Int) == 91)=false:=u8_ne k91
  have z92:((c.toNat:Int) == 92)=true:=by rw [k92];rfl
  have HK46:=Lib.hid k46
  have HK91:=Lib.hid k91
  have HK92:=Lib.hid k92
  clear k46 k91 k92
  go_upto_region 61 with fail
  refine fr_region ?_
  refine fr_mv F40 9 228 (.inl rfl) rfl rfl (by decide) rfl fun _ F41=>?_
  clear F40
  refine fr2 F41 229 (.bool false) w2 rfl (by decide) ?_ fun _ F42=>?_
  ·have e228:=F41.kn 228 _ rfl;go_wp2;exact ⟨_,rfl,rfl,rfl⟩
  clear F41
  refine fr_end ?_
  go_upto_if 229 with fail
  refine wp_cond_false (F42.ev (t:=229) rfl) ?_
  go_upto_region 63 with fail
  refine fr_region ?_
  refine fr_mv F42 9 231 (.inl rfl) rfl rfl (by decide) rfl fun _ F43=>?_
  clear F42
  refine fr2 F43 232 (.bool false) w2 rfl (by decide) ?_ fun _ F44=>?_
  ·have e231:=F43.kn 231 _ rfl;go_wp2;exact ⟨_,rfl,rfl,rfl⟩
  clear F43
  refine fr_end ?_
  go_upto_if 232 with fail
  refine wp_cond_false (F44.ev (t:=232) rfl) ?_
  go_upto_region 65 with fail
  refine fr_region ?_
  refine fr_mv F44 9 241 (.inl rfl) rfl rfl (by decide) rfl fun _ F45=>?_
  clear F44
  refine fr2 F45 242 (.bool true) w2 rfl (by decide) ?_ fun _ F46=>?_
  ·have e241:=F45.kn 241 _ rfl;go_wp2;exact ⟨_,rfl,rfl,rfl⟩
  clear F45
  refine fr_end ?_
  go_upto_if 242 with fail
  refine wp_cond_true (F46.ev (t:=242) rfl) ?_
  go_upto_region 66 with fail
  refine fr_region ?_
  refine fr_mv F46 0 244 (.inl rfl) rfl rfl (by decide) rfl fun _ F47=>?_
  clear F46
  refine fr_mv F47 7 245 (.inl rfl) rfl rfl (by decide) rfl fun _ F48=>?_
  clear F47
  refine fr2 F48 246 (.string ⟨(l.drop i).toArray⟩) w2 rfl (by decide) ?_ fun _ F49=>?_
  ·have e244:=F48.kn 244 _ rfl;have e245:=F48.kn 245 _ rfl;go_wp2;exact ⟨_,rfl,rfl,rfl⟩
  clear F48
  refine fr_op F49 247 rfl (by decide) (AtX (sgB (escS (l.drop i))) w2) ?_ ?_
  ·have e246:=F49.kn 246 _ rfl
   go_wp2_with (go_at_call 29;refine (refEscape (l.drop i) (by rw [List.length_drop];omega) _).mono ?_;rintro e w9 ⟨rfl,hx9⟩)
   exact ⟨_,rfl,rfl,hx9⟩
  rintro a50 _ w3 ⟨rfl,hx3⟩ F50
  clear F49
  refine fr2 F50 243 (.tuple #[bp (escS (l.drop i)).set,.bool (escS (l.drop i)).one,.int .i64 ((escS (l.drop i)).size:Nat),.int .i64 ((escS (l.drop i)).err:Nat)]) w3 rfl (by decide) ?_ fun _ F51=>?_
  ·have e247:=F50.kn 247 _ rfl;go_wp2;exact ⟨_,rfl,rfl,rfl⟩
  clear F50
  refine fr2 F51 248 (bp (escS (l.drop i)).set) w3 rfl (by decide) ?_ fun _ F52=>?_
  ·have e243:=F51.kn 243 _ rfl;go_wp2;exact ⟨_,rfl,rfl,rfl⟩
  clear F51
  refine fr2 F52 249 (.bool (escS (l.drop i)).one) w3 rfl (by decide) ?_ fun _ F53=>?_
  ·have e243:=F52.kn 243 _ rfl;go_wp2;exact ⟨_,rfl,rfl,rfl⟩
  clear F52
  refine fr2 F53 250 (.int .i64 ((escS (l.drop i)).size:Nat)) w3 rfl (by decide) ?_ fun _ F54=>?_
  ·have e243:=F53.kn 243 _ rfl;go_wp2;exact ⟨_,rfl,rfl,rfl⟩
  clear F53
  refine fr2 F54 251 (.int .i64 ((escS (l.drop i)).err:Nat)) w3 rfl (by decide) ?_ fun _ F55=>?_
  ·have e243:=F54.kn 243 _ rfl;go_wp2;exact ⟨_,rfl,rfl,rfl⟩
  clear F54
  refine fr_op0 F55 rfl (fun w'=>Ext wr w' ∧ BB w' w1.heap.size (escS (l.drop i)).set) ?_ ?_
  ·have e15:=F55.kn 15 _ rfl
   have e248:=F55.kn 248 _ rfl
   refine store_set rfl (.tmp 15) (.tmp 248) rfl (g:=w1.heap.size) (F55.ev (t:=15) rfl) (F55.ev (t:=248) rfl) (hbb.keep hx3) ?_
   exact ⟨_,rfl,Ext.row (hxW.trans hx3) _ _ hg15,(hbb.keep hx3).row _⟩
  rintro a56 w4 ⟨hxW,hbb⟩ F56
  clear F55
  refine fr_mv F56 250 16 (.inr rfl) rfl rfl (by decide) rfl fun _ F57=>?_
  clear F56
  refine fr_mv F57 251 17 (.inr rfl) rfl rfl (by decide) rfl fun _ F58=>?_
  clear F57
  refine fr_end ?_
  have HONE:=Lib.hid (show oneS l i c=((escS (l.drop i)).set,(escS (l.drop i)).size,(escS (l.drop i)).err) from by unfold oneS;rw [HK92.out];rfl)
  go_upto_region 67 with fail
  have HXW:=Lib.hid hxW
  have hst:=stp_set (num:=num) (alts:=alts) (items:=items) (rest:=rest) (gr:=gr) (ag:=ag) HLI.out HK.out.1 HK.out.2.1 HK.out.2.2.1 HK.out.2.2.2
  have HST:=Lib.hid hst
  clear hst
  obtain ⟨er,her⟩:∃ er,(escS (l.drop i)).err=er:=⟨_,rfl⟩
  obtain ⟨sz,hsz9⟩:∃ sz,(escS (l.drop i)).size=sz:=⟨_,rfl⟩
  rw [her,hsz9] at F58
  have HER:=Lib.hid (show (oneS l i c).2.2=er by rw [HONE.out];exact her)
  have HSZ:=Lib.hid (show (oneS l i c).2.1=sz by rw [HONE.out];exact hsz9)
  clear her hsz9
  by_cases he:er=0
  rotate_left
  ·have hne:((er:Int) != 0)=true:=by simp;omega
   have hR:=runs_fin HRUN.out (HST.out.trans (if_neg (by rw [HER.out];exact he)))
   rw [HER.out] at hR
   subst hR
   have HE:=Lib.hid he
   clear he
   refine fr_region ?_
   refine fr_mv F58 17 252 (.inl rfl) rfl rfl (by decide) rfl fun _ F59=>?_
   clear F58
   refine fr2 F59 253 (.bool true) w4 rfl (by decide) ?_ fun _ F60=>?_
   ·have e252:=F59.kn 252 _ rfl;go_wp2;exact ⟨_,rfl,rfl,rfl⟩
   clear F59
   refine fr_end ?_
   go_upto_if 253 with fail
   refine wp_cond_true (F60.ev (t:=253) rfl) ?_
   go_upto_region 68 with fail
   go_upto_region 68 with fail
   refine fr_region ?_
   refine fr2 F60 254 (.agg (dnC 0 0 false (fun _=>false) none 0 0).toArray) w4 rfl (by decide) ?_ fun _ F61=>?_
   ·refine build_z rfl rfl ?_
    exact ⟨_,rfl,rfl,rfl⟩
   clear F60
   refine fr_mv F61 17 255 (.inl rfl) rfl rfl (by decide) rfl fun _ F62=>?_
   clear F61
   refine fr_op0 F62 rfl (At1 ((w4.setRow w.heap.size (dnC 0 0 false (fun _=>false) none 0 0).toArray))) ?_ ?_
   ·have e2:=F62.kn 2 _ rfl
    have e254:=F62.kn 254 _ rfl
    refine store_dn rfl (.tmp 2) (.tmp 254) rfl (g:=w.heap.size) (F62.ev (t:=2) rfl) (F62.ev (t:=254) rfl) (HB2.out.keep HXW.out) HZ8.out ?_
    exact ⟨_,rfl,rfl⟩
   rintro a63 _ rfl F63
   clear F62
   refine fr_mv F63 255 3 (.inr rfl) rfl rfl (by decide) rfl fun _ F64=>?_
   clear F63
   refine fr_end ?_
   go_wp2
   exact HRET.out _ _ <| bodyPost_ret (v:=.tuple #[.agg (dnC 0 0 false (fun _=>false) none 0 0).toArray,.int .i64 (er:Nat)]) (results_dn2 rfl (F64.gd (t:=2) rfl) (Blk.row (HB2.out.keep HXW.out) _) (dn_len _ _ _ _ _ _ _) (F64.gd (t:=3) rfl)) F64.defers ⟨Ext.row (HEX.out.trans HXW.out) _ _ (Nat.le_refl _),rfl⟩
  subst he
  have hbnd:=one_bound HLI.out HER.out
  rw [HSZ.out] at hbnd
  obtain ⟨hb91,hb92⟩:=hbnd
  refine fr_region ?_
  refine fr_mv F58 17 252 (.inl rfl) rfl rfl (by decide) rfl fun _ F59=>?_
  clear F58
  refine fr2 F59 253 (.bool false) w4 rfl (by decide) ?_ fun _ F60=>?_
  ·have e252:=F59.kn 252 _ rfl;go_wp2;exact ⟨_,rfl,rfl,rfl⟩
  clear F59
  refine fr_end ?_
  go_upto_if 253 with fail
  refine wp_cond_false (F60.ev (t:=253) rfl) ?_
  go_upto_region 69 with fail
  have HBB0:=Lib.hid hg15
  have HX2:=Lib.hid hxW
  have HBB:=Lib.hid hbb
  have HPSW:=Lib.hid (HPS.out.keep hxW)
  clear hx1 hx2 hbb hxW hw9 hfr y0 y1 y2
  have HROW:=Lib.hid (show w4.ownsRow (w.heap.size+1) 98 3 (.slice (some ⟨gs,0,none⟩) (N+1) cap) (N+1) (cellsO st ++ OpS.cells ⟨⟨num,alts,items⟩,.slice Aa na ca,.slice Ai ni ci⟩) from by have h9:=HPSW.out.row;rwa [List.length_append,List.length_singleton,hN,cellsO_snoc] at h9)
  have HI2:=Lib.hid (own_ext HI.out HX2.out)
  have HSW:=Lib.hid (show w.heap.size+1≤w4.heap.size by have:=HX2.out.size;omega)
  have HAP:=Lib.hid (show OneAp0 w4 ((Value.ownBlock (.slice Ai ni ci)).toList ++ (Value.ownBlock (.slice (some ⟨gs,0,none⟩) (N+1) cap)).toList) (.slice Ai ni ci) (.slice (some ⟨gs,0,none⟩) (N+1) cap) from ⟨fun k hk=>List.mem_append.2 (.inl (by simp [hk])),fun k hk=>List.mem_append.2 (.inr (by simp [hk])),fun k hk=>HPSW.out.apart k (by unfold OpS.live;rw [List.mem_append];exact .inr (by simp [hk])),fun k hk=>HPSW.out.liveLt k (by unfold liveO;rw [List.mem_append];exact .inl (by simp [hk]))⟩)
  have HG15:=Lib.hid (show w1.heap.size ∉ (Value.ownBlock (.slice Ai ni ci)).toList ++ (Value.ownBlock (.slice (some ⟨gs,0,none⟩) (N+1) cap)).toList from fun hm=>by
   have h9:=HBB0.out
   rcases List.mem_append.1 hm with h1 | h1
   ·have:=HPS.out.liveLt _ (show w1.heap.size ∈ _ from by rw [liveO_snoc,List.mem_append];exact .inr (by unfold OpS.live;rw [List.mem_append];exact .inr h1));omega
   ·have:=HPS.out.liveLt _ (show w1.heap.size ∈ _ from by unfold liveO;rw [List.mem_append];exact .inl h1);omega)
  have HCSL:=Lib.hid (show csi.length=ni*260 from HI.out.1)
  have HLO:=Lib.hid (dn_ones 2 0 false (escS (l.drop i)).set none 0 0)
  have HLL:=Lib.hid (dn_len 2 0 false (escS (l.drop i)).set none 0 0)
  refine app69 (num:=num) (alts:=alts) (items:=items) (Fr.cons (Fr.cons (Fr.cons (Fr.cons (Fr.cons (Fr.cons (Fr.cons (Fr.cons F60.nil (F60.kn 16 _ rfl)) (F60.kn 15 _ rfl)) (F60.kn 8 _ rfl)) (F60.kn 7 _ rfl)) (F60.kn 5 _ rfl)) (F60.kn 4 _ rfl)) (F60.kn 2 _ rfl)) (F60.kn 0 _ rfl)) hcap hcm HCC hn120 hN8 hN HBB HG15 HROW HI2 HSW HAP HCSL HLO HLL (Lib.hid fun a61 w9 v9 F61 hown9 hat9 hrow9 hc9=>?_)
  clear F60
  obtain ⟨i1,hi1⟩:∃ i1,i+sz=i1:=⟨_,rfl⟩
  have HI1:=Lib.hid hi1
  have hi3:i1≤120:=by have:=HL.out;omega
  clear hi1
  go_upto_region 70 with fail
  refine fr_region ?_
  refine fr_mv F61 7 269 (.inl rfl) rfl rfl (by decide) rfl fun _ F62=>?_
  clear F61
  refine fr_mv F62 16 270 (.inl rfl) rfl rfl (by decide) rfl fun _ F63=>?_
  clear F62
  refine fr2 F63 271 (.int .i64 (i1:Nat)) w9 rfl (by decide) ?_ fun _ F64=>?_
  ·have e269:=F63.kn 269 _ rfl
   have e270:=F63.kn 270 _ rfl
   have h9:=HI1.out
   have hw:IntKind.i64.wrap ((i:Int)+(sz:Int))=(i:Int)+(sz:Int):=wrap_id (by omega) (by omega)
   go_wp2
   first | exact ⟨_,rfl,rfl,rfl⟩ | exact ⟨_,rfl,congrArg (Value.int .i64) (by omega),rfl⟩
  clear F63
  refine fr_mv F64 271 7 (.inr rfl) rfl rfl (by decide) rfl fun _ F65=>?_
  clear F64
  refine fr_end ?_
  go_upto_region 71 with fail
  refine fr_region ?_
  refine fr_as F65 6 (.inr rfl) rfl rfl (by decide) fun _ F66=>?_
  clear F65
  refine fr_end ?_
  go_wp2
  have hrun9:=runs_go HRUN.out (HST.out.trans (if_pos HER.out))
  rw [show i+(oneS l i c).2.1=i1 by rw [HSZ.out];exact HI1.out] at hrun9
  have hP:∀ j,j<256→(escS (l.drop i)).set j=(oneS l i c).1 j:=fun j hj=>by rw [HONE.out]
  have hi1':=HI1.out
  have hsz9:=HX2.out.size
  have hNT:DNodeV (fun b=>w.heap.size+1≤b∧b ∉ liveO (.slice (some ⟨gs,0,none⟩) (N+1) cap) (st ++ [⟨⟨num,alts,items⟩,.slice Aa na ca,.slice Ai ni ci⟩])) w4 (.node 2 0 false (oneS l i c).1 []) (dnC 2 0 false (escS (l.drop i)).set none 0 0):=by rw [dn_congr hP];exact dnode_leaf 2 0 false _
  have hni:=HNI.out
  have hps9:=grow_items HPSW.out hc9 (by rw [hni];exact hown9) hat9 (dkidsV_map (fun t v h=>DNodeV.keep h HX2.out) HKI.out) hNT (by rw [hN];exact hrow9)
  have hxc:∀ k,k<w.heap.size+1→k ∉ (Value.ownBlock (.slice Ai ni ci)).toList ++ (Value.ownBlock (.slice (some ⟨gs,0,none⟩) (N+1) cap)).toList:=fun k hk hm=>by
   rcases List.mem_append.1 hm with h1 | h1
   ·have:=(HI.out.lt k (by simpa using h1)).1;omega
   ·have:=(HPS.out.row.lt k (by simpa using h1)).1;omega
  have hex9:Ext w w9:=by
   have h9:=HEX.out.trans HX2.out
   refine ⟨hc9.os.trans h9.os,hc9.tape.trans h9.tape,hc9.output.trans h9.output,Nat.le_trans h9.size hc9.size,fun k hk=>(hc9.block k (Nat.lt_of_lt_of_le hk h9.size) (hxc k (by omega))).trans (h9.block k hk)⟩
  have hb29:=Blk.chg (HB2.out.keep HX2.out) hc9 (hxc _ (by omega))
  refine HKK.out _ _ (Handed.intro (l.length-i1) (by omega) (HJ.out _ _ _ ⟨_,_,_,_,Fr.cons (Fr.cons (Fr.cons (Fr.cons (Fr.cons (Fr.cons F66.nil (F66.kn 7 _ rfl)) (F66.kn 6 _ rfl)) (F66.kn 5 _ rfl)) (F66.kn 4 _ rfl)) (F66.kn 2 _ rfl)) (F66.kn 0 _ rfl),num,alts,items ++ [.node 2 0 false (oneS l i c).1 []],rest,gr,i1,true,st,_,_,gs,cap,N,rfl,hN,rfl,rfl,rfl,rfl,hps9,HMO.out,hrun9,by omega,hgr,hN8,fun y hy=>?_,hex9,hb29⟩))
  rcases List.mem_append.1 hy with h9 | h9
  ·have h8:=HBD.out y (List.mem_append.2 (.inl h9));omega
  ·have h8:=HBD.out _ (List.mem_append.2 (.inr (List.mem_singleton.2 rfl)));rw [List.mem_singleton.1 h9];dsimp only at h8 ⊢;rw [List.length_append];simp only [List.length_singleton];omega
 ·have z46:((c.toNat:Int) == 46)=false:=u8_ne k46
  have z91:((c.toNat:Int) == 91)=false:=u8_ne k91
  have z92:((c.toNat:Int) == 92)=false:=u8_ne k92
  have HK46:=Lib.hid k46
  have HK91:=Lib.hid k91
  have HK92:=Lib.hid k92
  clear k46 k91 k92
  go_upto_region 61 with fail
  refine fr_region ?_
  refine fr_mv F40 9 228 (.inl rfl) rfl rfl (by decide) rfl fun _ F41=>?_
  clear F40
  refine fr2 F41 229 (.bool false) w2 rfl (by decide) ?_ fun _ F42=>?_
  ·have e228:=F41.kn 228 _ rfl;go_wp2;exact ⟨_,rfl,rfl,rfl⟩
  clear F41
  refine fr_end ?_
  go_upto_if 229 with fail
  refine wp_cond_false (F42.ev (t:=229) rfl) ?_
  go_upto_region 63 with fail
  refine fr_region ?_
  refine fr_mv F42 9 231 (.inl rfl) rfl rfl (by decide) rfl fun _ F43=>?_
  clear F42
  refine fr2 F43 232 (.bool false) w2 rfl (by decide) ?_ fun _ F44=>?_
  ·have e231:=F43.kn 231 _ rfl;go_wp2;exact ⟨_,rfl,rfl,rfl⟩
  clear F43
  refine fr_end ?_
  go_upto_if 232 with fail
  refine wp_cond_false (F44.ev (t:=232) rfl) ?_
  go_upto_region 65 with fail
  refine fr_region ?_
  refine fr_mv F44 9 241 (.inl rfl) rfl rfl (by decide) rfl fun _ F45=>?_
  clear F44
  refine fr2 F45 242 (.bool false) w2 rfl (by decide) ?_ fun _ F46=>?_
  ·have e241:=F45.kn 241 _ rfl;go_wp2;exact ⟨_,rfl,rfl,rfl⟩
  clear F45
  refine fr_end ?_
  have HONE:=Lib.hid (show oneS l i c=((fun j=>j == c.toNat),1,0) from by unfold oneS;rw [if_neg HK92.out,if_neg HK91.out,if_neg HK46.out])
  go_upto_if 242 with fail
  refine wp_cond_false (F46.ev (t:=242) rfl) ?_
  go_upto_region 67 with fail
  have HXW:=Lib.hid hxW
  have hst:=stp_set (num:=num) (alts:=alts) (items:=items) (rest:=rest) (gr:=gr) (ag:=ag) HLI.out HK.out.1 HK.out.2.1 HK.out.2.2.1 HK.out.2.2.2
  have HST:=Lib.hid hst
  clear hst
  have HER:=Lib.hid (show (oneS l i c).2.2=0 by rw [HONE.out])
  have HSZ:=Lib.hid (show (oneS l i c).2.1=1 by rw [HONE.out])
  have hbnd:=one_bound HLI.out HER.out
  rw [HSZ.out] at hbnd
  obtain ⟨hb91,hb92⟩:=hbnd
  refine fr_region ?_
  refine fr_mv F46 17 252 (.inl rfl) rfl rfl (by decide) rfl fun _ F47=>?_
  clear F46
  refine fr2 F47 253 (.bool false) w2 rfl (by decide) ?_ fun _ F48=>?_
  ·have e252:=F47.kn 252 _ rfl;go_wp2;exact ⟨_,rfl,rfl,rfl⟩
  clear F47
  refine fr_end ?_
  go_upto_if 253 with fail
  refine wp_cond_false (F48.ev (t:=253) rfl) ?_
  go_upto_region 69 with fail
  have HBB0:=Lib.hid hg15
  have HX2:=Lib.hid hxW
  have HBB:=Lib.hid hbb
  have HPSW:=Lib.hid (HPS.out.keep hxW)
  clear hx1 hx2 hbb hxW hw9 hfr y0 y1 y2
  have HROW:=Lib.hid (show w2.ownsRow (w.heap.size+1) 98 3 (.slice (some ⟨gs,0,none⟩) (N+1) cap) (N+1) (cellsO st ++ OpS.cells ⟨⟨num,alts,items⟩,.slice Aa na ca,.slice Ai ni ci⟩) from by have h9:=HPSW.out.row;rwa [List.length_append,List.length_singleton,hN,cellsO_snoc] at h9)
  have HI2:=Lib.hid (own_ext HI.out HX2.out)
  have HSW:=Lib.hid (show w.heap.size+1≤w2.heap.size by have:=HX2.out.size;omega)
  have HAP:=Lib.hid (show OneAp0 w2 ((Value.ownBlock (.slice Ai ni ci)).toList ++ (Value.ownBlock (.slice (some ⟨gs,0,none⟩) (N+1) cap)).toList) (.slice Ai ni ci) (.slice (some ⟨gs,0,none⟩) (N+1) cap) from ⟨fun k hk=>List.mem_append.2 (.inl (by simp [hk])),fun k hk=>List.mem_append.2 (.inr (by simp [hk])),fun k hk=>HPSW.out.apart k (by unfold OpS.live;rw [List.mem_append];exact .inr (by simp [hk])),fun k hk=>HPSW.out.liveLt k (by unfold liveO;rw [List.mem_append];exact .inl (by simp [hk]))⟩)
  have HG15:=Lib.hid (show w1.heap.size ∉ (Value.ownBlock (.slice Ai ni ci)).toList ++ (Value.ownBlock (.slice (some ⟨gs,0,none⟩) (N+1) cap)).toList from fun hm=>by
   have h9:=HBB0.out
   rcases List.mem_append.1 hm with h1 | h1
   ·have:=HPS.out.liveLt _ (show w1.heap.size ∈ _ from by rw [liveO_snoc,List.mem_append];exact .inr (by unfold OpS.live;rw [List.mem_append];exact .inr h1));omega
   ·have:=HPS.out.liveLt _ (show w1.heap.size ∈ _ from by unfold liveO;rw [List.mem_append];exact .inl h1);omega)
  have HCSL:=Lib.hid (show csi.length=ni*260 from HI.out.1)
  have HLO:=Lib.hid (dn_ones 2 0 false (fun j=>((l.take (i+1)).drop i).any fun c=>c.toNat == j) none 0 0)
  have HLL:=Lib.hid (dn_len 2 0 false (fun j=>((l.take (i+1)).drop i).any fun c=>c.toNat == j) none 0 0)
  refine app69 (num:=num) (alts:=alts) (items:=items) (Fr.cons (Fr.cons (Fr.cons (Fr.cons (Fr.cons (Fr.cons (Fr.cons (Fr.cons F48.nil (F48.kn 16 _ rfl)) (F48.kn 15 _ rfl)) (F48.kn 8 _ rfl)) (F48.kn 7 _ rfl)) (F48.kn 5 _ rfl)) (F48.kn 4 _ rfl)) (F48.kn 2 _ rfl)) (F48.kn 0 _ rfl)) hcap hcm HCC hn120 hN8 hN HBB HG15 HROW HI2 HSW HAP HCSL HLO HLL (Lib.hid fun a49 w9 v9 F49 hown9 hat9 hrow9 hc9=>?_)
  clear F48
  obtain ⟨i1,hi1⟩:∃ i1,i+1=i1:=⟨_,rfl⟩
  have HI1:=Lib.hid hi1
  have hi3:i1≤120:=by have:=HL.out;omega
  clear hi1
  go_upto_region 70 with fail
  refine fr_region ?_
  refine fr_mv F49 7 269 (.inl rfl) rfl rfl (by decide) rfl fun _ F50=>?_
  clear F49
  refine fr_mv F50 16 270 (.inl rfl) rfl rfl (by decide) rfl fun _ F51=>?_
  clear F50
  refine fr2 F51 271 (.int .i64 (i1:Nat)) w9 rfl (by decide) ?_ fun _ F52=>?_
  ·have e269:=F51.kn 269 _ rfl
   have e270:=F51.kn 270 _ rfl
   have h9:=HI1.out
   have hw:IntKind.i64.wrap ((i:Int)+1)=(i:Int)+1:=wrap_id (by omega) (by omega)
   go_wp2
   first | exact ⟨_,rfl,rfl,rfl⟩ | exact ⟨_,rfl,congrArg (Value.int .i64) (by omega),rfl⟩
  clear F51
  refine fr_mv F52 271 7 (.inr rfl) rfl rfl (by decide) rfl fun _ F53=>?_
  clear F52
  refine fr_end ?_
  go_upto_region 71 with fail
  refine fr_region ?_
  refine fr_as F53 6 (.inr rfl) rfl rfl (by decide) fun _ F54=>?_
  clear F53
  refine fr_end ?_
  go_wp2
  have hrun9:=runs_go HRUN.out (HST.out.trans (if_pos HER.out))
  rw [show i+(oneS l i c).2.1=i1 by rw [HSZ.out];exact HI1.out] at hrun9
  have hP:∀ j,j<256→(fun j=>((l.take (i+1)).drop i).any fun c=>c.toNat == j) j=(oneS l i c).1 j:=fun j hj=>by rw [show (l.take (i+1)).drop i=[c] from by (rw [List.drop_take,Nat.add_sub_cancel_left,List.drop_eq_getElem_cons hlt,hc];rfl),HONE.out];simp [Bool.beq_comm]
  have hi1':=HI1.out
  have hsz9:=HX2.out.size
  have hNT:DNodeV (fun b=>w.heap.size+1≤b∧b ∉ liveO (.slice (some ⟨gs,0,none⟩) (N+1) cap) (st ++ [⟨⟨num,alts,items⟩,.slice Aa na ca,.slice Ai ni ci⟩])) w2 (.node 2 0 false (oneS l i c).1 []) (dnC 2 0 false (fun j=>((l.take (i+1)).drop i).any fun c=>c.toNat == j) none 0 0):=by rw [dn_congr hP];exact dnode_leaf 2 0 false _
  have hni:=HNI.out
  have hps9:=grow_items HPSW.out hc9 (by rw [hni];exact hown9) hat9 (dkidsV_map (fun t v h=>DNodeV.keep h HX2.out) HKI.out) hNT (by rw [hN];exact hrow9)
  have hxc:∀ k,k<w.heap.size+1→k ∉ (Value.ownBlock (.slice Ai ni ci)).toList ++ (Value.ownBlock (.slice (some ⟨gs,0,none⟩) (N+1) cap)).toList:=fun k hk hm=>by
   rcases List.mem_append.1 hm with h1 | h1
   ·have:=(HI.out.lt k (by simpa using h1)).1;omega
   ·have:=(HPS.out.row.lt k (by simpa using h1)).1;omega
  have hex9:Ext w w9:=by
   have h9:=HEX.out.trans HX2.out
   refine ⟨hc9.os.trans h9.os,hc9.tape.trans h9.tape,hc9.output.trans h9.output,Nat.le_trans h9.size hc9.size,fun k hk=>(hc9.block k (Nat.lt_of_lt_of_le hk h9.size) (hxc k (by omega))).trans (h9.block k hk)⟩
  have hb29:=Blk.chg (HB2.out.keep HX2.out) hc9 (hxc _ (by omega))
  refine HKK.out _ _ (Handed.intro (l.length-i1) (by omega) (HJ.out _ _ _ ⟨_,_,_,_,Fr.cons (Fr.cons (Fr.cons (Fr.cons (Fr.cons (Fr.cons F54.nil (F54.kn 7 _ rfl)) (F54.kn 6 _ rfl)) (F54.kn 5 _ rfl)) (F54.kn 4 _ rfl)) (F54.kn 2 _ rfl)) (F54.kn 0 _ rfl),num,alts,items ++ [.node 2 0 false (oneS l i c).1 []],rest,gr,i1,true,st,_,_,gs,cap,N,rfl,hN,rfl,rfl,rfl,rfl,hps9,HMO.out,hrun9,by omega,hgr,hN8,fun y hy=>?_,hex9,hb29⟩))
  rcases List.mem_append.1 hy with h9 | h9
  ·have h8:=HBD.out y (List.mem_append.2 (.inl h9));omega
  ·have h8:=HBD.out _ (List.mem_append.2 (.inr (List.mem_singleton.2 rfl)));rw [List.mem_singleton.1 h9];dsimp only at h8 ⊢;rw [List.length_append];simp only [List.length_singleton];omega
end Go.Proofs.YtigmdlchbjanoaaGreatDoor
