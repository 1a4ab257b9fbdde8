/- Put together: Rp9d. -/
import Derived.Test.YtigmdlchbjanoaaGreatDoorPGvE
namespace Go.Proofs.YtigmdlchbjanoaaGreatDoor
open Go Go.RowKit
set_option maxHeartbeats 40000000 in
set_option maxRecDepth 20000 in
theorem way1b (l:List UInt8) (R:PR) (w:World) (_:(l.length:Int)≤120) (HZ8:Hid (Tryz.zeroCells38.toList.length=260)) (HRN:Hid (R ≠ .out)) (HL:Hid (l.length≤120)) (Q:Exit→Act→World→Prop)
  (HRET:Hid (∀ a w',bodyPost Tryz.prog Tryz.f30 (fun e w'=>RefRes w R e w') .ret a w' → Q .ret a w')) (gk:Nat) (a0:Act) (wr:World) (J:Nat→Act→World→Prop) (K:Act→World→Prop)
  (HJ:Hid (∀ k a' w',LInv l R w k a' w' → J k a' w')) (HKK:Hid (∀ a' w',Handed J gk a' w' → K a' w')) (sv gv av iv:Value)
  (F0:Fr 280 [(0,.string ⟨l.toArray⟩),(2,.pointer (some ⟨w.heap.size,0,none⟩)),(4,sv),(5,gv),(6,av),(7,iv)] a0) (hrel:PInv l R w gk sv gv av iv wr)
  (i:Nat) (hiv:iv=.int .i64 (i:Nat)) (c:UInt8) (hlt:i<l.length) (hc:l[i]'hlt=c) (hrep:isRep c) (hag:av ≠ .bool false) (hsg:c=43) :
  Code.wp Tryz.prog bodyP (Exit.then K Q) a0 wr:=by
 have H9hrep:=Lib.hid hrep
 have H9hag:=Lib.hid hag
 have H9hsg:=Lib.hid hsg
 clear hrep hag hsg
 unfold bodyP
 unfold Tryz.f30
 dsimp only [loopIn,Option.getD,Option.bind]
 obtain ⟨num,alts,items,rest,gr,i9,ag,st,va,vi,gs,cap,N,rfl,hN,rfl,rfl,rfl,rfl,hps,hmo,hrun,hil,hgr,hN8,hbd,hext,hb2⟩:=hrel
 obtain rfl:i=i9:=by
  simp only [Value.int.injEq,true_and] at hiv
  omega
 clear hiv
 obtain ⟨hcap,hcm,hBg,hglt,hfr,y0,y1,y2⟩:=hps.head hN
 dsimp only at y0 y1 y2
 have HPS:=Lib.hid hps
 have HMO:=Lib.hid hmo
 have HRUN:=Lib.hid hrun
 have HBD:=Lib.hid hbd
 have HEX:=Lib.hid hext
 have HB2:=Lib.hid hb2
 clear hps hmo hrun hbd hext hb2
 have hlt':(i:Int)<(l.length:Int):=by omega
 have HLI:=Lib.hid (show l[i]?=some c by rw [List.getElem?_eq_getElem hlt,hc])
 go_upto_region 6 with fail
 refine fr_region ?_
 refine fr_mv F0 7 24 (.inl rfl) rfl rfl (by decide) rfl fun _ F1=>?_
 clear F0
 refine fr_mv F1 0 25 (.inl rfl) rfl rfl (by decide) rfl fun _ F2=>?_
 clear F1
 refine fr2 F2 26 (.int .i64 (l.length:Nat)) wr rfl (by decide) ?_ fun _ F3=>?_
 ·have e25:=F2.kn 25 _ rfl;go_wp2;exact ⟨_,rfl,rfl,rfl⟩
 clear F2
 refine fr2 F3 27 (.bool true) wr rfl (by decide) ?_ fun _ F4=>?_
 ·have e24:=F3.kn 24 _ rfl;have e26:=F3.kn 26 _ rfl;go_wp2;exact ⟨_,rfl,rfl,rfl⟩
 clear F3
 refine fr_end ?_
 go_upto_if 27 with fail
 refine wp_cond_true (F4.ev (t:=27) rfl) ?_
 go_upto_region 7 with fail
 refine fr_region ?_
 refine fr_mv F4 4 28 (.inl rfl) rfl rfl (by decide) rfl fun _ F5=>?_
 clear F4
 refine fr2 F5 29 (.int .i64 ((N:Int)+1)) wr rfl (by decide) ?_ fun _ F6=>?_
 ·have e28:=F5.kn 28 _ rfl;go_wp2;exact ⟨_,rfl,rfl,rfl⟩
 clear F5
 refine fr2 F6 30 (.int .i64 (N:Nat)) wr rfl (by decide) ?_ fun _ F7=>?_
 ·have e29:=F6.kn 29 _ rfl;go_wp2;exact ⟨_,rfl,rfl,rfl⟩
 clear F6
 refine fr_mv F7 30 8 (.inr rfl) rfl rfl (by decide) rfl fun _ F8=>?_
 clear F7
 refine fr_end ?_
 go_upto_region 8 with fail
 refine fr_region ?_
 refine fr_mv F8 0 31 (.inl rfl) rfl rfl (by decide) rfl fun _ F9=>?_
 clear F8
 refine fr_mv F9 7 32 (.inl rfl) rfl rfl (by decide) rfl fun _ F10=>?_
 clear F9
 refine fr2 F10 33 (.int .u8 (c.toNat:Nat)) wr rfl (by decide) ?_ fun _ F11=>?_
 ·have e31:=F10.kn 31 _ rfl;have e32:=F10.kn 32 _ rfl;go_wp2;exact ⟨_,rfl,rfl,rfl⟩
 clear F10
 refine fr_mv F11 33 9 (.inr rfl) rfl rfl (by decide) rfl fun _ F12=>?_
 clear F11
 refine fr_end ?_
 have hrep:=H9hrep.out
 have hag:=H9hag.out
 clear H9hrep H9hag
 have hcc:((((c.toNat:Int) == 42)=true∧((c.toNat:Int) == 43)=false∧((c.toNat:Int) == 63)=false)∧c=42)∨((((c.toNat:Int) == 42)=false∧((c.toNat:Int) == 43)=true∧((c.toNat:Int) == 63)=false)∧c=43)∨((((c.toNat:Int) == 42)=false∧((c.toNat:Int) == 43)=false∧((c.toNat:Int) == 63)=true)∧c=63):=by
  rcases hrep with h | h | h
  ·exact .inl ⟨by rw [h];exact ⟨rfl,rfl,rfl⟩,h⟩
  ·exact .inr (.inl ⟨by rw [h];exact ⟨rfl,rfl,rfl⟩,h⟩)
  ·exact .inr (.inr ⟨by rw [h];exact ⟨rfl,rfl,rfl⟩,h⟩)
 have HCC:=Lib.hid hcc
 clear hcc
 cases ag
 ·exact absurd rfl hag
 ·obtain ⟨n1,hn1⟩:∃ n1,items.length=n1+1:=by
   cases items with
   | nil=>exact absurd (runs_fin HRUN.out (stp_repN HLI.out hrep)) HRN.out
   | cons x r=>exact ⟨r.length,by simp⟩
  obtain ⟨⟨csa,ha,hka⟩,⟨csi,hi,hki⟩⟩:=HPS.out.each _ (List.mem_append.2 (.inr (List.mem_singleton.2 rfl)))
  dsimp only at ha hka hi hki
  rw [hn1] at hi
  obtain ⟨gv,cv,rfl,hcv,hmv,hgv,hgvl,hfv,hcellv⟩:=own_blkS hi (by omega)
  have hiR:=hi
  obtain ⟨Av,cv',ev,_,_,hRv⟩:=own_rd hiR
  simp only [Value.slice.injEq] at ev
  obtain ⟨rfl,-,-⟩:=ev
  rw [← hn1] at hRv
  obtain ⟨b1,o1,kk,km,kz,kp,kB,kn,kc,eb,hvt,hrow⟩:=dkid_at hRv hki (i:=n1) (by omega)
  simp only [Option.some.injEq,Addr.mk.injEq] at eb
  obtain ⟨rfl,rfl,-⟩:=eb
  have hel:=hrow.out wr (Ext.refl _)
  simp only [Nat.zero_add] at hel
  have HEL:=Lib.hid hel
  obtain ⟨t,ht⟩:∃ t,items[n1]'(by omega)=t:=⟨_,rfl⟩
  rw [ht] at hvt
  have HTL:=Lib.hid (show items.getLast?=some t by rw [List.getLast?_eq_getElem?,hn1,Nat.add_sub_cancel,List.getElem?_eq_getElem (by omega),ht])
  have HVT:=Lib.hid hvt
  have HA:=Lib.hid ha
  have HKA:=Lib.hid hka
  have HI:=Lib.hid hi
  have HKI:=Lib.hid hki
  have HN1:=Lib.hid hn1
  have HRV:=Lib.hid hRv
  have hn8:=(HBD.out _ (List.mem_append.2 (.inr (List.mem_singleton.2 rfl)))).2
  dsimp only at hn8
  rw [hn1] at hn8
  have hn120:n1+1≤120:=by have:=HL.out;omega
  clear hcellv ha hka hi hki hiR hRv hrow hel hvt hn8 ht hn1
  rcases HCC.out with ⟨⟨z42,z43,z63⟩,hk⟩ | ⟨⟨z42,z43,z63⟩,hk⟩ | ⟨⟨z42,z43,z63⟩,hk⟩
  ·exact absurd hk (by rw [H9hsg.out];decide)
  ·have HKc:=Lib.hid hk
   clear hk
   go_upto_region 9 with fail
   refine fr_region ?_
   refine fr_mv F12 9 34 (.inl rfl) rfl rfl (by decide) rfl fun _ F13=>?_
   clear F12
   refine fr2 F13 35 (.bool false) wr rfl (by decide) ?_ fun _ F14=>?_
   ·have e34:=F13.kn 34 _ rfl;go_wp2;exact ⟨_,rfl,rfl,rfl⟩
   clear F13
   refine fr_mv F14 35 36 (.inl rfl) rfl rfl (by decide) rfl fun _ F15=>?_
   clear F14
   refine fr2 F15 37 (.int .u8 (c.toNat:Nat)) wr rfl (by decide) ?_ fun _ F16=>?_
   ·have e9:=F15.kn 9 _ rfl;have e36:=F15.kn 36 _ rfl;go_wp2;exact ⟨_,rfl,rfl,rfl⟩
   clear F15
   refine fr2 F16 38 (.bool true) wr rfl (by decide) ?_ fun _ F17=>?_
   ·have e37:=F16.kn 37 _ rfl;have e36:=F16.kn 36 _ rfl;go_wp2;exact ⟨_,rfl,rfl,rfl⟩
   clear F16
   refine fr2 F17 39 (.bool true) wr rfl (by decide) ?_ fun _ F18=>?_
   ·have e36:=F17.kn 36 _ rfl;have e38:=F17.kn 38 _ rfl;go_wp2;exact ⟨_,rfl,rfl,rfl⟩
   clear F17
   refine fr_mv F18 39 40 (.inl rfl) rfl rfl (by decide) rfl fun _ F19=>?_
   clear F18
   refine fr2 F19 41 (undef) wr rfl (by decide) ?_ fun _ F20=>?_
   ·have e40:=F19.kn 40 _ rfl;go_wp2;exact ⟨_,rfl,rfl,rfl⟩
   clear F19
   refine fr2 F20 42 (undef) wr rfl (by decide) ?_ fun _ F21=>?_
   ·have e40:=F20.kn 40 _ rfl;go_wp2;exact ⟨_,rfl,rfl,rfl⟩
   clear F20
   refine fr2 F21 43 (.bool true) wr rfl (by decide) ?_ fun _ F22=>?_
   ·have e40:=F21.kn 40 _ rfl;have e42:=F21.kn 42 _ rfl;go_wp2;exact ⟨_,rfl,rfl,rfl⟩
   clear F21
   refine fr_end ?_
   go_upto_if 43 with fail
   refine wp_cond_true (F22.ev (t:=43) rfl) ?_
   go_upto_region 10 with fail
   refine fr_region ?_
   refine fr_mv F22 6 44 (.inl rfl) rfl rfl (by decide) rfl fun _ F23=>?_
   clear F22
   refine fr2 F23 45 (.bool false) wr rfl (by decide) ?_ fun _ F24=>?_
   ·have e44:=F23.kn 44 _ rfl;go_wp2;exact ⟨_,rfl,rfl,rfl⟩
   clear F23
   refine fr_end ?_
   go_upto_if 45 with fail
   refine wp_cond_false (F24.ev (t:=45) rfl) ?_
   go_upto_region 12 with fail
   refine fr_region ?_
   refine fr_mv F24 4 47 (.inl rfl) rfl rfl (by decide) rfl fun _ F25=>?_
   clear F24
   refine fr_mv F25 8 48 (.inl rfl) rfl rfl (by decide) rfl fun _ F26=>?_
   clear F25
   refine fr2 F26 49 (.pointer (some ⟨gs,N*3,none⟩)) wr rfl (by decide) ?_ fun _ F27=>?_
   ·have e47:=F26.kn 47 _ rfl;have e48:=F26.kn 48 _ rfl;go_wp2;exact ⟨_,rfl,rfl,rfl⟩
   clear F26
   refine fr2 F27 50 (.pointer (some ⟨gs,N*3+2,none⟩)) wr rfl (by decide) ?_ fun _ F28=>?_
   ·have e49:=F27.kn 49 _ rfl;go_wp2;exact ⟨_,rfl,rfl,rfl⟩
   clear F27
   refine fr2 F28 51 (.slice (some ⟨gv,0,none⟩) (n1+1) cv) wr rfl (by decide) ?_ fun _ F29=>?_
   ·have e50:=F28.kn 50 _ rfl;go_wp2;exact ⟨_,rfl,rfl,rfl⟩
   clear F28
   refine fr2 F29 52 (.int .i64 ((n1:Int)+1)) wr rfl (by decide) ?_ fun _ F30=>?_
   ·have e51:=F29.kn 51 _ rfl;go_wp2;exact ⟨_,rfl,rfl,rfl⟩
   clear F29
   refine fr2 F30 53 (.int .i64 (n1:Nat)) wr rfl (by decide) ?_ fun _ F31=>?_
   ·have e52:=F30.kn 52 _ rfl
    go_wp2
    first | exact ⟨_,rfl,rfl,rfl⟩ | exact ⟨_,rfl,congrArg (Value.int .i64) (by omega),rfl⟩
   clear F30
   refine fr_mv F31 53 10 (.inr rfl) rfl rfl (by decide) rfl fun _ F32=>?_
   clear F31
   refine fr_end ?_
   go_upto_region 13 with fail
   refine fr_region ?_
   refine fr_mv F32 4 54 (.inl rfl) rfl rfl (by decide) rfl fun _ F33=>?_
   clear F32
   refine fr_mv F33 8 55 (.inl rfl) rfl rfl (by decide) rfl fun _ F34=>?_
   clear F33
   refine fr2 F34 56 (.pointer (some ⟨gs,N*3,none⟩)) wr rfl (by decide) ?_ fun _ F35=>?_
   ·have e54:=F34.kn 54 _ rfl;have e55:=F34.kn 55 _ rfl;go_wp2;exact ⟨_,rfl,rfl,rfl⟩
   clear F34
   refine fr2 F35 57 (.pointer (some ⟨gs,N*3+2,none⟩)) wr rfl (by decide) ?_ fun _ F36=>?_
   ·have e56:=F35.kn 56 _ rfl;go_wp2;exact ⟨_,rfl,rfl,rfl⟩
   clear F35
   refine fr2 F36 58 (.slice (some ⟨gv,0,none⟩) (n1+1) cv) wr rfl (by decide) ?_ fun _ F37=>?_
   ·have e57:=F36.kn 57 _ rfl;go_wp2;exact ⟨_,rfl,rfl,rfl⟩
   clear F36
   refine fr_mv F37 10 59 (.inl rfl) rfl rfl (by decide) rfl fun _ F38=>?_
   clear F37
   refine fr2 F38 60 (.pointer (some ⟨gv,n1*260,none⟩)) wr rfl (by decide) ?_ fun _ F39=>?_
   ·have e58:=F38.kn 58 _ rfl;have e59:=F38.kn 59 _ rfl;go_wp2;exact ⟨_,rfl,rfl,rfl⟩
   clear F38
   refine fr2 F39 61 (.agg (dnC kk km kz kp kB kn kc).toArray) wr rfl (by decide) ?_ fun _ F40=>?_
   ·have e60:=F39.kn 60 _ rfl
    refine load_el rfl (.tmp 60) rfl (F39.ev (t:=60) rfl) HEL.out ?_
    exact ⟨_,rfl,rfl,rfl⟩
   clear F39
   refine fr_op F40 11 rfl (by decide) (At2 (.pointer (some ⟨wr.heap.size,0,none⟩)) (wr.alloc (.cells Tryz.zeroCells38 38))) ?_ ?_
   ·go_wp2
    exact ⟨_,rfl,rfl,rfl⟩
   rintro a41 _ _ ⟨rfl,rfl⟩ F41
   clear F40
   refine fr_op0 F41 rfl (fun w'=>Ext wr w' ∧ Blk w' wr.heap.size 38 (dnC kk km kz kp kB kn kc)∧wr.heap.size<w'.heap.size) ?_ ?_
   ·have e11:=F41.kn 11 _ rfl
    have e61:=F41.kn 61 _ rfl
    refine store_dn_new rfl (.tmp 11) (.tmp 61) rfl (F41.ev (t:=11) rfl) (F41.ev (t:=61) rfl) zsize40 ?_
    exact ⟨_,rfl,Ext.new1 _ _,Blk.newL _ _ _,by simp⟩
   rintro a42 w1 ⟨hx1,hb1,hs1⟩ F42
   clear F41
   refine fr_end ?_
   go_upto_region 14 with fail
   refine fr_region ?_
   refine fr2 F42 62 (.agg (dnC kk km kz kp kB kn kc).toArray) w1 rfl (by decide) ?_ fun _ F43=>?_
   ·have e11:=F42.kn 11 _ rfl
    refine load_dn rfl (.tmp 11) rfl (F42.ev (t:=11) rfl) hb1 ?_
    exact ⟨_,rfl,rfl,rfl⟩
   clear F42
   refine fr_op F43 63 rfl (by decide) (fun v w'=>∃ gR,v=.slice (some ⟨gR,0,none⟩) 1 1∧w1.heap.size≤gR∧Ext w1 w' ∧ Rd w' 260 (some ⟨gR,0,none⟩) 1 (dnC kk km kz kp kB kn kc)∧gR<w'.heap.size) ?_ ?_
   ·have e62:=F43.kn 62 _ rfl
    refine mk_dn rfl (.tmp 62) rfl (v:=(dnC kk km kz kp kB kn kc)) (dn_len _ _ _ _ _ _ _) (F43.ev (t:=62) rfl) ?_
    exact ⟨_,rfl,_,rfl,Nat.le_refl _,Ext.new1 _ _,rd_newS _ 260 1 _ _ (by rw [dn_len]),by simp⟩
   rintro a44 _ w2 ⟨gR,rfl,hgR,hx2,hrR,hs2⟩ F44
   clear F43
   refine fr2 F44 64 (.agg (dnC 5 0 false (fun _=>false) (some ⟨gR,0,none⟩) 1 1).toArray) w2 rfl (by decide) ?_ fun _ F45=>?_
   ·have e63:=F44.kn 63 _ rfl
    refine build_kk rfl (.tmp 63) rfl (F44.ev (t:=63) rfl) ?_
    exact ⟨_,rfl,rfl,rfl⟩
   clear F44
   refine fr_op F45 12 rfl (by decide) (At2 (.pointer (some ⟨w2.heap.size,0,none⟩)) (w2.alloc (.cells Tryz.zeroCells38 38))) ?_ ?_
   ·go_wp2
    exact ⟨_,rfl,rfl,rfl⟩
   rintro a46 _ _ ⟨rfl,rfl⟩ F46
   clear F45
   refine fr_op0 F46 rfl (fun w'=>Ext w2 w' ∧ Blk w' w2.heap.size 38 (dnC 5 0 false (fun _=>false) (some ⟨gR,0,none⟩) 1 1)∧w2.heap.size<w'.heap.size) ?_ ?_
   ·have e12:=F46.kn 12 _ rfl
    have e64:=F46.kn 64 _ rfl
    refine store_dn_new rfl (.tmp 12) (.tmp 64) rfl (F46.ev (t:=12) rfl) (F46.ev (t:=64) rfl) zsize40 ?_
    exact ⟨_,rfl,Ext.new1 _ _,Blk.newL _ _ _,by simp⟩
   rintro a47 w3 ⟨hx3,hb3,hs3⟩ F47
   clear F46
   refine fr_end ?_
   go_upto_region 15 with fail
   refine fr_region ?_
   refine fr_mv F47 9 65 (.inl rfl) rfl rfl (by decide) rfl fun _ F48=>?_
   clear F47
   refine fr2 F48 66 (.bool true) w3 rfl (by decide) ?_ fun _ F49=>?_
   ·have e65:=F48.kn 65 _ rfl;go_wp2;exact ⟨_,rfl,rfl,rfl⟩
   clear F48
   refine fr_end ?_
   go_upto_if 66 with fail
   refine wp_cond_true (F49.ev (t:=66) rfl) ?_
   go_upto_region 16 with fail
   refine fr_region ?_
   refine fr2 F49 67 (.pointer (some ⟨w2.heap.size,0,none⟩)) w3 rfl (by decide) ?_ fun _ F50=>?_
   ·have e12:=F49.kn 12 _ rfl;go_wp2;exact ⟨_,rfl,rfl,rfl⟩
   clear F49
   refine fr_op0 F50 rfl (NewB w2 w2.heap.size (dnC 6 0 false (fun _=>false) (some ⟨gR,0,none⟩) 1 1)) ?_ ?_
   ·have e67:=F50.kn 67 _ rfl
    have p0:=(hb3.cell 0).trans (dn_0 _ _ _ _ _ _ _)
    have f0:=hb3.frozen 0
    go_wp2
    first | exact ⟨undef,rfl,newB_kind hx3 hb3 (Nat.le_refl _) 6⟩ | exact newB_kind hx3 hb3 (Nat.le_refl _) 6
   rintro a51 w4 ⟨hx4,hb4,hs4⟩ F51
   clear F50
   refine fr_end ?_
   go_upto_region 17 with fail
   refine fr_region ?_
   refine fr_mv F51 9 68 (.inl rfl) rfl rfl (by decide) rfl fun _ F52=>?_
   clear F51
   refine fr2 F52 69 (.bool false) w4 rfl (by decide) ?_ fun _ F53=>?_
   ·have e68:=F52.kn 68 _ rfl;go_wp2;exact ⟨_,rfl,rfl,rfl⟩
   clear F52
   refine fr_end ?_
   have hxT:=hx1.trans (hx2.trans hx4)
   have hvt4:=HVT.out.keep hxT
   have hb14:=(hb1.keep hx2).keep hx4
   go_upto_if 69 with fail
   refine wp_cond_false (F53.ev (t:=69) rfl) ?_
   go_upto_region 19 with fail
   refine fr_region ?_
   refine fr2 F53 71 (.agg (dnC kk km kz kp kB kn kc).toArray) w4 rfl (by decide) ?_ fun _ F54=>?_
   ·have e11:=F53.kn 11 _ rfl
    refine load_dn rfl (.tmp 11) rfl (F53.ev (t:=11) rfl) hb14 ?_
    exact ⟨_,rfl,rfl,rfl⟩
   clear F53
   refine fr_op F54 72 rfl (by decide) (AtX (.bool t.nullable) w4) ?_ ?_
   ·have e71:=F54.kn 71 _ rfl
    go_wp2_with (go_at_call 31;refine (refNullable _ t (Nat.le_refl _) _ _ _ hvt4).mono ?_;rintro e w9 ⟨rfl,hx9⟩)
    exact ⟨_,rfl,rfl,hx9⟩
   rintro a55 _ w5 ⟨rfl,hx5⟩ F55
   clear F54
   refine fr_end ?_
   obtain ⟨bn,hbn⟩:∃ b,t.nullable=b:=⟨_,rfl⟩
   rw [hbn] at F55
   have HBN:=Lib.hid hbn
   clear hbn
   cases bn
   rotate_left
   ·have hst:=(stp_rep (num:=num) (alts:=alts) (rest:=rest) (gr:=gr) HLI.out hrep HTL.out).trans (if_pos ⟨by rw [HKc.out];decide,HBN.out⟩)
    have hR:=runs_fin HRUN.out hst
    subst hR
    clear hst
    go_upto_if 72 with fail
    refine wp_cond_true (F55.ev (t:=72) rfl) ?_
    go_upto_region 20 with fail
    go_upto_region 20 with fail
    refine fr_region ?_
    refine fr2 F55 73 (.agg (dnC 0 0 false (fun _=>false) none 0 0).toArray) w5 rfl (by decide) ?_ fun _ F56=>?_
    ·refine build_z rfl rfl ?_
     exact ⟨_,rfl,rfl,rfl⟩
    clear F55
    refine fr_op0 F56 rfl (At1 ((w5.setRow w.heap.size (dnC 0 0 false (fun _=>false) none 0 0).toArray))) ?_ ?_
    ·have e2:=F56.kn 2 _ rfl
     have e73:=F56.kn 73 _ rfl
     refine store_dn rfl (.tmp 2) (.tmp 73) rfl (g:=w.heap.size) (F56.ev (t:=2) rfl) (F56.ev (t:=73) rfl) (((HB2.out.keep hxT).keep hx5)) HZ8.out ?_
     exact ⟨_,rfl,rfl⟩
    rintro a57 _ rfl F57
    clear F56
    refine fr_as F57 3 (.inr rfl) rfl rfl (by decide) fun _ F58=>?_
    clear F57
    refine fr_end ?_
    go_wp2
    exact HRET.out _ _ <| bodyPost_ret (v:=.tuple #[.agg (dnC 0 0 false (fun _=>false) none 0 0).toArray,.int .i64 15]) (results_dn2 rfl (F58.gd (t:=2) rfl) (Blk.row (((HB2.out.keep hxT).keep hx5)) _) (dn_len _ _ _ _ _ _ _) (F58.gd (t:=3) rfl)) F58.defers ⟨Ext.row (HEX.out.trans (hxT.trans hx5)) _ _ (Nat.le_refl _),rfl⟩
   go_upto_if 72 with fail
   refine wp_cond_false (F55.ev (t:=72) rfl) ?_
   go_upto_region 21 with fail
   have hst:=(stp_rep (num:=num) (alts:=alts) (rest:=rest) (gr:=gr) HLI.out hrep HTL.out).trans (if_neg (fun h=>by rw [HBN.out] at h;exact absurd h.2 (by decide)))
   have hxU:=hxT.trans hx5
   have hb5:=hb4.keep hx5
   have hrR5:=(hrR.keep hx4).keep hx5
   have hs5:w2.heap.size<w5.heap.size:=hb5.lt
   have HST:=Lib.hid hst
   clear hst hvt4 hb14
   obtain ⟨i1,hi1⟩:∃ i1,i+1=i1:=⟨_,rfl⟩
   have hi3:i1≤120:=by have:=HL.out;omega
   have HI1:=Lib.hid hi1
   clear hi1
   refine fr_region ?_
   refine fr_mv F55 7 74 (.inl rfl) rfl rfl (by decide) rfl fun _ F56=>?_
   clear F55
   refine fr2 F56 75 (.int .i64 (i1:Nat)) w5 rfl (by decide) ?_ fun _ F57=>?_
   ·have e74:=F56.kn 74 _ rfl
    have h9:=HI1.out
    have hw:IntKind.i64.wrap ((i:Int)+1)=(i:Int)+1:=wrap_id (by omega) (by omega)
    go_wp2
    first | exact ⟨_,rfl,rfl,rfl⟩ | exact ⟨_,rfl,congrArg (Value.int .i64) (by omega),rfl⟩
   clear F56
   refine fr_mv F57 75 7 (.inr rfl) rfl rfl (by decide) rfl fun _ F58=>?_
   clear F57
   refine fr_end ?_
   go_upto_region 22 with fail
   by_cases hz1:i1<l.length
   ·have hz1':(i1:Int)<(l.length:Int):=by omega
    obtain ⟨d,hd⟩:∃ d,l[i1]'hz1=d:=⟨_,rfl⟩
    by_cases hz2:d=63
    ·have HZ:=Lib.hid (show decide (l[i1]?=some 63)=true from by rw [List.getElem?_eq_getElem hz1,hd,hz2];rfl)
     have z2:((d.toNat:Int) == 63)=true:=by rw [hz2];rfl
     clear hz2
     obtain ⟨i2,hi2⟩:∃ i2,i1+1=i2:=⟨_,rfl⟩
     have HI2:=Lib.hid hi2
     clear hi2
     refine fr_region ?_
     refine fr_mv F58 7 76 (.inl rfl) rfl rfl (by decide) rfl fun _ F59=>?_
     clear F58
     refine fr_mv F59 0 77 (.inl rfl) rfl rfl (by decide) rfl fun _ F60=>?_
     clear F59
     refine fr2 F60 78 (.int .i64 (l.length:Nat)) w5 rfl (by decide) ?_ fun _ F61=>?_
     ·have e77:=F60.kn 77 _ rfl;go_wp2;exact ⟨_,rfl,rfl,rfl⟩
     clear F60
     refine fr2 F61 79 (.bool true) w5 rfl (by decide) ?_ fun _ F62=>?_
     ·have e76:=F61.kn 76 _ rfl;have e78:=F61.kn 78 _ rfl;go_wp2;exact ⟨_,rfl,rfl,rfl⟩
     clear F61
     refine fr_mv F62 79 80 (.inl rfl) rfl rfl (by decide) rfl fun _ F63=>?_
     clear F62
     refine fr2 F63 81 (.string ⟨l.toArray⟩) w5 rfl (by decide) ?_ fun _ F64=>?_
     ·have e0:=F63.kn 0 _ rfl;have e80:=F63.kn 80 _ rfl;go_wp2;exact ⟨_,rfl,rfl,rfl⟩
     clear F63
     refine fr2 F64 82 (.int .i64 (i1:Nat)) w5 rfl (by decide) ?_ fun _ F65=>?_
     ·have e7:=F64.kn 7 _ rfl;have e80:=F64.kn 80 _ rfl;go_wp2;exact ⟨_,rfl,rfl,rfl⟩
     clear F64
     refine fr2 F65 83 (.int .u8 (d.toNat:Nat)) w5 rfl (by decide) ?_ fun _ F66=>?_
     ·have e81:=F65.kn 81 _ rfl;have e82:=F65.kn 82 _ rfl;have e80:=F65.kn 80 _ rfl;go_wp2;exact ⟨_,rfl,rfl,rfl⟩
     clear F65
     refine fr2 F66 84 (.bool true) w5 rfl (by decide) ?_ fun _ F67=>?_
     ·have e83:=F66.kn 83 _ rfl;have e80:=F66.kn 80 _ rfl;go_wp2;exact ⟨_,rfl,rfl,rfl⟩
     clear F66
     refine fr2 F67 85 (.bool true) w5 rfl (by decide) ?_ fun _ F68=>?_
     ·have e80:=F67.kn 80 _ rfl;have e84:=F67.kn 84 _ rfl;go_wp2;exact ⟨_,rfl,rfl,rfl⟩
     clear F67
     refine fr_end ?_
     go_upto_if 85 with fail
     refine wp_cond_true (F68.ev (t:=85) rfl) ?_
     go_upto_region 23 with fail
     refine fr_region ?_
     refine fr2 F68 86 (.pointer (some ⟨w2.heap.size,2,none⟩)) w5 rfl (by decide) ?_ fun _ F69=>?_
     ·have e12:=F68.kn 12 _ rfl;go_wp2;exact ⟨_,rfl,rfl,rfl⟩
     clear F68
     refine fr_op0 F69 rfl (NewB w2 w2.heap.size (dnC 6 0 true (fun _=>false) (some ⟨gR,0,none⟩) 1 1)) ?_ ?_
     ·have e86:=F69.kn 86 _ rfl
      have p0:=(hb5.cell 2).trans (dn_2 _ _ _ _ _ _ _)
      have f0:=hb5.frozen 2
      go_wp2
      first | exact ⟨undef,rfl,newB_lazy (hx4.trans hx5) hb5 (Nat.le_refl _) true⟩ | exact newB_lazy (hx4.trans hx5) hb5 (Nat.le_refl _) true
     rintro a70 w6 ⟨hx6,hb6,hs6⟩ F70
     clear F69
     refine fr_end ?_
     go_upto_region 24 with fail
     refine fr_region ?_
     refine fr_mv F70 7 87 (.inl rfl) rfl rfl (by decide) rfl fun _ F71=>?_
     clear F70
     refine fr2 F71 88 (.int .i64 (i2:Nat)) w6 rfl (by decide) ?_ fun _ F72=>?_
     ·have e87:=F71.kn 87 _ rfl
      have h9:=HI2.out
      have hw:IntKind.i64.wrap ((i1:Int)+1)=(i1:Int)+1:=wrap_id (by omega) (by omega)
      go_wp2
      first | exact ⟨_,rfl,rfl,rfl⟩ | exact ⟨_,rfl,congrArg (Value.int .i64) (by omega),rfl⟩
     clear F71
     refine fr_mv F72 88 7 (.inr rfl) rfl rfl (by decide) rfl fun _ F73=>?_
     clear F72
     refine fr_end ?_
     have hxV:=hx1.trans (hx2.trans hx6)
     have hrR6:=hrR.keep hx6
     go_upto_region 25 with fail
     have hcs:csi.length=(n1+1)*260:=HI.out.1
     have hiT:=own_cut (m:=n1) HI.out (by omega)
     obtain ⟨AT,cT,eT,_,_,hRT⟩:=own_rd hiT
     simp only [Value.slice.injEq] at eT
     obtain ⟨rfl,-,-⟩:=eT
     have HRT:=Lib.hid (hRT.keep hxV)
     have hkT:=dkidsV_take HKI.out n1
     have HKT:=Lib.hid hkT
     have HY2:=Lib.hid ((hxV.cell (p:=⟨gs,N*3+2,none⟩) hglt).trans y2)
     have HGS:=Lib.hid (show gs<w6.heap.size from Nat.lt_of_lt_of_le hglt hxV.size)
     have HB6:=Lib.hid hb6
     have HPS6:=Lib.hid (HPS.out.keep hxV)
     have HRR6:=Lib.hid hrR6
     have HXV:=Lib.hid hxV
     have HROW:=Lib.hid (show w6.ownsRow (w.heap.size+1) 98 3 (.slice (some ⟨gs,0,none⟩) (N+1) cap) (N+1) (cellsO st ++ OpS.cells ⟨⟨num,alts,items⟩,va,.slice (some ⟨gv,0,none⟩) (n1+1) cv⟩) from by have h9:=HPS6.out.row;rwa [List.length_append,List.length_singleton,hN,cellsO_snoc] at h9)
     have HFR6:=Lib.hid (show ∀ j,w6.frozen? ⟨gs,j,none⟩=false from (HPS6.out.head hN).2.2.2.2.1)
     clear hcs hiT hRT hkT hb6 hrR6 hxV hrR5 hfr hfv y0 y1 y2
     refine rep25 (Fr.cons (Fr.cons (Fr.cons (Fr.cons (Fr.cons (Fr.cons (Fr.cons (Fr.cons F73.nil (F73.kn 12 _ rfl)) (F73.kn 10 _ rfl)) (F73.kn 8 _ rfl)) (F73.kn 7 _ rfl)) (F73.kn 5 _ rfl)) (F73.kn 4 _ rfl)) (F73.kn 2 _ rfl)) (F73.kn 0 _ rfl)) hcap hcm hcv hmv hn120 hN8 HRT (Lib.hid (dkids_one HKT.out)) HY2 HGS HB6 HROW HFR6 (Lib.hid fun a74 w9 v2 F74 hown9 hrow9 hc9=>?_)
     clear F73
     go_upto_region 26 with fail
     refine fr_region ?_
     refine fr_as F74 6 (.inr rfl) rfl rfl (by decide) fun _ F75=>?_
     clear F74
     refine fr_end ?_
     go_wp2
     have hR:=HRUN.out
     have hrun9:=runs_go HRUN.out HST.out
     rw [show decide (l[i+1]?=some 63)=true from by rw [HI1.out];exact HZ.out] at hrun9
     have hdl:items.dropLast=items.take n1:=by rw [List.dropLast_eq_take,HN1.out,Nat.add_sub_cancel]
     have hln:(items.dropLast ++ [repT c true t]).length=n1+1:=by rw [List.length_append,hdl,List.length_take,HN1.out];simp
     have hNT:DNodeV (fun b=>w.heap.size+1≤b∧b ∉ liveO (.slice (some ⟨gs,0,none⟩) (N+1) cap) (st ++ [⟨⟨num,alts,items⟩,va,.slice (some ⟨gv,0,none⟩) (n1+1) cv⟩])) w6 (repT c true t) (dnC 6 0 true (fun _=>false) (some ⟨gR,0,none⟩) 1 1):=by
      have h9:=dnode_one4 (S:=fun b=>w.heap.size+1≤b∧b ∉ liveO (.slice (some ⟨gs,0,none⟩) (N+1) cap) (st ++ [⟨⟨num,alts,items⟩,va,.slice (some ⟨gv,0,none⟩) (n1+1) cv⟩])) (t:=t) 6 0 true HRR6.out (Nat.le_refl 1) (by unfold maxLen;omega) (fun b o x e=>by
       have hb:b=gR:=by simpa using (congrArg Addr.block (Option.some.inj e)).symm
       have hsz1:=hx1.size
       have hsz0:=HEX.out.size
       have hB2:=HB2.out.lt
       subst hb
       exact ⟨by omega,fun hm=>by have:=HPS.out.liveLt _ hm;omega⟩) (HVT.out.keep HXV.out)
      have hk9:=HKc.out
      rw [hk9]
      exact h9
     have hkids:=dkidsV_append (dkidsV_map (fun t v h=>DNodeV.keep h HXV.out) HKT.out) (dkidsV_one hNT)
     rw [← hdl] at hkids
     have hsw:w.heap.size+1≤w6.heap.size:=by have:=HPS6.out.row;have:=HGS.out;omega
     have hps9:=rep_done (its:=items.dropLast ++ [repT c true t]) HPS6.out rfl hsw hc9 (by rw [hln];exact hown9) hkids (by have h9:=hrow9;rw [show N*3+2=st.length*3+2 by rw [hN],cellsO_set2] at h9;rw [hN];exact h9)
     have hex9:Ext w w9:=by
      have h9:=HEX.out.trans HXV.out
      refine ⟨hc9.os.trans h9.os,hc9.tape.trans h9.tape,hc9.output.trans h9.output,Nat.le_trans h9.size hc9.size,fun k hk=>(hc9.block k (Nat.lt_of_lt_of_le hk h9.size) (by simp;omega)).trans (h9.block k hk)⟩
     have hb29:=Blk.chg (HB2.out.keep HXV.out) hc9 (by simp;omega)
     have hi1':=HI1.out
     have hi2':=HI2.out
     refine HKK.out _ _ (Handed.intro (l.length-i2) (by omega) (HJ.out _ _ _ ⟨_,_,_,_,Fr.cons (Fr.cons (Fr.cons (Fr.cons (Fr.cons (Fr.cons F75.nil (F75.kn 7 _ rfl)) (F75.kn 6 _ rfl)) (F75.kn 5 _ rfl)) (F75.kn 4 _ rfl)) (F75.kn 2 _ rfl)) (F75.kn 0 _ rfl),num,alts,items.dropLast ++ [repT c true t],rest,gr,i2,false,st,va,v2,gs,cap,N,rfl,hN,rfl,rfl,rfl,rfl,hps9,HMO.out,by rw [show i2=i+2 by have:=HI1.out;have:=HI2.out;omega];exact hrun9,by omega,hgr,hN8,fun y hy=>?_,hex9,hb29⟩))
     rcases List.mem_append.1 hy with h9 | h9
     ·have h8:=HBD.out y (List.mem_append.2 (.inl h9));omega
     ·have h8:=HBD.out _ (List.mem_append.2 (.inr (List.mem_singleton.2 rfl)));rw [List.mem_singleton.1 h9];dsimp only at h8 ⊢;rw [HN1.out] at h8;rw [hln];omega
    ·have HZ:=Lib.hid (show decide (l[i1]?=some 63)=false from by rw [List.getElem?_eq_getElem hz1,hd];simp [hz2])
     have z2:((d.toNat:Int) == 63)=false:=u8_ne hz2
     clear hz2
     refine fr_region ?_
     refine fr_mv F58 7 76 (.inl rfl) rfl rfl (by decide) rfl fun _ F59=>?_
     clear F58
     refine fr_mv F59 0 77 (.inl rfl) rfl rfl (by decide) rfl fun _ F60=>?_
     clear F59
     refine fr2 F60 78 (.int .i64 (l.length:Nat)) w5 rfl (by decide) ?_ fun _ F61=>?_
     ·have e77:=F60.kn 77 _ rfl;go_wp2;exact ⟨_,rfl,rfl,rfl⟩
     clear F60
     refine fr2 F61 79 (.bool true) w5 rfl (by decide) ?_ fun _ F62=>?_
     ·have e76:=F61.kn 76 _ rfl;have e78:=F61.kn 78 _ rfl;go_wp2;exact ⟨_,rfl,rfl,rfl⟩
     clear F61
     refine fr_mv F62 79 80 (.inl rfl) rfl rfl (by decide) rfl fun _ F63=>?_
     clear F62
     refine fr2 F63 81 (.string ⟨l.toArray⟩) w5 rfl (by decide) ?_ fun _ F64=>?_
     ·have e0:=F63.kn 0 _ rfl;have e80:=F63.kn 80 _ rfl;go_wp2;exact ⟨_,rfl,rfl,rfl⟩
     clear F63
     refine fr2 F64 82 (.int .i64 (i1:Nat)) w5 rfl (by decide) ?_ fun _ F65=>?_
     ·have e7:=F64.kn 7 _ rfl;have e80:=F64.kn 80 _ rfl;go_wp2;exact ⟨_,rfl,rfl,rfl⟩
     clear F64
     refine fr2 F65 83 (.int .u8 (d.toNat:Nat)) w5 rfl (by decide) ?_ fun _ F66=>?_
     ·have e81:=F65.kn 81 _ rfl;have e82:=F65.kn 82 _ rfl;have e80:=F65.kn 80 _ rfl;go_wp2;exact ⟨_,rfl,rfl,rfl⟩
     clear F65
     refine fr2 F66 84 (.bool false) w5 rfl (by decide) ?_ fun _ F67=>?_
     ·have e83:=F66.kn 83 _ rfl;have e80:=F66.kn 80 _ rfl;go_wp2;exact ⟨_,rfl,rfl,rfl⟩
     clear F66
     refine fr2 F67 85 (.bool false) w5 rfl (by decide) ?_ fun _ F68=>?_
     ·have e80:=F67.kn 80 _ rfl;have e84:=F67.kn 84 _ rfl;go_wp2;exact ⟨_,rfl,rfl,rfl⟩
     clear F67
     refine fr_end ?_
     go_upto_if 85 with fail
     refine wp_cond_false (F68.ev (t:=85) rfl) ?_
     have hxV:=hxU
     have hb6:=hb5
     have hrR6:=hrR5
     go_upto_region 25 with fail
     have hcs:csi.length=(n1+1)*260:=HI.out.1
     have hiT:=own_cut (m:=n1) HI.out (by omega)
     obtain ⟨AT,cT,eT,_,_,hRT⟩:=own_rd hiT
     simp only [Value.slice.injEq] at eT
     obtain ⟨rfl,-,-⟩:=eT
     have HRT:=Lib.hid (hRT.keep hxV)
     have hkT:=dkidsV_take HKI.out n1
     have HKT:=Lib.hid hkT
     have HY2:=Lib.hid ((hxV.cell (p:=⟨gs,N*3+2,none⟩) hglt).trans y2)
     have HGS:=Lib.hid (show gs<w5.heap.size from Nat.lt_of_lt_of_le hglt hxV.size)
     have HB6:=Lib.hid hb6
     have HPS6:=Lib.hid (HPS.out.keep hxV)
     have HRR6:=Lib.hid hrR6
     have HXV:=Lib.hid hxV
     have HROW:=Lib.hid (show w5.ownsRow (w.heap.size+1) 98 3 (.slice (some ⟨gs,0,none⟩) (N+1) cap) (N+1) (cellsO st ++ OpS.cells ⟨⟨num,alts,items⟩,va,.slice (some ⟨gv,0,none⟩) (n1+1) cv⟩) from by have h9:=HPS6.out.row;rwa [List.length_append,List.length_singleton,hN,cellsO_snoc] at h9)
     have HFR6:=Lib.hid (show ∀ j,w5.frozen? ⟨gs,j,none⟩=false from (HPS6.out.head hN).2.2.2.2.1)
     clear hcs hiT hRT hkT hb6 hrR6 hxV hrR5 hfr hfv y0 y1 y2
     refine rep25 (Fr.cons (Fr.cons (Fr.cons (Fr.cons (Fr.cons (Fr.cons (Fr.cons (Fr.cons F68.nil (F68.kn 12 _ rfl)) (F68.kn 10 _ rfl)) (F68.kn 8 _ rfl)) (F68.kn 7 _ rfl)) (F68.kn 5 _ rfl)) (F68.kn 4 _ rfl)) (F68.kn 2 _ rfl)) (F68.kn 0 _ rfl)) hcap hcm hcv hmv hn120 hN8 HRT (Lib.hid (dkids_one HKT.out)) HY2 HGS HB6 HROW HFR6 (Lib.hid fun a69 w9 v2 F69 hown9 hrow9 hc9=>?_)
     clear F68
     go_upto_region 26 with fail
     refine fr_region ?_
     refine fr_as F69 6 (.inr rfl) rfl rfl (by decide) fun _ F70=>?_
     clear F69
     refine fr_end ?_
     go_wp2
     have hR:=HRUN.out
     have hrun9:=runs_go HRUN.out HST.out
     rw [show decide (l[i+1]?=some 63)=false from by rw [HI1.out];exact HZ.out] at hrun9
     have hdl:items.dropLast=items.take n1:=by rw [List.dropLast_eq_take,HN1.out,Nat.add_sub_cancel]
     have hln:(items.dropLast ++ [repT c false t]).length=n1+1:=by rw [List.length_append,hdl,List.length_take,HN1.out];simp
     have hNT:DNodeV (fun b=>w.heap.size+1≤b∧b ∉ liveO (.slice (some ⟨gs,0,none⟩) (N+1) cap) (st ++ [⟨⟨num,alts,items⟩,va,.slice (some ⟨gv,0,none⟩) (n1+1) cv⟩])) w5 (repT c false t) (dnC 6 0 false (fun _=>false) (some ⟨gR,0,none⟩) 1 1):=by
      have h9:=dnode_one4 (S:=fun b=>w.heap.size+1≤b∧b ∉ liveO (.slice (some ⟨gs,0,none⟩) (N+1) cap) (st ++ [⟨⟨num,alts,items⟩,va,.slice (some ⟨gv,0,none⟩) (n1+1) cv⟩])) (t:=t) 6 0 false HRR6.out (Nat.le_refl 1) (by unfold maxLen;omega) (fun b o x e=>by
       have hb:b=gR:=by simpa using (congrArg Addr.block (Option.some.inj e)).symm
       have hsz1:=hx1.size
       have hsz0:=HEX.out.size
       have hB2:=HB2.out.lt
       subst hb
       exact ⟨by omega,fun hm=>by have:=HPS.out.liveLt _ hm;omega⟩) (HVT.out.keep HXV.out)
      have hk9:=HKc.out
      rw [hk9]
      exact h9
     have hkids:=dkidsV_append (dkidsV_map (fun t v h=>DNodeV.keep h HXV.out) HKT.out) (dkidsV_one hNT)
     rw [← hdl] at hkids
     have hsw:w.heap.size+1≤w5.heap.size:=by have:=HPS6.out.row;have:=HGS.out;omega
     have hps9:=rep_done (its:=items.dropLast ++ [repT c false t]) HPS6.out rfl hsw hc9 (by rw [hln];exact hown9) hkids (by have h9:=hrow9;rw [show N*3+2=st.length*3+2 by rw [hN],cellsO_set2] at h9;rw [hN];exact h9)
     have hex9:Ext w w9:=by
      have h9:=HEX.out.trans HXV.out
      refine ⟨hc9.os.trans h9.os,hc9.tape.trans h9.tape,hc9.output.trans h9.output,Nat.le_trans h9.size hc9.size,fun k hk=>(hc9.block k (Nat.lt_of_lt_of_le hk h9.size) (by simp;omega)).trans (h9.block k hk)⟩
     have hb29:=Blk.chg (HB2.out.keep HXV.out) hc9 (by simp;omega)
     have hi1':=HI1.out
     refine HKK.out _ _ (Handed.intro (l.length-i1) (by omega) (HJ.out _ _ _ ⟨_,_,_,_,Fr.cons (Fr.cons (Fr.cons (Fr.cons (Fr.cons (Fr.cons F70.nil (F70.kn 7 _ rfl)) (F70.kn 6 _ rfl)) (F70.kn 5 _ rfl)) (F70.kn 4 _ rfl)) (F70.kn 2 _ rfl)) (F70.kn 0 _ rfl),num,alts,items.dropLast ++ [repT c false t],rest,gr,i1,false,st,va,v2,gs,cap,N,rfl,hN,rfl,rfl,rfl,rfl,hps9,HMO.out,by rw [← HI1.out];exact hrun9,by omega,hgr,hN8,fun y hy=>?_,hex9,hb29⟩))
     rcases List.mem_append.1 hy with h9 | h9
     ·have h8:=HBD.out y (List.mem_append.2 (.inl h9));omega
     ·have h8:=HBD.out _ (List.mem_append.2 (.inr (List.mem_singleton.2 rfl)));rw [List.mem_singleton.1 h9];dsimp only at h8 ⊢;rw [HN1.out] at h8;rw [hln];omega
   ·have hz1':¬ (i1:Int)<(l.length:Int):=by omega
    have HZ:=Lib.hid (show decide (l[i1]?=some 63)=false from by rw [List.getElem?_eq_none (by omega)];rfl)
    refine fr_region ?_
    refine fr_mv F58 7 76 (.inl rfl) rfl rfl (by decide) rfl fun _ F59=>?_
    clear F58
    refine fr_mv F59 0 77 (.inl rfl) rfl rfl (by decide) rfl fun _ F60=>?_
    clear F59
    refine fr2 F60 78 (.int .i64 (l.length:Nat)) w5 rfl (by decide) ?_ fun _ F61=>?_
    ·have e77:=F60.kn 77 _ rfl;go_wp2;exact ⟨_,rfl,rfl,rfl⟩
    clear F60
    refine fr2 F61 79 (.bool false) w5 rfl (by decide) ?_ fun _ F62=>?_
    ·have e76:=F61.kn 76 _ rfl;have e78:=F61.kn 78 _ rfl;go_wp2;exact ⟨_,rfl,rfl,rfl⟩
    clear F61
    refine fr_mv F62 79 80 (.inl rfl) rfl rfl (by decide) rfl fun _ F63=>?_
    clear F62
    refine fr2 F63 81 (undef) w5 rfl (by decide) ?_ fun _ F64=>?_
    ·have e80:=F63.kn 80 _ rfl;go_wp2;exact ⟨_,rfl,rfl,rfl⟩
    clear F63
    refine fr2 F64 82 (undef) w5 rfl (by decide) ?_ fun _ F65=>?_
    ·have e80:=F64.kn 80 _ rfl;go_wp2;exact ⟨_,rfl,rfl,rfl⟩
    clear F64
    refine fr2 F65 83 (undef) w5 rfl (by decide) ?_ fun _ F66=>?_
    ·have e80:=F65.kn 80 _ rfl;go_wp2;exact ⟨_,rfl,rfl,rfl⟩
    clear F65
    refine fr2 F66 84 (undef) w5 rfl (by decide) ?_ fun _ F67=>?_
    ·have e80:=F66.kn 80 _ rfl;go_wp2;exact ⟨_,rfl,rfl,rfl⟩
    clear F66
    refine fr2 F67 85 (.bool false) w5 rfl (by decide) ?_ fun _ F68=>?_
    ·have e80:=F67.kn 80 _ rfl;have e84:=F67.kn 84 _ rfl;go_wp2;exact ⟨_,rfl,rfl,rfl⟩
    clear F67
    refine fr_end ?_
    go_upto_if 85 with fail
    refine wp_cond_false (F68.ev (t:=85) rfl) ?_
    have hxV:=hxU
    have hb6:=hb5
    have hrR6:=hrR5
    go_upto_region 25 with fail
    have hcs:csi.length=(n1+1)*260:=HI.out.1
    have hiT:=own_cut (m:=n1) HI.out (by omega)
    obtain ⟨AT,cT,eT,_,_,hRT⟩:=own_rd hiT
    simp only [Value.slice.injEq] at eT
    obtain ⟨rfl,-,-⟩:=eT
    have HRT:=Lib.hid (hRT.keep hxV)
    have hkT:=dkidsV_take HKI.out n1
    have HKT:=Lib.hid hkT
    have HY2:=Lib.hid ((hxV.cell (p:=⟨gs,N*3+2,none⟩) hglt).trans y2)
    have HGS:=Lib.hid (show gs<w5.heap.size from Nat.lt_of_lt_of_le hglt hxV.size)
    have HB6:=Lib.hid hb6
    have HPS6:=Lib.hid (HPS.out.keep hxV)
    have HRR6:=Lib.hid hrR6
    have HXV:=Lib.hid hxV
    have HROW:=Lib.hid (show w5.ownsRow (w.heap.size+1) 98 3 (.slice (some ⟨gs,0,none⟩) (N+1) cap) (N+1) (cellsO st ++ OpS.cells ⟨⟨num,alts,items⟩,va,.slice (some ⟨gv,0,none⟩) (n1+1) cv⟩) from by have h9:=HPS6.out.row;rwa [List.length_append,List.length_singleton,hN,cellsO_snoc] at h9)
    have HFR6:=Lib.hid (show ∀ j,w5.frozen? ⟨gs,j,none⟩=false from (HPS6.out.head hN).2.2.2.2.1)
    clear hcs hiT hRT hkT hb6 hrR6 hxV hrR5 hfr hfv y0 y1 y2
    refine rep25 (Fr.cons (Fr.cons (Fr.cons (Fr.cons (Fr.cons (Fr.cons (Fr.cons (Fr.cons F68.nil (F68.kn 12 _ rfl)) (F68.kn 10 _ rfl)) (F68.kn 8 _ rfl)) (F68.kn 7 _ rfl)) (F68.kn 5 _ rfl)) (F68.kn 4 _ rfl)) (F68.kn 2 _ rfl)) (F68.kn 0 _ rfl)) hcap hcm hcv hmv hn120 hN8 HRT (Lib.hid (dkids_one HKT.out)) HY2 HGS HB6 HROW HFR6 (Lib.hid fun a69 w9 v2 F69 hown9 hrow9 hc9=>?_)
    clear F68
    go_upto_region 26 with fail
    refine fr_region ?_
    refine fr_as F69 6 (.inr rfl) rfl rfl (by decide) fun _ F70=>?_
    clear F69
    refine fr_end ?_
    go_wp2
    have hR:=HRUN.out
    have hrun9:=runs_go HRUN.out HST.out
    rw [show decide (l[i+1]?=some 63)=false from by rw [HI1.out];exact HZ.out] at hrun9
    have hdl:items.dropLast=items.take n1:=by rw [List.dropLast_eq_take,HN1.out,Nat.add_sub_cancel]
    have hln:(items.dropLast ++ [repT c false t]).length=n1+1:=by rw [List.length_append,hdl,List.length_take,HN1.out];simp
    have hNT:DNodeV (fun b=>w.heap.size+1≤b∧b ∉ liveO (.slice (some ⟨gs,0,none⟩) (N+1) cap) (st ++ [⟨⟨num,alts,items⟩,va,.slice (some ⟨gv,0,none⟩) (n1+1) cv⟩])) w5 (repT c false t) (dnC 6 0 false (fun _=>false) (some ⟨gR,0,none⟩) 1 1):=by
     have h9:=dnode_one4 (S:=fun b=>w.heap.size+1≤b∧b ∉ liveO (.slice (some ⟨gs,0,none⟩) (N+1) cap) (st ++ [⟨⟨num,alts,items⟩,va,.slice (some ⟨gv,0,none⟩) (n1+1) cv⟩])) (t:=t) 6 0 false HRR6.out (Nat.le_refl 1) (by unfold maxLen;omega) (fun b o x e=>by
      have hb:b=gR:=by simpa using (congrArg Addr.block (Option.some.inj e)).symm
      have hsz1:=hx1.size
      have hsz0:=HEX.out.size
      have hB2:=HB2.out.lt
      subst hb
      exact ⟨by omega,fun hm=>by have:=HPS.out.liveLt _ hm;omega⟩) (HVT.out.keep HXV.out)
     have hk9:=HKc.out
     rw [hk9]
     exact h9
    have hkids:=dkidsV_append (dkidsV_map (fun t v h=>DNodeV.keep h HXV.out) HKT.out) (dkidsV_one hNT)
    rw [← hdl] at hkids
    have hsw:w.heap.size+1≤w5.heap.size:=by have:=HPS6.out.row;have:=HGS.out;omega
    have hps9:=rep_done (its:=items.dropLast ++ [repT c false t]) HPS6.out rfl hsw hc9 (by rw [hln];exact hown9) hkids (by have h9:=hrow9;rw [show N*3+2=st.length*3+2 by rw [hN],cellsO_set2] at h9;rw [hN];exact h9)
    have hex9:Ext w w9:=by
     have h9:=HEX.out.trans HXV.out
     refine ⟨hc9.os.trans h9.os,hc9.tape.trans h9.tape,hc9.output.trans h9.output,Nat.le_trans h9.size hc9.size,fun k hk=>(hc9.block k (Nat.lt_of_lt_of_le hk h9.size) (by simp;omega)).trans (h9.block k hk)⟩
    have hb29:=Blk.chg (HB2.out.keep HXV.out) hc9 (by simp;omega)
    have hi1':=HI1.out
    refine HKK.out _ _ (Handed.intro (l.length-i1) (by omega) (HJ.out _ _ _ ⟨_,_,_,_,Fr.cons (Fr.cons (Fr.cons (Fr.cons (Fr.cons (Fr.cons F70.nil (F70.kn 7 _ rfl)) (F70.kn 6 _ rfl)) (F70.kn 5 _ rfl)) (F70.kn 4 _ rfl)) (F70.kn 2 _ rfl)) (F70.kn 0 _ rfl),num,alts,items.dropLast ++ [repT c false t],rest,gr,i1,false,st,va,v2,gs,cap,N,rfl,hN,rfl,rfl,rfl,rfl,hps9,HMO.out,by rw [← HI1.out];exact hrun9,by omega,hgr,hN8,fun y hy=>?_,hex9,hb29⟩))
    rcases List.mem_append.1 hy with h9 | h9
    ·have h8:=HBD.out y (List.mem_append.2 (.inl h9));omega
    ·have h8:=HBD.out _ (List.mem_append.2 (.inr (List.mem_singleton.2 rfl)));rw [List.mem_singleton.1 h9];dsimp only at h8 ⊢;rw [HN1.out] at h8;rw [hln];omega
  ·exact absurd hk (by rw [H9hsg.out];decide)
set_option maxHeartbeats 40000000 in
set_option maxRecDepth 20000 in
theorem way1c (l:List UInt8) (R:PR) (w:World) (_:(l.length:Int)≤120) (_:Hid (Tryz.zeroCells38.toList.length=260)) (HRN:Hid (R ≠ .out)) (HL:Hid (l.length≤120)) (Q:Exit→Act→World→Prop)
  (_:Hid (∀ a w',bodyPost Tryz.prog Tryz.f30 (fun e w'=>RefRes w R e w') .ret a w' → Q .ret a w')) (gk:Nat) (a0:Act) (wr:World) (J:Nat→Act→World→Prop) (K:Act→World→Prop)
  (HJ:Hid (∀ k a' w',LInv l R w k a' w' → J k a' w')) (HKK:Hid (∀ a' w',Handed J gk a' w' → K a' w')) (sv gv av iv:Value)
  (F0:Fr 280 [(0,.string ⟨l.toArray⟩),(2,.pointer (some ⟨w.heap.size,0,none⟩)),(4,sv),(5,gv),(6,av),(7,iv)] a0) (hrel:PInv l R w gk sv gv av iv wr)
  (i:Nat) (hiv:iv=.int .i64 (i:Nat)) (c:UInt8) (hlt:i<l.length) (hc:l[i]'hlt=c) (hrep:isRep c) (hag:av ≠ .bool false) (hsg:c=63) :
  Code.wp Tryz.prog bodyP (Exit.then K Q) a0 wr:=by
 have H9hrep:=Lib.hid hrep
 have H9hag:=Lib.hid hag
 have H9hsg:=Lib.hid hsg
 clear hrep hag hsg
 unfold bodyP
 unfold Tryz.f30
 dsimp only [loopIn,Option.getD,Option.bind]
 obtain ⟨num,alts,items,rest,gr,i9,ag,st,va,vi,gs,cap,N,rfl,hN,rfl,rfl,rfl,rfl,hps,hmo,hrun,hil,hgr,hN8,hbd,hext,hb2⟩:=hrel
 obtain rfl:i=i9:=by
  simp only [Value.int.injEq,true_and] at hiv
  omega
 clear hiv
 obtain ⟨hcap,hcm,hBg,hglt,hfr,y0,y1,y2⟩:=hps.head hN
 dsimp only at y0 y1 y2
 have HPS:=Lib.hid hps
 have HMO:=Lib.hid hmo
 have HRUN:=Lib.hid hrun
 have HBD:=Lib.hid hbd
 have HEX:=Lib.hid hext
 have HB2:=Lib.hid hb2
 clear hps hmo hrun hbd hext hb2
 have hlt':(i:Int)<(l.length:Int):=by omega
 have HLI:=Lib.hid (show l[i]?=some c by rw [List.getElem?_eq_getElem hlt,hc])
 go_upto_region 6 with fail
 refine fr_region ?_
 refine fr_mv F0 7 24 (.inl rfl) rfl rfl (by decide) rfl fun _ F1=>?_
 clear F0
 refine fr_mv F1 0 25 (.inl rfl) rfl rfl (by decide) rfl fun _ F2=>?_
 clear F1
 refine fr2 F2 26 (.int .i64 (l.length:Nat)) wr rfl (by decide) ?_ fun _ F3=>?_
 ·have e25:=F2.kn 25 _ rfl;go_wp2;exact ⟨_,rfl,rfl,rfl⟩
 clear F2
 refine fr2 F3 27 (.bool true) wr rfl (by decide) ?_ fun _ F4=>?_
 ·have e24:=F3.kn 24 _ rfl;have e26:=F3.kn 26 _ rfl;go_wp2;exact ⟨_,rfl,rfl,rfl⟩
 clear F3
 refine fr_end ?_
 go_upto_if 27 with fail
 refine wp_cond_true (F4.ev (t:=27) rfl) ?_
 go_upto_region 7 with fail
 refine fr_region ?_
 refine fr_mv F4 4 28 (.inl rfl) rfl rfl (by decide) rfl fun _ F5=>?_
 clear F4
 refine fr2 F5 29 (.int .i64 ((N:Int)+1)) wr rfl (by decide) ?_ fun _ F6=>?_
 ·have e28:=F5.kn 28 _ rfl;go_wp2;exact ⟨_,rfl,rfl,rfl⟩
 clear F5
 refine fr2 F6 30 (.int .i64 (N:Nat)) wr rfl (by decide) ?_ fun _ F7=>?_
 ·have e29:=F6.kn 29 _ rfl;go_wp2;exact ⟨_,rfl,rfl,rfl⟩
 clear F6
 refine fr_mv F7 30 8 (.inr rfl) rfl rfl (by decide) rfl fun _ F8=>?_
 clear F7
 refine fr_end ?_
 go_upto_region 8 with fail
 refine fr_region ?_
 refine fr_mv F8 0 31 (.inl rfl) rfl rfl (by decide) rfl fun _ F9=>?_
 clear F8
 refine fr_mv F9 7 32 (.inl rfl) rfl rfl (by decide) rfl fun _ F10=>?_
 clear F9
 refine fr2 F10 33 (.int .u8 (c.toNat:Nat)) wr rfl (by decide) ?_ fun _ F11=>?_
 ·have e31:=F10.kn 31 _ rfl;have e32:=F10.kn 32 _ rfl;go_wp2;exact ⟨_,rfl,rfl,rfl⟩
 clear F10
 refine fr_mv F11 33 9 (.inr rfl) rfl rfl (by decide) rfl fun _ F12=>?_
 clear F11
 refine fr_end ?_
 have hrep:=H9hrep.out
 have hag:=H9hag.out
 clear H9hrep H9hag
 have hcc:((((c.toNat:Int) == 42)=true∧((c.toNat:Int) == 43)=false∧((c.toNat:Int) == 63)=false)∧c=42)∨((((c.toNat:Int) == 42)=false∧((c.toNat:Int) == 43)=true∧((c.toNat:Int) == 63)=false)∧c=43)∨((((c.toNat:Int) == 42)=false∧((c.toNat:Int) == 43)=false∧((c.toNat:Int) == 63)=true)∧c=63):=by
  rcases hrep with h | h | h
  ·exact .inl ⟨by rw [h];exact ⟨rfl,rfl,rfl⟩,h⟩
  ·exact .inr (.inl ⟨by rw [h];exact ⟨rfl,rfl,rfl⟩,h⟩)
  ·exact .inr (.inr ⟨by rw [h];exact ⟨rfl,rfl,rfl⟩,h⟩)
 have HCC:=Lib.hid hcc
 clear hcc
 cases ag
 ·exact absurd rfl hag
 ·obtain ⟨n1,hn1⟩:∃ n1,items.length=n1+1:=by
   cases items with
   | nil=>exact absurd (runs_fin HRUN.out (stp_repN HLI.out hrep)) HRN.out
   | cons x r=>exact ⟨r.length,by simp⟩
  obtain ⟨⟨csa,ha,hka⟩,⟨csi,hi,hki⟩⟩:=HPS.out.each _ (List.mem_append.2 (.inr (List.mem_singleton.2 rfl)))
  dsimp only at ha hka hi hki
  rw [hn1] at hi
  obtain ⟨gv,cv,rfl,hcv,hmv,hgv,hgvl,hfv,hcellv⟩:=own_blkS hi (by omega)
  have hiR:=hi
  obtain ⟨Av,cv',ev,_,_,hRv⟩:=own_rd hiR
  simp only [Value.slice.injEq] at ev
  obtain ⟨rfl,-,-⟩:=ev
  rw [← hn1] at hRv
  obtain ⟨b1,o1,kk,km,kz,kp,kB,kn,kc,eb,hvt,hrow⟩:=dkid_at hRv hki (i:=n1) (by omega)
  simp only [Option.some.injEq,Addr.mk.injEq] at eb
  obtain ⟨rfl,rfl,-⟩:=eb
  have hel:=hrow.out wr (Ext.refl _)
  simp only [Nat.zero_add] at hel
  have HEL:=Lib.hid hel
  obtain ⟨t,ht⟩:∃ t,items[n1]'(by omega)=t:=⟨_,rfl⟩
  rw [ht] at hvt
  have HTL:=Lib.hid (show items.getLast?=some t by rw [List.getLast?_eq_getElem?,hn1,Nat.add_sub_cancel,List.getElem?_eq_getElem (by omega),ht])
  have HVT:=Lib.hid hvt
  have HA:=Lib.hid ha
  have HKA:=Lib.hid hka
  have HI:=Lib.hid hi
  have HKI:=Lib.hid hki
  have HN1:=Lib.hid hn1
  have HRV:=Lib.hid hRv
  have hn8:=(HBD.out _ (List.mem_append.2 (.inr (List.mem_singleton.2 rfl)))).2
  dsimp only at hn8
  rw [hn1] at hn8
  have hn120:n1+1≤120:=by have:=HL.out;omega
  clear hcellv ha hka hi hki hiR hRv hrow hel hvt hn8 ht hn1
  rcases HCC.out with ⟨⟨z42,z43,z63⟩,hk⟩ | ⟨⟨z42,z43,z63⟩,hk⟩ | ⟨⟨z42,z43,z63⟩,hk⟩
  ·exact absurd hk (by rw [H9hsg.out];decide)
  ·exact absurd hk (by rw [H9hsg.out];decide)
  ·have HKc:=Lib.hid hk
   clear hk
   go_upto_region 9 with fail
   refine fr_region ?_
   refine fr_mv F12 9 34 (.inl rfl) rfl rfl (by decide) rfl fun _ F13=>?_
   clear F12
   refine fr2 F13 35 (.bool false) wr rfl (by decide) ?_ fun _ F14=>?_
   ·have e34:=F13.kn 34 _ rfl;go_wp2;exact ⟨_,rfl,rfl,rfl⟩
   clear F13
   refine fr_mv F14 35 36 (.inl rfl) rfl rfl (by decide) rfl fun _ F15=>?_
   clear F14
   refine fr2 F15 37 (.int .u8 (c.toNat:Nat)) wr rfl (by decide) ?_ fun _ F16=>?_
   ·have e9:=F15.kn 9 _ rfl;have e36:=F15.kn 36 _ rfl;go_wp2;exact ⟨_,rfl,rfl,rfl⟩
   clear F15
   refine fr2 F16 38 (.bool false) wr rfl (by decide) ?_ fun _ F17=>?_
   ·have e37:=F16.kn 37 _ rfl;have e36:=F16.kn 36 _ rfl;go_wp2;exact ⟨_,rfl,rfl,rfl⟩
   clear F16
   refine fr2 F17 39 (.bool false) wr rfl (by decide) ?_ fun _ F18=>?_
   ·have e36:=F17.kn 36 _ rfl;have e38:=F17.kn 38 _ rfl;go_wp2;exact ⟨_,rfl,rfl,rfl⟩
   clear F17
   refine fr_mv F18 39 40 (.inl rfl) rfl rfl (by decide) rfl fun _ F19=>?_
   clear F18
   refine fr2 F19 41 (.int .u8 (c.toNat:Nat)) wr rfl (by decide) ?_ fun _ F20=>?_
   ·have e9:=F19.kn 9 _ rfl;have e40:=F19.kn 40 _ rfl;go_wp2;exact ⟨_,rfl,rfl,rfl⟩
   clear F19
   refine fr2 F20 42 (.bool true) wr rfl (by decide) ?_ fun _ F21=>?_
   ·have e41:=F20.kn 41 _ rfl;have e40:=F20.kn 40 _ rfl;go_wp2;exact ⟨_,rfl,rfl,rfl⟩
   clear F20
   refine fr2 F21 43 (.bool true) wr rfl (by decide) ?_ fun _ F22=>?_
   ·have e40:=F21.kn 40 _ rfl;have e42:=F21.kn 42 _ rfl;go_wp2;exact ⟨_,rfl,rfl,rfl⟩
   clear F21
   refine fr_end ?_
   go_upto_if 43 with fail
   refine wp_cond_true (F22.ev (t:=43) rfl) ?_
   go_upto_region 10 with fail
   refine fr_region ?_
   refine fr_mv F22 6 44 (.inl rfl) rfl rfl (by decide) rfl fun _ F23=>?_
   clear F22
   refine fr2 F23 45 (.bool false) wr rfl (by decide) ?_ fun _ F24=>?_
   ·have e44:=F23.kn 44 _ rfl;go_wp2;exact ⟨_,rfl,rfl,rfl⟩
   clear F23
   refine fr_end ?_
   go_upto_if 45 with fail
   refine wp_cond_false (F24.ev (t:=45) rfl) ?_
   go_upto_region 12 with fail
   refine fr_region ?_
   refine fr_mv F24 4 47 (.inl rfl) rfl rfl (by decide) rfl fun _ F25=>?_
   clear F24
   refine fr_mv F25 8 48 (.inl rfl) rfl rfl (by decide) rfl fun _ F26=>?_
   clear F25
   refine fr2 F26 49 (.pointer (some ⟨gs,N*3,none⟩)) wr rfl (by decide) ?_ fun _ F27=>?_
   ·have e47:=F26.kn 47 _ rfl;have e48:=F26.kn 48 _ rfl;go_wp2;exact ⟨_,rfl,rfl,rfl⟩
   clear F26
   refine fr2 F27 50 (.pointer (some ⟨gs,N*3+2,none⟩)) wr rfl (by decide) ?_ fun _ F28=>?_
   ·have e49:=F27.kn 49 _ rfl;go_wp2;exact ⟨_,rfl,rfl,rfl⟩
   clear F27
   refine fr2 F28 51 (.slice (some ⟨gv,0,none⟩) (n1+1) cv) wr rfl (by decide) ?_ fun _ F29=>?_
   ·have e50:=F28.kn 50 _ rfl;go_wp2;exact ⟨_,rfl,rfl,rfl⟩
   clear F28
   refine fr2 F29 52 (.int .i64 ((n1:Int)+1)) wr rfl (by decide) ?_ fun _ F30=>?_
   ·have e51:=F29.kn 51 _ rfl;go_wp2;exact ⟨_,rfl,rfl,rfl⟩
   clear F29
   refine fr2 F30 53 (.int .i64 (n1:Nat)) wr rfl (by decide) ?_ fun _ F31=>?_
   ·have e52:=F30.kn 52 _ rfl
    go_wp2
    first | exact ⟨_,rfl,rfl,rfl⟩ | exact ⟨_,rfl,congrArg (Value.int .i64) (by omega),rfl⟩
   clear F30
   refine fr_mv F31 53 10 (.inr rfl) rfl rfl (by decide) rfl fun _ F32=>?_
   clear F31
   refine fr_end ?_
   go_upto_region 13 with fail
   refine fr_region ?_
   refine fr_mv F32 4 54 (.inl rfl) rfl rfl (by decide) rfl fun _ F33=>?_
   clear F32
   refine fr_mv F33 8 55 (.inl rfl) rfl rfl (by decide) rfl fun _ F34=>?_
   clear F33
   refine fr2 F34 56 (.pointer (some ⟨gs,N*3,none⟩)) wr rfl (by decide) ?_ fun _ F35=>?_
   ·have e54:=F34.kn 54 _ rfl;have e55:=F34.kn 55 _ rfl;go_wp2;exact ⟨_,rfl,rfl,rfl⟩
   clear F34
   refine fr2 F35 57 (.pointer (some ⟨gs,N*3+2,none⟩)) wr rfl (by decide) ?_ fun _ F36=>?_
   ·have e56:=F35.kn 56 _ rfl;go_wp2;exact ⟨_,rfl,rfl,rfl⟩
   clear F35
   refine fr2 F36 58 (.slice (some ⟨gv,0,none⟩) (n1+1) cv) wr rfl (by decide) ?_ fun _ F37=>?_
   ·have e57:=F36.kn 57 _ rfl;go_wp2;exact ⟨_,rfl,rfl,rfl⟩
   clear F36
   refine fr_mv F37 10 59 (.inl rfl) rfl rfl (by decide) rfl fun _ F38=>?_
   clear F37
   refine fr2 F38 60 (.pointer (some ⟨gv,n1*260,none⟩)) wr rfl (by decide) ?_ fun _ F39=>?_
   ·have e58:=F38.kn 58 _ rfl;have e59:=F38.kn 59 _ rfl;go_wp2;exact ⟨_,rfl,rfl,rfl⟩
   clear F38
   refine fr2 F39 61 (.agg (dnC kk km kz kp kB kn kc).toArray) wr rfl (by decide) ?_ fun _ F40=>?_
   ·have e60:=F39.kn 60 _ rfl
    refine load_el rfl (.tmp 60) rfl (F39.ev (t:=60) rfl) HEL.out ?_
    exact ⟨_,rfl,rfl,rfl⟩
   clear F39
   refine fr_op F40 11 rfl (by decide) (At2 (.pointer (some ⟨wr.heap.size,0,none⟩)) (wr.alloc (.cells Tryz.zeroCells38 38))) ?_ ?_
   ·go_wp2
    exact ⟨_,rfl,rfl,rfl⟩
   rintro a41 _ _ ⟨rfl,rfl⟩ F41
   clear F40
   refine fr_op0 F41 rfl (fun w'=>Ext wr w' ∧ Blk w' wr.heap.size 38 (dnC kk km kz kp kB kn kc)∧wr.heap.size<w'.heap.size) ?_ ?_
   ·have e11:=F41.kn 11 _ rfl
    have e61:=F41.kn 61 _ rfl
    refine store_dn_new rfl (.tmp 11) (.tmp 61) rfl (F41.ev (t:=11) rfl) (F41.ev (t:=61) rfl) zsize40 ?_
    exact ⟨_,rfl,Ext.new1 _ _,Blk.newL _ _ _,by simp⟩
   rintro a42 w1 ⟨hx1,hb1,hs1⟩ F42
   clear F41
   refine fr_end ?_
   go_upto_region 14 with fail
   refine fr_region ?_
   refine fr2 F42 62 (.agg (dnC kk km kz kp kB kn kc).toArray) w1 rfl (by decide) ?_ fun _ F43=>?_
   ·have e11:=F42.kn 11 _ rfl
    refine load_dn rfl (.tmp 11) rfl (F42.ev (t:=11) rfl) hb1 ?_
    exact ⟨_,rfl,rfl,rfl⟩
   clear F42
   refine fr_op F43 63 rfl (by decide) (fun v w'=>∃ gR,v=.slice (some ⟨gR,0,none⟩) 1 1∧w1.heap.size≤gR∧Ext w1 w' ∧ Rd w' 260 (some ⟨gR,0,none⟩) 1 (dnC kk km kz kp kB kn kc)∧gR<w'.heap.size) ?_ ?_
   ·have e62:=F43.kn 62 _ rfl
    refine mk_dn rfl (.tmp 62) rfl (v:=(dnC kk km kz kp kB kn kc)) (dn_len _ _ _ _ _ _ _) (F43.ev (t:=62) rfl) ?_
    exact ⟨_,rfl,_,rfl,Nat.le_refl _,Ext.new1 _ _,rd_newS _ 260 1 _ _ (by rw [dn_len]),by simp⟩
   rintro a44 _ w2 ⟨gR,rfl,hgR,hx2,hrR,hs2⟩ F44
   clear F43
   refine fr2 F44 64 (.agg (dnC 5 0 false (fun _=>false) (some ⟨gR,0,none⟩) 1 1).toArray) w2 rfl (by decide) ?_ fun _ F45=>?_
   ·have e63:=F44.kn 63 _ rfl
    refine build_kk rfl (.tmp 63) rfl (F44.ev (t:=63) rfl) ?_
    exact ⟨_,rfl,rfl,rfl⟩
   clear F44
   refine fr_op F45 12 rfl (by decide) (At2 (.pointer (some ⟨w2.heap.size,0,none⟩)) (w2.alloc (.cells Tryz.zeroCells38 38))) ?_ ?_
   ·go_wp2
    exact ⟨_,rfl,rfl,rfl⟩
   rintro a46 _ _ ⟨rfl,rfl⟩ F46
   clear F45
   refine fr_op0 F46 rfl (fun w'=>Ext w2 w' ∧ Blk w' w2.heap.size 38 (dnC 5 0 false (fun _=>false) (some ⟨gR,0,none⟩) 1 1)∧w2.heap.size<w'.heap.size) ?_ ?_
   ·have e12:=F46.kn 12 _ rfl
    have e64:=F46.kn 64 _ rfl
    refine store_dn_new rfl (.tmp 12) (.tmp 64) rfl (F46.ev (t:=12) rfl) (F46.ev (t:=64) rfl) zsize40 ?_
    exact ⟨_,rfl,Ext.new1 _ _,Blk.newL _ _ _,by simp⟩
   rintro a47 w3 ⟨hx3,hb3,hs3⟩ F47
   clear F46
   refine fr_end ?_
   go_upto_region 15 with fail
   refine fr_region ?_
   refine fr_mv F47 9 65 (.inl rfl) rfl rfl (by decide) rfl fun _ F48=>?_
   clear F47
   refine fr2 F48 66 (.bool false) w3 rfl (by decide) ?_ fun _ F49=>?_
   ·have e65:=F48.kn 65 _ rfl;go_wp2;exact ⟨_,rfl,rfl,rfl⟩
   clear F48
   refine fr_end ?_
   go_upto_if 66 with fail
   refine wp_cond_false (F49.ev (t:=66) rfl) ?_
   go_upto_region 17 with fail
   refine fr_region ?_
   refine fr_mv F49 9 68 (.inl rfl) rfl rfl (by decide) rfl fun _ F50=>?_
   clear F49
   refine fr2 F50 69 (.bool true) w3 rfl (by decide) ?_ fun _ F51=>?_
   ·have e68:=F50.kn 68 _ rfl;go_wp2;exact ⟨_,rfl,rfl,rfl⟩
   clear F50
   refine fr_end ?_
   go_upto_if 69 with fail
   refine wp_cond_true (F51.ev (t:=69) rfl) ?_
   go_upto_region 18 with fail
   refine fr_region ?_
   refine fr2 F51 70 (.pointer (some ⟨w2.heap.size,0,none⟩)) w3 rfl (by decide) ?_ fun _ F52=>?_
   ·have e12:=F51.kn 12 _ rfl;go_wp2;exact ⟨_,rfl,rfl,rfl⟩
   clear F51
   refine fr_op0 F52 rfl (NewB w2 w2.heap.size (dnC 7 0 false (fun _=>false) (some ⟨gR,0,none⟩) 1 1)) ?_ ?_
   ·have e70:=F52.kn 70 _ rfl
    have p0:=(hb3.cell 0).trans (dn_0 _ _ _ _ _ _ _)
    have f0:=hb3.frozen 0
    go_wp2
    first | exact ⟨undef,rfl,newB_kind hx3 hb3 (Nat.le_refl _) 7⟩ | exact newB_kind hx3 hb3 (Nat.le_refl _) 7
   rintro a53 w4 ⟨hx4,hb4,hs4⟩ F53
   clear F52
   refine fr_end ?_
   have hxT:=hx1.trans (hx2.trans hx4)
   have hvt4:=HVT.out.keep hxT
   have hb14:=(hb1.keep hx2).keep hx4
   have hx5:=Ext.refl w4
   have hst:=(stp_rep (num:=num) (alts:=alts) (rest:=rest) (gr:=gr) HLI.out hrep HTL.out).trans (if_neg (fun h=>absurd HKc.out h.1))
   go_upto_region 21 with fail
   have hxU:=hxT.trans hx5
   have hb5:=hb4.keep hx5
   have hrR5:=(hrR.keep hx4).keep hx5
   have hs5:w2.heap.size<w4.heap.size:=hb5.lt
   have HST:=Lib.hid hst
   clear hst hvt4 hb14
   obtain ⟨i1,hi1⟩:∃ i1,i+1=i1:=⟨_,rfl⟩
   have hi3:i1≤120:=by have:=HL.out;omega
   have HI1:=Lib.hid hi1
   clear hi1
   refine fr_region ?_
   refine fr_mv F53 7 74 (.inl rfl) rfl rfl (by decide) rfl fun _ F54=>?_
   clear F53
   refine fr2 F54 75 (.int .i64 (i1:Nat)) w4 rfl (by decide) ?_ fun _ F55=>?_
   ·have e74:=F54.kn 74 _ rfl
    have h9:=HI1.out
    have hw:IntKind.i64.wrap ((i:Int)+1)=(i:Int)+1:=wrap_id (by omega) (by omega)
    go_wp2
    first | exact ⟨_,rfl,rfl,rfl⟩ | exact ⟨_,rfl,congrArg (Value.int .i64) (by omega),rfl⟩
   clear F54
   refine fr_mv F55 75 7 (.inr rfl) rfl rfl (by decide) rfl fun _ F56=>?_
   clear F55
   refine fr_end ?_
   go_upto_region 22 with fail
   by_cases hz1:i1<l.length
   ·have hz1':(i1:Int)<(l.length:Int):=by omega
    obtain ⟨d,hd⟩:∃ d,l[i1]'hz1=d:=⟨_,rfl⟩
    by_cases hz2:d=63
    ·have HZ:=Lib.hid (show decide (l[i1]?=some 63)=true from by rw [List.getElem?_eq_getElem hz1,hd,hz2];rfl)
     have z2:((d.toNat:Int) == 63)=true:=by rw [hz2];rfl
     clear hz2
     obtain ⟨i2,hi2⟩:∃ i2,i1+1=i2:=⟨_,rfl⟩
     have HI2:=Lib.hid hi2
     clear hi2
     refine fr_region ?_
     refine fr_mv F56 7 76 (.inl rfl) rfl rfl (by decide) rfl fun _ F57=>?_
     clear F56
     refine fr_mv F57 0 77 (.inl rfl) rfl rfl (by decide) rfl fun _ F58=>?_
     clear F57
     refine fr2 F58 78 (.int .i64 (l.length:Nat)) w4 rfl (by decide) ?_ fun _ F59=>?_
     ·have e77:=F58.kn 77 _ rfl;go_wp2;exact ⟨_,rfl,rfl,rfl⟩
     clear F58
     refine fr2 F59 79 (.bool true) w4 rfl (by decide) ?_ fun _ F60=>?_
     ·have e76:=F59.kn 76 _ rfl;have e78:=F59.kn 78 _ rfl;go_wp2;exact ⟨_,rfl,rfl,rfl⟩
     clear F59
     refine fr_mv F60 79 80 (.inl rfl) rfl rfl (by decide) rfl fun _ F61=>?_
     clear F60
     refine fr2 F61 81 (.string ⟨l.toArray⟩) w4 rfl (by decide) ?_ fun _ F62=>?_
     ·have e0:=F61.kn 0 _ rfl;have e80:=F61.kn 80 _ rfl;go_wp2;exact ⟨_,rfl,rfl,rfl⟩
     clear F61
     refine fr2 F62 82 (.int .i64 (i1:Nat)) w4 rfl (by decide) ?_ fun _ F63=>?_
     ·have e7:=F62.kn 7 _ rfl;have e80:=F62.kn 80 _ rfl;go_wp2;exact ⟨_,rfl,rfl,rfl⟩
     clear F62
     refine fr2 F63 83 (.int .u8 (d.toNat:Nat)) w4 rfl (by decide) ?_ fun _ F64=>?_
     ·have e81:=F63.kn 81 _ rfl;have e82:=F63.kn 82 _ rfl;have e80:=F63.kn 80 _ rfl;go_wp2;exact ⟨_,rfl,rfl,rfl⟩
     clear F63
     refine fr2 F64 84 (.bool true) w4 rfl (by decide) ?_ fun _ F65=>?_
     ·have e83:=F64.kn 83 _ rfl;have e80:=F64.kn 80 _ rfl;go_wp2;exact ⟨_,rfl,rfl,rfl⟩
     clear F64
     refine fr2 F65 85 (.bool true) w4 rfl (by decide) ?_ fun _ F66=>?_
     ·have e80:=F65.kn 80 _ rfl;have e84:=F65.kn 84 _ rfl;go_wp2;exact ⟨_,rfl,rfl,rfl⟩
     clear F65
     refine fr_end ?_
     go_upto_if 85 with fail
     refine wp_cond_true (F66.ev (t:=85) rfl) ?_
     go_upto_region 23 with fail
     refine fr_region ?_
     refine fr2 F66 86 (.pointer (some ⟨w2.heap.size,2,none⟩)) w4 rfl (by decide) ?_ fun _ F67=>?_
     ·have e12:=F66.kn 12 _ rfl;go_wp2;exact ⟨_,rfl,rfl,rfl⟩
     clear F66
     refine fr_op0 F67 rfl (NewB w2 w2.heap.size (dnC 7 0 true (fun _=>false) (some ⟨gR,0,none⟩) 1 1)) ?_ ?_
     ·have e86:=F67.kn 86 _ rfl
      have p0:=(hb5.cell 2).trans (dn_2 _ _ _ _ _ _ _)
      have f0:=hb5.frozen 2
      go_wp2
      first | exact ⟨undef,rfl,newB_lazy (hx4.trans hx5) hb5 (Nat.le_refl _) true⟩ | exact newB_lazy (hx4.trans hx5) hb5 (Nat.le_refl _) true
     rintro a68 w6 ⟨hx6,hb6,hs6⟩ F68
     clear F67
     refine fr_end ?_
     go_upto_region 24 with fail
     refine fr_region ?_
     refine fr_mv F68 7 87 (.inl rfl) rfl rfl (by decide) rfl fun _ F69=>?_
     clear F68
     refine fr2 F69 88 (.int .i64 (i2:Nat)) w6 rfl (by decide) ?_ fun _ F70=>?_
     ·have e87:=F69.kn 87 _ rfl
      have h9:=HI2.out
      have hw:IntKind.i64.wrap ((i1:Int)+1)=(i1:Int)+1:=wrap_id (by omega) (by omega)
      go_wp2
      first | exact ⟨_,rfl,rfl,rfl⟩ | exact ⟨_,rfl,congrArg (Value.int .i64) (by omega),rfl⟩
     clear F69
     refine fr_mv F70 88 7 (.inr rfl) rfl rfl (by decide) rfl fun _ F71=>?_
     clear F70
     refine fr_end ?_
     have hxV:=hx1.trans (hx2.trans hx6)
     have hrR6:=hrR.keep hx6
     go_upto_region 25 with fail
     have hcs:csi.length=(n1+1)*260:=HI.out.1
     have hiT:=own_cut (m:=n1) HI.out (by omega)
     obtain ⟨AT,cT,eT,_,_,hRT⟩:=own_rd hiT
     simp only [Value.slice.injEq] at eT
     obtain ⟨rfl,-,-⟩:=eT
     have HRT:=Lib.hid (hRT.keep hxV)
     have hkT:=dkidsV_take HKI.out n1
     have HKT:=Lib.hid hkT
     have HY2:=Lib.hid ((hxV.cell (p:=⟨gs,N*3+2,none⟩) hglt).trans y2)
     have HGS:=Lib.hid (show gs<w6.heap.size from Nat.lt_of_lt_of_le hglt hxV.size)
     have HB6:=Lib.hid hb6
     have HPS6:=Lib.hid (HPS.out.keep hxV)
     have HRR6:=Lib.hid hrR6
     have HXV:=Lib.hid hxV
     have HROW:=Lib.hid (show w6.ownsRow (w.heap.size+1) 98 3 (.slice (some ⟨gs,0,none⟩) (N+1) cap) (N+1) (cellsO st ++ OpS.cells ⟨⟨num,alts,items⟩,va,.slice (some ⟨gv,0,none⟩) (n1+1) cv⟩) from by have h9:=HPS6.out.row;rwa [List.length_append,List.length_singleton,hN,cellsO_snoc] at h9)
     have HFR6:=Lib.hid (show ∀ j,w6.frozen? ⟨gs,j,none⟩=false from (HPS6.out.head hN).2.2.2.2.1)
     clear hcs hiT hRT hkT hb6 hrR6 hxV hrR5 hfr hfv y0 y1 y2
     refine rep25 (Fr.cons (Fr.cons (Fr.cons (Fr.cons (Fr.cons (Fr.cons (Fr.cons (Fr.cons F71.nil (F71.kn 12 _ rfl)) (F71.kn 10 _ rfl)) (F71.kn 8 _ rfl)) (F71.kn 7 _ rfl)) (F71.kn 5 _ rfl)) (F71.kn 4 _ rfl)) (F71.kn 2 _ rfl)) (F71.kn 0 _ rfl)) hcap hcm hcv hmv hn120 hN8 HRT (Lib.hid (dkids_one HKT.out)) HY2 HGS HB6 HROW HFR6 (Lib.hid fun a72 w9 v2 F72 hown9 hrow9 hc9=>?_)
     clear F71
     go_upto_region 26 with fail
     refine fr_region ?_
     refine fr_as F72 6 (.inr rfl) rfl rfl (by decide) fun _ F73=>?_
     clear F72
     refine fr_end ?_
     go_wp2
     have hR:=HRUN.out
     have hrun9:=runs_go HRUN.out HST.out
     rw [show decide (l[i+1]?=some 63)=true from by rw [HI1.out];exact HZ.out] at hrun9
     have hdl:items.dropLast=items.take n1:=by rw [List.dropLast_eq_take,HN1.out,Nat.add_sub_cancel]
     have hln:(items.dropLast ++ [repT c true t]).length=n1+1:=by rw [List.length_append,hdl,List.length_take,HN1.out];simp
     have hNT:DNodeV (fun b=>w.heap.size+1≤b∧b ∉ liveO (.slice (some ⟨gs,0,none⟩) (N+1) cap) (st ++ [⟨⟨num,alts,items⟩,va,.slice (some ⟨gv,0,none⟩) (n1+1) cv⟩])) w6 (repT c true t) (dnC 7 0 true (fun _=>false) (some ⟨gR,0,none⟩) 1 1):=by
      have h9:=dnode_one4 (S:=fun b=>w.heap.size+1≤b∧b ∉ liveO (.slice (some ⟨gs,0,none⟩) (N+1) cap) (st ++ [⟨⟨num,alts,items⟩,va,.slice (some ⟨gv,0,none⟩) (n1+1) cv⟩])) (t:=t) 7 0 true HRR6.out (Nat.le_refl 1) (by unfold maxLen;omega) (fun b o x e=>by
       have hb:b=gR:=by simpa using (congrArg Addr.block (Option.some.inj e)).symm
       have hsz1:=hx1.size
       have hsz0:=HEX.out.size
       have hB2:=HB2.out.lt
       subst hb
       exact ⟨by omega,fun hm=>by have:=HPS.out.liveLt _ hm;omega⟩) (HVT.out.keep HXV.out)
      have hk9:=HKc.out
      rw [hk9]
      exact h9
     have hkids:=dkidsV_append (dkidsV_map (fun t v h=>DNodeV.keep h HXV.out) HKT.out) (dkidsV_one hNT)
     rw [← hdl] at hkids
     have hsw:w.heap.size+1≤w6.heap.size:=by have:=HPS6.out.row;have:=HGS.out;omega
     have hps9:=rep_done (its:=items.dropLast ++ [repT c true t]) HPS6.out rfl hsw hc9 (by rw [hln];exact hown9) hkids (by have h9:=hrow9;rw [show N*3+2=st.length*3+2 by rw [hN],cellsO_set2] at h9;rw [hN];exact h9)
     have hex9:Ext w w9:=by
      have h9:=HEX.out.trans HXV.out
      refine ⟨hc9.os.trans h9.os,hc9.tape.trans h9.tape,hc9.output.trans h9.output,Nat.le_trans h9.size hc9.size,fun k hk=>(hc9.block k (Nat.lt_of_lt_of_le hk h9.size) (by simp;omega)).trans (h9.block k hk)⟩
     have hb29:=Blk.chg (HB2.out.keep HXV.out) hc9 (by simp;omega)
     have hi1':=HI1.out
     have hi2':=HI2.out
     refine HKK.out _ _ (Handed.intro (l.length-i2) (by omega) (HJ.out _ _ _ ⟨_,_,_,_,Fr.cons (Fr.cons (Fr.cons (Fr.cons (Fr.cons (Fr.cons F73.nil (F73.kn 7 _ rfl)) (F73.kn 6 _ rfl)) (F73.kn 5 _ rfl)) (F73.kn 4 _ rfl)) (F73.kn 2 _ rfl)) (F73.kn 0 _ rfl),num,alts,items.dropLast ++ [repT c true t],rest,gr,i2,false,st,va,v2,gs,cap,N,rfl,hN,rfl,rfl,rfl,rfl,hps9,HMO.out,by rw [show i2=i+2 by have:=HI1.out;have:=HI2.out;omega];exact hrun9,by omega,hgr,hN8,fun y hy=>?_,hex9,hb29⟩))
     rcases List.mem_append.1 hy with h9 | h9
     ·have h8:=HBD.out y (List.mem_append.2 (.inl h9));omega
     ·have h8:=HBD.out _ (List.mem_append.2 (.inr (List.mem_singleton.2 rfl)));rw [List.mem_singleton.1 h9];dsimp only at h8 ⊢;rw [HN1.out] at h8;rw [hln];omega
    ·have HZ:=Lib.hid (show decide (l[i1]?=some 63)=false from by rw [List.getElem?_eq_getElem hz1,hd];simp [hz2])
     have z2:((d.toNat:Int) == 63)=false:=u8_ne hz2
     clear hz2
     refine fr_region ?_
     refine fr_mv F56 7 76 (.inl rfl) rfl rfl (by decide) rfl fun _ F57=>?_
     clear F56
     refine fr_mv F57 0 77 (.inl rfl) rfl rfl (by decide) rfl fun _ F58=>?_
     clear F57
     refine fr2 F58 78 (.int .i64 (l.length:Nat)) w4 rfl (by decide) ?_ fun _ F59=>?_
     ·have e77:=F58.kn 77 _ rfl;go_wp2;exact ⟨_,rfl,rfl,rfl⟩
     clear F58
     refine fr2 F59 79 (.bool true) w4 rfl (by decide) ?_ fun _ F60=>?_
     ·have e76:=F59.kn 76 _ rfl;have e78:=F59.kn 78 _ rfl;go_wp2;exact ⟨_,rfl,rfl,rfl⟩
     clear F59
     refine fr_mv F60 79 80 (.inl rfl) rfl rfl (by decide) rfl fun _ F61=>?_
     clear F60
     refine fr2 F61 81 (.string ⟨l.toArray⟩) w4 rfl (by decide) ?_ fun _ F62=>?_
     ·have e0:=F61.kn 0 _ rfl;have e80:=F61.kn 80 _ rfl;go_wp2;exact ⟨_,rfl,rfl,rfl⟩
     clear F61
     refine fr2 F62 82 (.int .i64 (i1:Nat)) w4 rfl (by decide) ?_ fun _ F63=>?_
     ·have e7:=F62.kn 7 _ rfl;have e80:=F62.kn 80 _ rfl;go_wp2;exact ⟨_,rfl,rfl,rfl⟩
     clear F62
     refine fr2 F63 83 (.int .u8 (d.toNat:Nat)) w4 rfl (by decide) ?_ fun _ F64=>?_
     ·have e81:=F63.kn 81 _ rfl;have e82:=F63.kn 82 _ rfl;have e80:=F63.kn 80 _ rfl;go_wp2;exact ⟨_,rfl,rfl,rfl⟩
     clear F63
     refine fr2 F64 84 (.bool false) w4 rfl (by decide) ?_ fun _ F65=>?_
     ·have e83:=F64.kn 83 _ rfl;have e80:=F64.kn 80 _ rfl;go_wp2;exact ⟨_,rfl,rfl,rfl⟩
     clear F64
     refine fr2 F65 85 (.bool false) w4 rfl (by decide) ?_ fun _ F66=>?_
     ·have e80:=F65.kn 80 _ rfl;have e84:=F65.kn 84 _ rfl;go_wp2;exact ⟨_,rfl,rfl,rfl⟩
     clear F65
     refine fr_end ?_
     go_upto_if 85 with fail
     refine wp_cond_false (F66.ev (t:=85) rfl) ?_
     have hxV:=hxU
     have hb6:=hb5
     have hrR6:=hrR5
     go_upto_region 25 with fail
     have hcs:csi.length=(n1+1)*260:=HI.out.1
     have hiT:=own_cut (m:=n1) HI.out (by omega)
     obtain ⟨AT,cT,eT,_,_,hRT⟩:=own_rd hiT
     simp only [Value.slice.injEq] at eT
     obtain ⟨rfl,-,-⟩:=eT
     have HRT:=Lib.hid (hRT.keep hxV)
     have hkT:=dkidsV_take HKI.out n1
     have HKT:=Lib.hid hkT
     have HY2:=Lib.hid ((hxV.cell (p:=⟨gs,N*3+2,none⟩) hglt).trans y2)
     have HGS:=Lib.hid (show gs<w4.heap.size from Nat.lt_of_lt_of_le hglt hxV.size)
     have HB6:=Lib.hid hb6
     have HPS6:=Lib.hid (HPS.out.keep hxV)
     have HRR6:=Lib.hid hrR6
     have HXV:=Lib.hid hxV
     have HROW:=Lib.hid (show w4.ownsRow (w.heap.size+1) 98 3 (.slice (some ⟨gs,0,none⟩) (N+1) cap) (N+1) (cellsO st ++ OpS.cells ⟨⟨num,alts,items⟩,va,.slice (some ⟨gv,0,none⟩) (n1+1) cv⟩) from by have h9:=HPS6.out.row;rwa [List.length_append,List.length_singleton,hN,cellsO_snoc] at h9)
     have HFR6:=Lib.hid (show ∀ j,w4.frozen? ⟨gs,j,none⟩=false from (HPS6.out.head hN).2.2.2.2.1)
     clear hcs hiT hRT hkT hb6 hrR6 hxV hrR5 hfr hfv y0 y1 y2
     refine rep25 (Fr.cons (Fr.cons (Fr.cons (Fr.cons (Fr.cons (Fr.cons (Fr.cons (Fr.cons F66.nil (F66.kn 12 _ rfl)) (F66.kn 10 _ rfl)) (F66.kn 8 _ rfl)) (F66.kn 7 _ rfl)) (F66.kn 5 _ rfl)) (F66.kn 4 _ rfl)) (F66.kn 2 _ rfl)) (F66.kn 0 _ rfl)) hcap hcm hcv hmv hn120 hN8 HRT (Lib.hid (dkids_one HKT.out)) HY2 HGS HB6 HROW HFR6 (Lib.hid fun a67 w9 v2 F67 hown9 hrow9 hc9=>?_)
     clear F66
     go_upto_region 26 with fail
     refine fr_region ?_
     refine fr_as F67 6 (.inr rfl) rfl rfl (by decide) fun _ F68=>?_
     clear F67
     refine fr_end ?_
     go_wp2
     have hR:=HRUN.out
     have hrun9:=runs_go HRUN.out HST.out
     rw [show decide (l[i+1]?=some 63)=false from by rw [HI1.out];exact HZ.out] at hrun9
     have hdl:items.dropLast=items.take n1:=by rw [List.dropLast_eq_take,HN1.out,Nat.add_sub_cancel]
     have hln:(items.dropLast ++ [repT c false t]).length=n1+1:=by rw [List.length_append,hdl,List.length_take,HN1.out];simp
     have hNT:DNodeV (fun b=>w.heap.size+1≤b∧b ∉ liveO (.slice (some ⟨gs,0,none⟩) (N+1) cap) (st ++ [⟨⟨num,alts,items⟩,va,.slice (some ⟨gv,0,none⟩) (n1+1) cv⟩])) w4 (repT c false t) (dnC 7 0 false (fun _=>false) (some ⟨gR,0,none⟩) 1 1):=by
      have h9:=dnode_one4 (S:=fun b=>w.heap.size+1≤b∧b ∉ liveO (.slice (some ⟨gs,0,none⟩) (N+1) cap) (st ++ [⟨⟨num,alts,items⟩,va,.slice (some ⟨gv,0,none⟩) (n1+1) cv⟩])) (t:=t) 7 0 false HRR6.out (Nat.le_refl 1) (by unfold maxLen;omega) (fun b o x e=>by
       have hb:b=gR:=by simpa using (congrArg Addr.block (Option.some.inj e)).symm
       have hsz1:=hx1.size
       have hsz0:=HEX.out.size
       have hB2:=HB2.out.lt
       subst hb
       exact ⟨by omega,fun hm=>by have:=HPS.out.liveLt _ hm;omega⟩) (HVT.out.keep HXV.out)
      have hk9:=HKc.out
      rw [hk9]
      exact h9
     have hkids:=dkidsV_append (dkidsV_map (fun t v h=>DNodeV.keep h HXV.out) HKT.out) (dkidsV_one hNT)
     rw [← hdl] at hkids
     have hsw:w.heap.size+1≤w4.heap.size:=by have:=HPS6.out.row;have:=HGS.out;omega
     have hps9:=rep_done (its:=items.dropLast ++ [repT c false t]) HPS6.out rfl hsw hc9 (by rw [hln];exact hown9) hkids (by have h9:=hrow9;rw [show N*3+2=st.length*3+2 by rw [hN],cellsO_set2] at h9;rw [hN];exact h9)
     have hex9:Ext w w9:=by
      have h9:=HEX.out.trans HXV.out
      refine ⟨hc9.os.trans h9.os,hc9.tape.trans h9.tape,hc9.output.trans h9.output,Nat.le_trans h9.size hc9.size,fun k hk=>(hc9.block k (Nat.lt_of_lt_of_le hk h9.size) (by simp;omega)).trans (h9.block k hk)⟩
     have hb29:=Blk.chg (HB2.out.keep HXV.out) hc9 (by simp;omega)
     have hi1':=HI1.out
     refine HKK.out _ _ (Handed.intro (l.length-i1) (by omega) (HJ.out _ _ _ ⟨_,_,_,_,Fr.cons (Fr.cons (Fr.cons (Fr.cons (Fr.cons (Fr.cons F68.nil (F68.kn 7 _ rfl)) (F68.kn 6 _ rfl)) (F68.kn 5 _ rfl)) (F68.kn 4 _ rfl)) (F68.kn 2 _ rfl)) (F68.kn 0 _ rfl),num,alts,items.dropLast ++ [repT c false t],rest,gr,i1,false,st,va,v2,gs,cap,N,rfl,hN,rfl,rfl,rfl,rfl,hps9,HMO.out,by rw [← HI1.out];exact hrun9,by omega,hgr,hN8,fun y hy=>?_,hex9,hb29⟩))
     rcases List.mem_append.1 hy with h9 | h9
     ·have h8:=HBD.out y (List.mem_append.2 (.inl h9));omega
     ·have h8:=HBD.out _ (List.mem_append.2 (.inr (List.mem_singleton.2 rfl)));rw [List.mem_singleton.1 h9];dsimp only at h8 ⊢;rw [HN1.out] at h8;rw [hln];omega
   ·have hz1':¬ (i1:Int)<(l.length:Int):=by omega
    have HZ:=Lib.hid (show decide (l[i1]?=some 63)=false from by rw [List.getElem?_eq_none (by omega)];rfl)
    refine fr_region ?_
    refine fr_mv F56 7 76 (.inl rfl) rfl rfl (by decide) rfl fun _ F57=>?_
    clear F56
    refine fr_mv F57 0 77 (.inl rfl) rfl rfl (by decide) rfl fun _ F58=>?_
    clear F57
    refine fr2 F58 78 (.int .i64 (l.length:Nat)) w4 rfl (by decide) ?_ fun _ F59=>?_
    ·have e77:=F58.kn 77 _ rfl;go_wp2;exact ⟨_,rfl,rfl,rfl⟩
    clear F58
    refine fr2 F59 79 (.bool false) w4 rfl (by decide) ?_ fun _ F60=>?_
    ·have e76:=F59.kn 76 _ rfl;have e78:=F59.kn 78 _ rfl;go_wp2;exact ⟨_,rfl,rfl,rfl⟩
    clear F59
    refine fr_mv F60 79 80 (.inl rfl) rfl rfl (by decide) rfl fun _ F61=>?_
    clear F60
    refine fr2 F61 81 (undef) w4 rfl (by decide) ?_ fun _ F62=>?_
    ·have e80:=F61.kn 80 _ rfl;go_wp2;exact ⟨_,rfl,rfl,rfl⟩
    clear F61
    refine fr2 F62 82 (undef) w4 rfl (by decide) ?_ fun _ F63=>?_
    ·have e80:=F62.kn 80 _ rfl;go_wp2;exact ⟨_,rfl,rfl,rfl⟩
    clear F62
    refine fr2 F63 83 (undef) w4 rfl (by decide) ?_ fun _ F64=>?_
    ·have e80:=F63.kn 80 _ rfl;go_wp2;exact ⟨_,rfl,rfl,rfl⟩
    clear F63
    refine fr2 F64 84 (undef) w4 rfl (by decide) ?_ fun _ F65=>?_
    ·have e80:=F64.kn 80 _ rfl;go_wp2;exact ⟨_,rfl,rfl,rfl⟩
    clear F64
    refine fr2 F65 85 (.bool false) w4 rfl (by decide) ?_ fun _ F66=>?_
    ·have e80:=F65.kn 80 _ rfl;have e84:=F65.kn 84 _ rfl;go_wp2;exact ⟨_,rfl,rfl,rfl⟩
    clear F65
    refine fr_end ?_
    go_upto_if 85 with fail
    refine wp_cond_false (F66.ev (t:=85) rfl) ?_
    have hxV:=hxU
    have hb6:=hb5
    have hrR6:=hrR5
    go_upto_region 25 with fail
    have hcs:csi.length=(n1+1)*260:=HI.out.1
    have hiT:=own_cut (m:=n1) HI.out (by omega)
    obtain ⟨AT,cT,eT,_,_,hRT⟩:=own_rd hiT
    simp only [Value.slice.injEq] at eT
    obtain ⟨rfl,-,-⟩:=eT
    have HRT:=Lib.hid (hRT.keep hxV)
    have hkT:=dkidsV_take HKI.out n1
    have HKT:=Lib.hid hkT
    have HY2:=Lib.hid ((hxV.cell (p:=⟨gs,N*3+2,none⟩) hglt).trans y2)
    have HGS:=Lib.hid (show gs<w4.heap.size from Nat.lt_of_lt_of_le hglt hxV.size)
    have HB6:=Lib.hid hb6
    have HPS6:=Lib.hid (HPS.out.keep hxV)
    have HRR6:=Lib.hid hrR6
    have HXV:=Lib.hid hxV
    have HROW:=Lib.hid (show w4.ownsRow (w.heap.size+1) 98 3 (.slice (some ⟨gs,0,none⟩) (N+1) cap) (N+1) (cellsO st ++ OpS.cells ⟨⟨num,alts,items⟩,va,.slice (some ⟨gv,0,none⟩) (n1+1) cv⟩) from by have h9:=HPS6.out.row;rwa [List.length_append,List.length_singleton,hN,cellsO_snoc] at h9)
    have HFR6:=Lib.hid (show ∀ j,w4.frozen? ⟨gs,j,none⟩=false from (HPS6.out.head hN).2.2.2.2.1)
    clear hcs hiT hRT hkT hb6 hrR6 hxV hrR5 hfr hfv y0 y1 y2
    refine rep25 (Fr.cons (Fr.cons (Fr.cons (Fr.cons (Fr.cons (Fr.cons (Fr.cons (Fr.cons F66.nil (F66.kn 12 _ rfl)) (F66.kn 10 _ rfl)) (F66.kn 8 _ rfl)) (F66.kn 7 _ rfl)) (F66.kn 5 _ rfl)) (F66.kn 4 _ rfl)) (F66.kn 2 _ rfl)) (F66.kn 0 _ rfl)) hcap hcm hcv hmv hn120 hN8 HRT (Lib.hid (dkids_one HKT.out)) HY2 HGS HB6 HROW HFR6 (Lib.hid fun a67 w9 v2 F67 hown9 hrow9 hc9=>?_)
    clear F66
    go_upto_region 26 with fail
    refine fr_region ?_
    refine fr_as F67 6 (.inr rfl) rfl rfl (by decide) fun _ F68=>?_
    clear F67
    refine fr_end ?_
    go_wp2
    have hR:=HRUN.out
    have hrun9:=runs_go HRUN.out HST.out
    rw [show decide (l[i+1]?=some 63)=false from by rw [HI1.out];exact HZ.out] at hrun9
    have hdl:items.dropLast=items.take n1:=by rw [List.dropLast_eq_take,HN1.out,Nat.add_sub_cancel]
    have hln:(items.dropLast ++ [repT c false t]).length=n1+1:=by rw [List.length_append,hdl,List.length_take,HN1.out];simp
    have hNT:DNodeV (fun b=>w.heap.size+1≤b∧b ∉ liveO (.slice (some ⟨gs,0,none⟩) (N+1) cap) (st ++ [⟨⟨num,alts,items⟩,va,.slice (some ⟨gv,0,none⟩) (n1+1) cv⟩])) w4 (repT c false t) (dnC 7 0 false (fun _=>false) (some ⟨gR,0,none⟩) 1 1):=by
     have h9:=dnode_one4 (S:=fun b=>w.heap.size+1≤b∧b ∉ liveO (.slice (some ⟨gs,0,none⟩) (N+1) cap) (st ++ [⟨⟨num,alts,items⟩,va,.slice (some ⟨gv,0,none⟩) (n1+1) cv⟩])) (t:=t) 7 0 false HRR6.out (Nat.le_refl 1) (by unfold maxLen;omega) (fun b o x e=>by
      have hb:b=gR:=by simpa using (congrArg Addr.block (Option.some.inj e)).symm
      have hsz1:=hx1.size
      have hsz0:=HEX.out.size
      have hB2:=HB2.out.lt
      subst hb
      exact ⟨by omega,fun hm=>by have:=HPS.out.liveLt _ hm;omega⟩) (HVT.out.keep HXV.out)
     have hk9:=HKc.out
     rw [hk9]
     exact h9
    have hkids:=dkidsV_append (dkidsV_map (fun t v h=>DNodeV.keep h HXV.out) HKT.out) (dkidsV_one hNT)
    rw [← hdl] at hkids
    have hsw:w.heap.size+1≤w4.heap.size:=by have:=HPS6.out.row;have:=HGS.out;omega
    have hps9:=rep_done (its:=items.dropLast ++ [repT c false t]) HPS6.out rfl hsw hc9 (by rw [hln];exact hown9) hkids (by have h9:=hrow9;rw [show N*3+2=st.length*3+2 by rw [hN],cellsO_set2] at h9;rw [hN];exact h9)
    have hex9:Ext w w9:=by
     have h9:=HEX.out.trans HXV.out
     refine ⟨hc9.os.trans h9.os,hc9.tape.trans h9.tape,hc9.output.trans h9.output,Nat.le_trans h9.size hc9.size,fun k hk=>(hc9.block k (Nat.lt_of_lt_of_le hk h9.size) (by simp;omega)).trans (h9.block k hk)⟩
    have hb29:=Blk.chg (HB2.out.keep HXV.out) hc9 (by simp;omega)
    have hi1':=HI1.out
    refine HKK.out _ _ (Handed.intro (l.length-i1) (by omega) (HJ.out _ _ _ ⟨_,_,_,_,Fr.cons (Fr.cons (Fr.cons (Fr.cons (Fr.cons (Fr.cons F68.nil (F68.kn 7 _ rfl)) (F68.kn 6 _ rfl)) (F68.kn 5 _ rfl)) (F68.kn 4 _ rfl)) (F68.kn 2 _ rfl)) (F68.kn 0 _ rfl),num,alts,items.dropLast ++ [repT c false t],rest,gr,i1,false,st,va,v2,gs,cap,N,rfl,hN,rfl,rfl,rfl,rfl,hps9,HMO.out,by rw [← HI1.out];exact hrun9,by omega,hgr,hN8,fun y hy=>?_,hex9,hb29⟩))
    rcases List.mem_append.1 hy with h9 | h9
    ·have h8:=HBD.out y (List.mem_append.2 (.inl h9));omega
    ·have h8:=HBD.out _ (List.mem_append.2 (.inr (List.mem_singleton.2 rfl)));rw [List.mem_singleton.1 h9];dsimp only at h8 ⊢;rw [HN1.out] at h8;rw [hln];omega
end Go.Proofs.YtigmdlchbjanoaaGreatDoor
