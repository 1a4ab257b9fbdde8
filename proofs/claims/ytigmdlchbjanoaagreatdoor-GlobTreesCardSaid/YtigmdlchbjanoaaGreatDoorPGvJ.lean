/- Put together: Rp10. -/
import Derived.Test.YtigmdlchbjanoaaGreatDoorPGvF
import Derived.Test.YtigmdlchbjanoaaGreatDoorPGvG
import Derived.Test.YtigmdlchbjanoaaGreatDoorPGvH
import Derived.Test.YtigmdlchbjanoaaGreatDoorPGvI
namespace Go.Proofs.YtigmdlchbjanoaaGreatDoor
open Go Go.RowKit
set_option maxHeartbeats 40000000 in
set_option maxRecDepth 20000 in
theorem refParse23 (l:List UInt8) (w:World) :
  Calls Tryz.prog 30 #[.string ⟨l.toArray⟩] w fun e w'=>RefRes w (parseR l) e w':=by
 obtain ⟨R,hR⟩:∃ R,parseR l=R:=⟨_,rfl⟩
 have hRn:R ≠ .out:=by rw [← hR];exact parseR_in l
 rw [hR]
 by_cases hlen:120<l.length
 ·have hR4:R=.err 4:=by rw [← hR];unfold parseR;rw [if_pos hlen]
  subst hR4
  have hlen':(120:Int)<(l.length:Int):=by omega
  clear hR hRn
  go_enter Tryz.func30,Tryz.ntmps30
  go_wp2_with (first
   | (refine build_z rfl rfl ?_)
   | (refine store_dn_new rfl (.tmp 2) (.tmp 21) rfl rfl rfl zsize40 ?_))
  exact bodyPost_ret (v:=.tuple #[.agg (dnC 0 0 false (fun _=>false) none 0 0).toArray,.int .i64 4]) (results_dn2 rfl rfl (Blk.newL w _ _) (dn_len _ _ _ _ _ _ _) rfl) rfl ⟨Ext.new1 _ _,rfl⟩
 ·have hruns:=runs_parse hlen
  rw [hR] at hruns
  have hlen':¬ (120:Int)<(l.length:Int):=by omega
  have hz8:Tryz.zeroCells38.toList.length=260:=by rw [Array.length_toList];exact zsize40
  have HZ8:=Lib.hid hz8
  have HRN:=Lib.hid hRn
  have HL:=Lib.hid (show l.length≤120 by omega)
  have HRU:=Lib.hid hruns
  have hxA:=Ext.new1 w (.cells Tryz.zeroCells38 38)
  have hxB:=Ext.new1 (w.alloc (.cells Tryz.zeroCells38 38)) (.cells #[.int .i64 (0:Nat),.slice none 0 0,.slice none 0 0] 98)
  have HX0:=Lib.hid (Ext.trans hxA hxB)
  have HB0:=Lib.hid ((Blk.new w 38 Tryz.zeroCells38).keep hxB)
  have HRW:=Lib.hid (PStk.first (eN:=38) (vs:=.slice (some ⟨w.heap.size+1,0,none⟩) 1 1) 0 (show ((w.alloc (.cells Tryz.zeroCells38 38)).alloc (.cells #[.int .i64 (0:Nat),.slice none 0 0,.slice none 0 0] 98)).ownsRow (w.heap.size+1) 98 3 (.slice (some ⟨w.heap.size+1,0,none⟩) 1 1) 1 [.int .i64 (0:Nat),.slice none 0 0,.slice none 0 0] from by
   have:=(Blk.newL (w.alloc (.cells Tryz.zeroCells38 38)) 98 [.int .i64 (0:Nat),.slice none 0 0,.slice none 0 0]).own (base:=w.heap.size+1) (n:=1) (cap:=1) (size:=3) (by simp) (Nat.le_refl _) (by unfold maxLen;omega) rfl
   rw [show (w.alloc (.cells Tryz.zeroCells38 38)).heap.size=w.heap.size+1 by simp] at this
   exact this))
  clear hR hRn hlen hruns hz8 hxA hxB
  go_enter Tryz.func30,Tryz.ntmps30
  go_wp2
  refine wp_loop_ghost_k (fun g a wr=>LInv l R w g a wr) (l.length) ?_ ?_
  ·refine ⟨.slice (some ⟨w.heap.size+1,0,none⟩) 1 1,.int .i64 (0:Nat),.bool false,.int .i64 (0:Nat),Fr.cons (Fr.cons (Fr.cons (Fr.cons (Fr.cons (Fr.cons (Fr.start ?_ ?_) ?_) ?_) ?_) ?_) ?_) ?_,?_⟩
   iterate 8 exact rfl
   exact ⟨0,[],[],[],0,0,false,[],.slice none 0 0,.slice none 0 0,w.heap.size+1,1,0,by simp,rfl,rfl,rfl,rfl,rfl,HRW.out,rfl,HRU.out,by omega,by omega,by omega,by intro y hy;simp at hy;subst hy;simp,HX0.out,HB0.out⟩
  ·intro gk a0 wr hI J K hJ hK
   obtain ⟨sv,gv,av,iv,F0,hrel⟩:=hI
   have HJ:=Lib.hid hJ
   have HKK:=Lib.hid hK
   clear hJ hK
   have hrel0:=hrel
   obtain ⟨num,alts,items,rest,gr,i,ag,st,va,vi,gs,cap,N,rfl,hN,rfl,rfl,rfl,rfl,hps,hmo,hrun,hil,hgr,hN8,hbd,hext,hb2⟩:=hrel
   by_cases hlt:i<l.length
   ·obtain ⟨c,hc⟩:∃ c,l[i]'hlt=c:=⟨_,rfl⟩
    by_cases hrep:isRep c
    ·by_cases hag:ag=false
     ·(refine way1z l R w (by omega) HZ8 HRN HL _ ?_ _ a0 wr J K HJ HKK _ _ _ _ F0 hrel0 i rfl c hlt hc hrep (by rw [hag]);exact Lib.hid fun _ _ h=>h)
     ·have hag':Value.bool ag ≠ .bool false:=fun e=>hag (by simpa using e)
      rcases hrep with h | h | h
      ·(refine way1a l R w (by omega) HZ8 HRN HL _ ?_ _ a0 wr J K HJ HKK _ _ _ _ F0 hrel0 i rfl c hlt hc (.inl h) hag' h;exact Lib.hid fun _ _ h=>h)
      ·(refine way1b l R w (by omega) HZ8 HRN HL _ ?_ _ a0 wr J K HJ HKK _ _ _ _ F0 hrel0 i rfl c hlt hc (.inr (.inl h)) hag' h;exact Lib.hid fun _ _ h=>h)
      ·(refine way1c l R w (by omega) HZ8 HRN HL _ ?_ _ a0 wr J K HJ HKK _ _ _ _ F0 hrel0 i rfl c hlt hc (.inr (.inr h)) hag' h;exact Lib.hid fun _ _ h=>h)
    by_cases k124:c=124
    ·(refine way2 l R w (by omega) HZ8 HRN HL _ ?_ _ a0 wr J K HJ HKK _ _ _ _ F0 hrel0 i rfl c hlt hc hrep k124;exact Lib.hid fun _ _ h=>h)
    by_cases k40:c=40
    ·(refine way3 l R w (by omega) HZ8 HRN HL _ ?_ _ a0 wr J K HJ HKK _ _ _ _ F0 hrel0 i rfl c hlt hc hrep k124 k40;exact Lib.hid fun _ _ h=>h)
    by_cases k41:c=41
    ·(refine way4 l R w (by omega) HZ8 HRN HL _ ?_ _ a0 wr J K HJ HKK _ _ _ _ F0 hrel0 i rfl c hlt hc hrep k124 k40 k41;exact Lib.hid fun _ _ h=>h)
    ·(refine way5 l R w (by omega) HZ8 HRN HL _ ?_ _ a0 wr J K HJ HKK _ _ _ _ F0 hrel0 i rfl c hlt hc hrep k124 k40 k41;exact Lib.hid fun _ _ h=>h)
   ·obtain ⟨hcap,hcm,hBg,hglt,hfr,y0,y1,y2⟩:=hps.head hN
    dsimp only at y0 y1 y2
    have HPS:=Lib.hid hps
    have HMO:=Lib.hid hmo
    have HRUN:=Lib.hid hrun
    have HBD:=Lib.hid hbd
    have HEX:=Lib.hid hext
    have HB2:=Lib.hid hb2
    clear hps hmo hrun hbd hext hb2 hrel0 HRW HX0 HB0 HRU
    have hnone:l[i]?=none:=List.getElem?_eq_none (by omega)
    have HNN:=Lib.hid hnone
    have hlt':¬ (i:Int)<(l.length:Int):=by omega
    clear hnone
    go_upto_region 6 with fail
    refine fr_region ?_
    refine fr_mv F0 7 24 (.inl rfl) rfl rfl (by decide) rfl fun _ F1=>?_
    clear F0
    refine fr_mv F1 0 25 (.inl rfl) rfl rfl (by decide) rfl fun _ F2=>?_
    clear F1
    refine fr_op F2 26 rfl (by decide) (At2 (.int .i64 (l.length:Nat)) (wr)) ?_ ?_
    ·have e25:(_:Option Value)=some (.string ⟨l.toArray⟩):=F2.kn 25 _ rfl
     go_wp2
     exact ⟨_,rfl,rfl,rfl⟩
    rintro a3 _ _ ⟨rfl,rfl⟩ F3
    clear F2
    refine fr_op F3 27 rfl (by decide) (At2 (.bool false) (wr)) ?_ ?_
    ·have e24:(_:Option Value)=some (.int .i64 (i:Nat)):=F3.kn 24 _ rfl
     have e26:(_:Option Value)=some (.int .i64 (l.length:Nat)):=F3.kn 26 _ rfl
     go_wp2
     exact ⟨_,rfl,rfl,rfl⟩
    rintro a4 _ _ ⟨rfl,rfl⟩ F4
    clear F3
    refine fr_end ?_
    go_upto_if 27 with fail
    refine wp_cond_false (F4.ev (t:=27) rfl) ?_
    go_upto_region 72 with fail
    by_cases hN0:N=0
    rotate_left
    ·have hrest:rest ≠ []:=fun e=>hN0 (by have:=HMO.out;rw [e] at this;rw [← hN];simpa using congrArg List.length this)
     have hR:=runs_fin HRUN.out ((stp_end HNN.out).trans (if_neg hrest))
     subst hR
     have hN1:(1:Int)<(N:Int)+1:=by omega
     clear hrest
     refine fr_region ?_
     refine fr_mv F4 4 272 (.inl rfl) rfl rfl (by decide) rfl fun _ F5=>?_
     clear F4
     refine fr_op F5 273 rfl (by decide) (At2 (.int .i64 ((N:Int)+1)) (wr)) ?_ ?_
     ·have e272:(_:Option Value)=some (.slice (some ⟨gs,0,none⟩) (N+1) cap):=F5.kn 272 _ rfl
      go_wp2
      exact ⟨_,rfl,rfl,rfl⟩
     rintro a6 _ _ ⟨rfl,rfl⟩ F6
     clear F5
     refine fr_op F6 274 rfl (by decide) (At2 (.bool true) (wr)) ?_ ?_
     ·have e273:(_:Option Value)=some (.int .i64 ((N:Int)+1)):=F6.kn 273 _ rfl
      go_wp2
      exact ⟨_,rfl,rfl,rfl⟩
     rintro a7 _ _ ⟨rfl,rfl⟩ F7
     clear F6
     refine fr_end ?_
     go_upto_if 274 with fail
     refine wp_cond_true (F7.ev (t:=274) rfl) ?_
     go_upto_region 73 with fail
     go_upto_region 73 with fail
     refine fr_region ?_
     refine fr_op F7 275 rfl (by decide) (At2 (.agg (dnC 0 0 false (fun _=>false) none 0 0).toArray) (wr)) ?_ ?_
     ·refine build_z rfl rfl ?_
      exact ⟨_,rfl,rfl,rfl⟩
     rintro a8 _ _ ⟨rfl,rfl⟩ F8
     clear F7
     refine fr_op0 F8 rfl (At1 ((wr.setRow w.heap.size (dnC 0 0 false (fun _=>false) none 0 0).toArray))) ?_ ?_
     ·have e2:(_:Option Value)=some (.pointer (some ⟨w.heap.size,0,none⟩)):=F8.kn 2 _ rfl
      have e275:(_:Option Value)=some (.agg (dnC 0 0 false (fun _=>false) none 0 0).toArray):=F8.kn 275 _ rfl
      refine store_dn rfl (.tmp 2) (.tmp 275) rfl (g:=w.heap.size) (F8.ev (t:=2) rfl) (F8.ev (t:=275) rfl) (HB2.out) HZ8.out ?_
      exact ⟨_,rfl,rfl⟩
     rintro a9 _ rfl F9
     clear F8
     refine fr_as F9 3 (.inr rfl) rfl rfl (by decide) fun _ F10=>?_
     clear F9
     refine fr_end ?_
     go_wp2
     exact bodyPost_ret (v:=.tuple #[.agg (dnC 0 0 false (fun _=>false) none 0 0).toArray,.int .i64 3]) (results_dn2 rfl (F10.gd (t:=2) rfl) (Blk.row (HB2.out) _) (dn_len _ _ _ _ _ _ _) (F10.gd (t:=3) rfl)) F10.defers ⟨Ext.row (HEX.out) _ _ (Nat.le_refl _),rfl⟩
    have hst0:st=[]:=List.eq_nil_of_length_eq_zero (by rw [hN,hN0])
    have hr0:rest=[]:=by have:=HMO.out;rw [hst0] at this;simpa using this.symm
    have hR:=runs_fin HRUN.out ((stp_end HNN.out).trans (if_pos hr0))
    have HRR:=Lib.hid hR
    clear hR hr0
    obtain ⟨⟨csa,ha,hka⟩,⟨csi,hi,hki⟩⟩:=HPS.out.each _ (List.mem_append.2 (.inr (List.mem_singleton.2 rfl)))
    dsimp only at ha hka hi hki
    have hbd9:=HBD.out _ (List.mem_append.2 (.inr (List.mem_singleton.2 rfl)))
    dsimp only at hbd9
    obtain ⟨na,hna⟩:∃ na,alts.length=na:=⟨_,rfl⟩
    obtain ⟨ni,hni⟩:∃ ni,items.length=ni:=⟨_,rfl⟩
    rw [hna] at ha hbd9
    rw [hni] at hi hbd9
    obtain ⟨Aa,ca,rfl,hca,hma,hRa⟩:=own_rd ha
    obtain ⟨Ai,ci,rfl,hci,hmi,hRi⟩:=own_rd hi
    have HA:=Lib.hid ha
    have HKA:=Lib.hid hka
    have HI:=Lib.hid hi
    have HKI:=Lib.hid hki
    have HRA:=Lib.hid hRa
    have HRI:=Lib.hid hRi
    have HNA:=Lib.hid hna
    have HNI:=Lib.hid hni
    have hn120:na≤120∧ni≤120:=by have:=HL.out;omega
    have HCC:=Lib.hid (And.intro (And.intro hca hma) (And.intro hci hmi))
    clear ha hka hi hki hRa hRi hna hni hbd9 hca hma hci hmi
    have hN1:¬ (1:Int)<(N:Int)+1:=by omega
    have hp0:N*3=0:=by omega
    rw [hp0] at y0 y1 y2
    have HST0:=Lib.hid hst0
    clear hst0 hp0
    have HN0:=Lib.hid hN0
    clear hN0
    simp only [Nat.zero_add] at y1 y2
    have HK1:=Lib.hid (dkidsV_map (S':=fun b=>w.heap.size<b) (fun t v h=>DNodeV.mono h (fun b _ hs=>by have:=hs.1;omega)) HKA.out)
    have HK2:=Lib.hid (dkidsV_map (S':=fun b=>w.heap.size<b) (fun t v h=>DNodeV.mono h (fun b _ hs=>by have:=hs.1;omega)) HKI.out)
    have HSI:=Lib.hid (show ∀ b q x,Ai=some ⟨b,q,x⟩→0<items.length→w.heap.size<b from fun b q x e _=>by subst e;have:=(HI.out.lt b rfl).1;omega)
    have HSZ:=Lib.hid HEX.out.size
    have HBL:=Lib.hid HB2.out.lt
    refine fr_region ?_
    refine fr_mv F4 4 272 (.inl rfl) rfl rfl (by decide) rfl fun _ F5=>?_
    clear F4
    refine fr_op F5 273 rfl (by decide) (At2 (.int .i64 ((N:Int)+1)) (wr)) ?_ ?_
    ·have e272:(_:Option Value)=some (.slice (some ⟨gs,0,none⟩) (N+1) cap):=F5.kn 272 _ rfl
     go_wp2
     exact ⟨_,rfl,rfl,rfl⟩
    rintro a6 _ _ ⟨rfl,rfl⟩ F6
    clear F5
    refine fr_op F6 274 rfl (by decide) (At2 (.bool false) (wr)) ?_ ?_
    ·have e273:(_:Option Value)=some (.int .i64 ((N:Int)+1)):=F6.kn 273 _ rfl
     go_wp2
     exact ⟨_,rfl,rfl,rfl⟩
    rintro a7 _ _ ⟨rfl,rfl⟩ F7
    clear F6
    refine fr_end ?_
    go_upto_if 274 with fail
    refine wp_cond_false (F7.ev (t:=274) rfl) ?_
    go_upto_region 74 with fail
    refine fr_region ?_
    refine fr_mv F7 4 276 (.inl rfl) rfl rfl (by decide) rfl fun _ F8=>?_
    clear F7
    refine fr_op F8 277 rfl (by decide) (At2 (.pointer (some ⟨gs,0,none⟩)) (wr)) ?_ ?_
    ·have e276:(_:Option Value)=some (.slice (some ⟨gs,0,none⟩) (N+1) cap):=F8.kn 276 _ rfl
     go_wp2
     exact ⟨_,rfl,rfl,rfl⟩
    rintro a9 _ _ ⟨rfl,rfl⟩ F9
    clear F8
    refine fr_op F9 278 rfl (by decide) (At2 (.agg #[.int .i64 (num:Nat),.slice Aa na ca,.slice Ai ni ci]) (wr)) ?_ ?_
    ·have e277:(_:Option Value)=some (.pointer (some ⟨gs,0,none⟩)):=F9.kn 277 _ rfl
     go_wp2
     exact ⟨_,rfl,rfl,rfl⟩
    rintro a10 _ _ ⟨rfl,rfl⟩ F10
    clear F9
    refine fr_op F10 279 rfl (by decide) (fun v w'=>∃ k9 m9 z9 p9 B9 n9 c9,v=.agg (dnC k9 m9 z9 p9 B9 n9 c9).toArray∧DNodeV (fun b=>w.heap.size<b) w' (closeT ⟨num,alts,items⟩) (dnC k9 m9 z9 p9 B9 n9 c9)∧Ext wr w') ?_ ?_
    ·have e278:(_:Option Value)=some (.agg #[.int .i64 (num:Nat),.slice Aa na ca,.slice Ai ni ci]):=F10.kn 278 _ rfl
     go_wp2_with (go_at_call 54;refine (show Calls Tryz.prog 54 #[.agg #[.int .i64 (num:Nat),.slice Aa na ca,.slice Ai ni ci]] wr _ from by have h8:=refClosed (fun b=>w.heap.size<b) ⟨num,alts,items⟩ Aa Ai ca ci csa csi wr (by rw [HNA.out];omega) (by rw [HNA.out];exact HRA.out) HK1.out (by rw [HNI.out];exact HCC.out.2.1) HCC.out.2.2 (by rw [HNI.out];exact HRI.out) HK2.out HSI.out (fun b hb=>by have:=HSZ.out;have:=HBL.out;omega);dsimp only at h8;rw [HNA.out,HNI.out] at h8;exact h8).mono ?_;rintro e w2 ⟨lc,rfl,hdc,hx2⟩;obtain ⟨k9,m9,z9,p9,B9,n9,c9,rfl⟩:=dnodeV_form hdc)
     exact ⟨_,rfl,k9,m9,z9,p9,B9,n9,c9,rfl,hdc,hx2⟩
    rintro a11 _ w2 ⟨k9,m9,z9,p9,B9,n9,c9,rfl,hdc,hx2⟩ F11
    clear F10
    refine fr_op0 F11 rfl (At1 ((w2.setRow w.heap.size (dnC k9 m9 z9 p9 B9 n9 c9).toArray))) ?_ ?_
    ·have e2:(_:Option Value)=some (.pointer (some ⟨w.heap.size,0,none⟩)):=F11.kn 2 _ rfl
     have e279:(_:Option Value)=some (.agg (dnC k9 m9 z9 p9 B9 n9 c9).toArray):=F11.kn 279 _ rfl
     refine store_dn rfl (.tmp 2) (.tmp 279) rfl (g:=w.heap.size) (F11.ev (t:=2) rfl) (F11.ev (t:=279) rfl) (HB2.out.keep hx2) HZ8.out ?_
     exact ⟨_,rfl,rfl⟩
    rintro a12 _ rfl F12
    clear F11
    refine fr_as F12 3 (.inr rfl) rfl rfl (by decide) fun _ F13=>?_
    clear F12
    refine fr_end ?_
    go_wp2
    rw [HRR.out]
    exact bodyPost_ret (v:=.tuple #[.agg (dnC k9 m9 z9 p9 B9 n9 c9).toArray,.int .i64 0]) (results_dn2 rfl (F13.gd (t:=2) rfl) (Blk.row (HB2.out.keep hx2) _) (dn_len _ _ _ _ _ _ _) (F13.gd (t:=3) rfl)) F13.defers ⟨Ext.row (HEX.out.trans hx2) _ _ (Nat.le_refl _),_,rfl,(hdc.chg (rowChg4 _ _ _) (fun x hx hs=>by simp at hx;omega)).mono (fun _ _ h=>Nat.le_of_lt h)⟩
end Go.Proofs.YtigmdlchbjanoaaGreatDoor
