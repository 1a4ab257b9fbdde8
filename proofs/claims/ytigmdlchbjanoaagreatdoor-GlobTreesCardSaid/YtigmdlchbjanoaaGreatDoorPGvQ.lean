/- Put together: Gt5. -/
import Derived.Test.YtigmdlchbjanoaaGreatDoorPGvO
import Derived.Test.YtigmdlchbjanoaaGreatDoorPGvM
namespace Go.Proofs.YtigmdlchbjanoaaGreatDoor
open Go Go.RowKit
theorem quote_self {c:UInt8} (h:c=32∨c=95):quoteC c=[c]:=by rcases h with rfl | rfl <;> rfl
theorem quote_other {c:UInt8} (h1:c ≠ 32) (h2:c ≠ 95):quoteC c=signT c.toNat:=by
 cases hp:plainB c with
 | false=>exact (quote_sign hp).1
 | true =>
  have n1:c.toNat ≠ 32:=fun h=>h1 (UInt8.toNat_inj.1 h)
  have n2:c.toNat ≠ 95:=fun h=>h2 (UInt8.toNat_inj.1 h)
  have hl:(isLet c.toNat || isFig c.toNat)=true:=by
   unfold plainB at hp
   unfold isLet isFig
   simp only [Bool.or_eq_true,Bool.and_eq_true,decide_eq_true_eq,beq_iff_eq] at hp ⊢
   omega
  unfold quoteC signT
  rw [if_pos hp,if_pos hl,UInt8.ofNat_toNat]
theorem results_t1 {P:Program} {fn:Func} {p:Tmp} (h:fn.results=#[.tmp p]) {tmps:Array Value} {w:World} {v:Value} (hp:tmps.getD p undef=v):(results fn tmps).run P w=.ok v w:=by
 have hp':tmps[p]?.getD undef=v:=by simpa using hp
 simp [results,h,hp']
def GQ (l:List UInt8) (w:World) (g:Nat) (ov iv:Value) (wr:World):Prop:=
 ∃ i:Nat,g=l.length-i∧iv=.int .i64 (i:Nat)∧i≤l.length∧ov=.string ⟨(quoteG (l.take i)).toArray⟩∧Ext w wr
set_option maxHeartbeats 8000000 in
set_option maxRecDepth 20000 in
theorem refQuote24 (l:List UInt8) (hl:l.length≤10000) (w:World) :
  Calls Tryz.prog 17 #[.string ⟨l.toArray⟩] w fun e w'=>e=.returned (.string ⟨(quoteG l).toArray⟩)∧Ext w w':=by
 have HL:=Lib.hid hl
 clear hl
 go_enter Tryz.func17,Tryz.ntmps17
 go_wp2
 refine wp_loop_ghost_k (fun g a wr=>∃ ov iv,Fr 36 [(0,.string ⟨l.toArray⟩),(3,ov),(4,iv)] a∧GQ l w g ov iv wr) (l.length) ?_ ?_
 ·refine ⟨.string ⟨([]:List UInt8).toArray⟩,.int .i64 (0:Nat),Fr.cons (Fr.cons (Fr.cons (Fr.start ?_ ?_) ?_) ?_) ?_,?_⟩
  iterate 5 exact rfl
  exact ⟨0,by simp,rfl,by omega,rfl,Ext.refl _⟩
 ·intro gk a0 wr hI J K hJ hK
  obtain ⟨ov,iv,F0,i,rfl,rfl,hil,rfl,hex⟩:=hI
  have HJ:=Lib.hid hJ
  have HKK:=Lib.hid hK
  have HEX:=Lib.hid hex
  have hw9:IntKind.i64.wrap ((i:Int)+1)=(i:Int)+1:=wrap_id (by have:=HL.out;omega) (by have:=HL.out;omega)
  clear hJ hK hex
  by_cases hlt:i<l.length
  ·have hlt':(i:Int)<(l.length:Int):=by omega
   obtain ⟨c,hc⟩:∃ c,l[i]'hlt=c:=⟨_,rfl⟩
   have hq4:=quote_len4 (l.take i)
   have hq5:(quoteG (l.take i)).length≤40000:=by have:=HL.out;rw [List.length_take] at hq4;omega
   have hcut:(l.take (i+1)).drop i=[c]:=by rw [List.drop_take,Nat.add_sub_cancel_left,List.drop_eq_getElem_cons hlt,hc];rfl
   have HCUT:=Lib.hid hcut
   have HQT:=Lib.hid (show quoteG (l.take (i+1))=quoteG (l.take i) ++ quoteC c by rw [quote_take hlt,hc])
   clear hq4 hcut
   obtain ⟨q,hq⟩:∃ q,quoteG (l.take i)=q:=⟨_,rfl⟩
   rw [hq] at F0 hq5 HQT
   clear hq
   go_upto_region 3 with fail
   refine fr_region ?_
   refine fr_mv F0 4 6 (.inl rfl) rfl rfl (by decide) rfl fun _ F1=>?_
   clear F0
   refine fr_mv F1 0 7 (.inl rfl) rfl rfl (by decide) rfl fun _ F2=>?_
   clear F1
   refine fr2 F2 8 (.int .i64 (l.length:Nat)) wr rfl (by decide) ?_ fun _ F3=>?_
   ·have e7:=F2.kn 7 _ rfl;go_wp2;exact ⟨_,rfl,rfl,rfl⟩
   clear F2
   refine fr2 F3 9 (.bool true) wr rfl (by decide) ?_ fun _ F4=>?_
   ·have e6:=F3.kn 6 _ rfl;have e8:=F3.kn 8 _ rfl;go_wp2;exact ⟨_,rfl,rfl,rfl⟩
   clear F3
   refine fr_end ?_
   go_upto_if 9 with fail
   refine wp_cond_true (F4.ev (t:=9) rfl) ?_
   go_upto_region 5 with fail
   refine fr_region ?_
   refine fr_mv F4 0 12 (.inl rfl) rfl rfl (by decide) rfl fun _ F5=>?_
   clear F4
   refine fr_mv F5 4 13 (.inl rfl) rfl rfl (by decide) rfl fun _ F6=>?_
   clear F5
   refine fr2 F6 14 (.int .u8 (c.toNat:Nat)) wr rfl (by decide) ?_ fun _ F7=>?_
   ·have e12:=F6.kn 12 _ rfl;have e13:=F6.kn 13 _ rfl;go_wp2;exact ⟨_,rfl,rfl,rfl⟩
   clear F6
   refine fr2 F7 15 (.int .i64 (c.toNat:Nat)) wr rfl (by decide) ?_ fun _ F8=>?_
   ·have e14:=F7.kn 14 _ rfl
    have hwc:wrap64 ((c.toNat:Nat):Int)=((c.toNat:Nat):Int):=by
     have h:=UInt8.toNat_lt c
     first | exact wrap_id (by omega) (by omega) | (unfold wrap64;omega)
    go_wp2
    first | exact ⟨_,rfl,rfl,rfl⟩ | exact ⟨_,rfl,by rw [hwc],rfl⟩
   clear F7
   refine fr_op F8 16 rfl (by decide) (AtX (.string ⟨(signT c.toNat).toArray⟩) wr) ?_ ?_
   ·have e15:=F8.kn 15 _ rfl
    go_wp2_with (go_at_call 40;refine (refSign c.toNat (UInt8.toNat_lt c) _).mono ?_;rintro e w9 ⟨rfl,hx9⟩)
    exact ⟨_,rfl,rfl,hx9⟩
   rintro a9 _ w1 ⟨rfl,hx1⟩ F9
   clear F8
   refine fr_mv F9 16 5 (.inr rfl) rfl rfl (by decide) rfl fun _ F10=>?_
   clear F9
   refine fr_end ?_
   have hsl:(signT c.toNat).length≤4:=by unfold signT;split <;> simp
   obtain ⟨sg,hsg⟩:∃ s,signT c.toNat=s:=⟨_,rfl⟩
   rw [hsg] at F10 hsl
   have HSG:=Lib.hid hsg
   clear hsg
   by_cases k32:c=32
   ·have z32:((c.toNat:Int) == 32)=true:=by rw [k32];rfl
    have K32:=Lib.hid k32
    clear k32
    go_upto_region 6 with fail
    refine fr_region ?_
    refine fr_mv F10 0 17 (.inl rfl) rfl rfl (by decide) rfl fun _ F11=>?_
    clear F10
    refine fr_mv F11 4 18 (.inl rfl) rfl rfl (by decide) rfl fun _ F12=>?_
    clear F11
    refine fr2 F12 19 (.int .u8 (c.toNat:Nat)) w1 rfl (by decide) ?_ fun _ F13=>?_
    ·have e17:=F12.kn 17 _ rfl;have e18:=F12.kn 18 _ rfl;go_wp2;exact ⟨_,rfl,rfl,rfl⟩
    clear F12
    refine fr2 F13 20 (.bool true) w1 rfl (by decide) ?_ fun _ F14=>?_
    ·have e19:=F13.kn 19 _ rfl;go_wp2;exact ⟨_,rfl,rfl,rfl⟩
    clear F13
    refine fr_mv F14 20 21 (.inl rfl) rfl rfl (by decide) rfl fun _ F15=>?_
    clear F14
    refine fr2 F15 22 (undef) w1 rfl (by decide) ?_ fun _ F16=>?_
    ·have e21:=F15.kn 21 _ rfl;go_wp2;exact ⟨_,rfl,rfl,rfl⟩
    clear F15
    refine fr2 F16 23 (undef) w1 rfl (by decide) ?_ fun _ F17=>?_
    ·have e21:=F16.kn 21 _ rfl;go_wp2;exact ⟨_,rfl,rfl,rfl⟩
    clear F16
    refine fr2 F17 24 (undef) w1 rfl (by decide) ?_ fun _ F18=>?_
    ·have e21:=F17.kn 21 _ rfl;go_wp2;exact ⟨_,rfl,rfl,rfl⟩
    clear F17
    refine fr2 F18 25 (undef) w1 rfl (by decide) ?_ fun _ F19=>?_
    ·have e21:=F18.kn 21 _ rfl;go_wp2;exact ⟨_,rfl,rfl,rfl⟩
    clear F18
    refine fr2 F19 26 (.bool true) w1 rfl (by decide) ?_ fun _ F20=>?_
    ·have e21:=F19.kn 21 _ rfl;have e25:=F19.kn 25 _ rfl;go_wp2;exact ⟨_,rfl,rfl,rfl⟩
    clear F19
    refine fr_end ?_
    go_upto_if 26 with fail
    refine wp_cond_true (F20.ev (t:=26) rfl) ?_
    go_upto_region 7 with fail
    refine fr_region ?_
    refine fr_mv F20 0 27 (.inl rfl) rfl rfl (by decide) rfl fun _ F21=>?_
    clear F20
    refine fr_mv F21 4 28 (.inl rfl) rfl rfl (by decide) rfl fun _ F22=>?_
    clear F21
    refine fr_mv F22 4 29 (.inl rfl) rfl rfl (by decide) rfl fun _ F23=>?_
    clear F22
    refine fr2 F23 30 (.int .i64 ((i:Int)+1)) w1 rfl (by decide) ?_ fun _ F24=>?_
    ·have e29:=F23.kn 29 _ rfl;go_wp2;exact ⟨_,rfl,rfl,rfl⟩
    clear F23
    refine fr2 F24 31 (.string ⟨[c].toArray⟩) w1 rfl (by decide) ?_ fun _ F25=>?_
    ·have e27:=F24.kn 27 _ rfl
     have e28:=F24.kn 28 _ rfl
     have e30:=F24.kn 30 _ rfl
     go_wp2
     exact ⟨_,rfl,by rw [HCUT.out],rfl⟩
    clear F24
    refine fr_mv F25 31 5 (.inr rfl) rfl rfl (by decide) rfl fun _ F26=>?_
    clear F25
    refine fr_end ?_
    go_upto_region 8 with fail
    refine fr_region ?_
    refine fr_mv F26 3 32 (.inl rfl) rfl rfl (by decide) rfl fun _ F27=>?_
    clear F26
    refine fr_mv F27 5 33 (.inl rfl) rfl rfl (by decide) rfl fun _ F28=>?_
    clear F27
    refine fr2 F28 34 (.string ⟨(q ++ [c]).toArray⟩) w1 rfl (by decide) ?_ fun _ F29=>?_
    ·have e32:=F28.kn 32 _ rfl
     have e33:=F28.kn 33 _ rfl
     have hnl:¬ 9223372036854775807<q.length+([c]).length:=by simp;omega
     go_wp2
     first | exact ⟨_,rfl,rfl,rfl⟩ | exact ⟨_,rfl,by simp,rfl⟩
    clear F28
    refine fr_mv F29 34 3 (.inr rfl) rfl rfl (by decide) rfl fun _ F30=>?_
    clear F29
    refine fr_end ?_
    go_upto_region 4 with fail
    refine fr_region ?_
    refine fr_mv F30 4 10 (.inl rfl) rfl rfl (by decide) rfl fun _ F31=>?_
    clear F30
    refine fr2 F31 11 (.int .i64 ((i:Int)+1)) w1 rfl (by decide) ?_ fun _ F32=>?_
    ·have e10:=F31.kn 10 _ rfl;go_wp2;exact ⟨_,rfl,rfl,rfl⟩
    clear F31
    refine fr_mv F32 11 4 (.inr rfl) rfl rfl (by decide) rfl fun _ F33=>?_
    clear F32
    refine fr_end ?_
    go_wp2
    have hqq:=HQT.out
    rw [quote_self (.inl K32.out)] at hqq
    refine HKK.out _ _ (Handed.intro (l.length-(i+1)) (by omega) (HJ.out _ _ _ ⟨_,_,Fr.cons (Fr.cons (Fr.cons F33.nil (F33.kn 4 _ rfl)) (F33.kn 3 _ rfl)) (F33.kn 0 _ rfl),i+1,rfl,rfl,by omega,by rw [hqq],HEX.out.trans hx1⟩))
   have z32:((c.toNat:Int) == 32)=false:=u8_ne k32
   by_cases k95:c=95
   ·have z95:((c.toNat:Int) == 95)=true:=by rw [k95];rfl
    have K95:=Lib.hid k95
    clear k95
    go_upto_region 6 with fail
    refine fr_region ?_
    refine fr_mv F10 0 17 (.inl rfl) rfl rfl (by decide) rfl fun _ F11=>?_
    clear F10
    refine fr_mv F11 4 18 (.inl rfl) rfl rfl (by decide) rfl fun _ F12=>?_
    clear F11
    refine fr2 F12 19 (.int .u8 (c.toNat:Nat)) w1 rfl (by decide) ?_ fun _ F13=>?_
    ·have e17:=F12.kn 17 _ rfl;have e18:=F12.kn 18 _ rfl;go_wp2;exact ⟨_,rfl,rfl,rfl⟩
    clear F12
    refine fr2 F13 20 (.bool false) w1 rfl (by decide) ?_ fun _ F14=>?_
    ·have e19:=F13.kn 19 _ rfl;go_wp2;exact ⟨_,rfl,rfl,rfl⟩
    clear F13
    refine fr_mv F14 20 21 (.inl rfl) rfl rfl (by decide) rfl fun _ F15=>?_
    clear F14
    refine fr2 F15 22 (.string ⟨l.toArray⟩) w1 rfl (by decide) ?_ fun _ F16=>?_
    ·have e0:=F15.kn 0 _ rfl;have e21:=F15.kn 21 _ rfl;go_wp2;exact ⟨_,rfl,rfl,rfl⟩
    clear F15
    refine fr2 F16 23 (.int .i64 (i:Nat)) w1 rfl (by decide) ?_ fun _ F17=>?_
    ·have e4:=F16.kn 4 _ rfl;have e21:=F16.kn 21 _ rfl;go_wp2;exact ⟨_,rfl,rfl,rfl⟩
    clear F16
    refine fr2 F17 24 (.int .u8 (c.toNat:Nat)) w1 rfl (by decide) ?_ fun _ F18=>?_
    ·have e22:=F17.kn 22 _ rfl;have e23:=F17.kn 23 _ rfl;have e21:=F17.kn 21 _ rfl;go_wp2;exact ⟨_,rfl,rfl,rfl⟩
    clear F17
    refine fr2 F18 25 (.bool true) w1 rfl (by decide) ?_ fun _ F19=>?_
    ·have e24:=F18.kn 24 _ rfl;have e21:=F18.kn 21 _ rfl;go_wp2;exact ⟨_,rfl,rfl,rfl⟩
    clear F18
    refine fr2 F19 26 (.bool true) w1 rfl (by decide) ?_ fun _ F20=>?_
    ·have e21:=F19.kn 21 _ rfl;have e25:=F19.kn 25 _ rfl;go_wp2;exact ⟨_,rfl,rfl,rfl⟩
    clear F19
    refine fr_end ?_
    go_upto_if 26 with fail
    refine wp_cond_true (F20.ev (t:=26) rfl) ?_
    go_upto_region 7 with fail
    refine fr_region ?_
    refine fr_mv F20 0 27 (.inl rfl) rfl rfl (by decide) rfl fun _ F21=>?_
    clear F20
    refine fr_mv F21 4 28 (.inl rfl) rfl rfl (by decide) rfl fun _ F22=>?_
    clear F21
    refine fr_mv F22 4 29 (.inl rfl) rfl rfl (by decide) rfl fun _ F23=>?_
    clear F22
    refine fr2 F23 30 (.int .i64 ((i:Int)+1)) w1 rfl (by decide) ?_ fun _ F24=>?_
    ·have e29:=F23.kn 29 _ rfl;go_wp2;exact ⟨_,rfl,rfl,rfl⟩
    clear F23
    refine fr2 F24 31 (.string ⟨[c].toArray⟩) w1 rfl (by decide) ?_ fun _ F25=>?_
    ·have e27:=F24.kn 27 _ rfl
     have e28:=F24.kn 28 _ rfl
     have e30:=F24.kn 30 _ rfl
     go_wp2
     exact ⟨_,rfl,by rw [HCUT.out],rfl⟩
    clear F24
    refine fr_mv F25 31 5 (.inr rfl) rfl rfl (by decide) rfl fun _ F26=>?_
    clear F25
    refine fr_end ?_
    go_upto_region 8 with fail
    refine fr_region ?_
    refine fr_mv F26 3 32 (.inl rfl) rfl rfl (by decide) rfl fun _ F27=>?_
    clear F26
    refine fr_mv F27 5 33 (.inl rfl) rfl rfl (by decide) rfl fun _ F28=>?_
    clear F27
    refine fr2 F28 34 (.string ⟨(q ++ [c]).toArray⟩) w1 rfl (by decide) ?_ fun _ F29=>?_
    ·have e32:=F28.kn 32 _ rfl
     have e33:=F28.kn 33 _ rfl
     have hnl:¬ 9223372036854775807<q.length+([c]).length:=by simp;omega
     go_wp2
     first | exact ⟨_,rfl,rfl,rfl⟩ | exact ⟨_,rfl,by simp,rfl⟩
    clear F28
    refine fr_mv F29 34 3 (.inr rfl) rfl rfl (by decide) rfl fun _ F30=>?_
    clear F29
    refine fr_end ?_
    go_upto_region 4 with fail
    refine fr_region ?_
    refine fr_mv F30 4 10 (.inl rfl) rfl rfl (by decide) rfl fun _ F31=>?_
    clear F30
    refine fr2 F31 11 (.int .i64 ((i:Int)+1)) w1 rfl (by decide) ?_ fun _ F32=>?_
    ·have e10:=F31.kn 10 _ rfl;go_wp2;exact ⟨_,rfl,rfl,rfl⟩
    clear F31
    refine fr_mv F32 11 4 (.inr rfl) rfl rfl (by decide) rfl fun _ F33=>?_
    clear F32
    refine fr_end ?_
    go_wp2
    have hqq:=HQT.out
    rw [quote_self (.inr K95.out)] at hqq
    refine HKK.out _ _ (Handed.intro (l.length-(i+1)) (by omega) (HJ.out _ _ _ ⟨_,_,Fr.cons (Fr.cons (Fr.cons F33.nil (F33.kn 4 _ rfl)) (F33.kn 3 _ rfl)) (F33.kn 0 _ rfl),i+1,rfl,rfl,by omega,by rw [hqq],HEX.out.trans hx1⟩))
   have z95:((c.toNat:Int) == 95)=false:=u8_ne k95
   go_upto_region 6 with fail
   refine fr_region ?_
   refine fr_mv F10 0 17 (.inl rfl) rfl rfl (by decide) rfl fun _ F11=>?_
   clear F10
   refine fr_mv F11 4 18 (.inl rfl) rfl rfl (by decide) rfl fun _ F12=>?_
   clear F11
   refine fr2 F12 19 (.int .u8 (c.toNat:Nat)) w1 rfl (by decide) ?_ fun _ F13=>?_
   ·have e17:=F12.kn 17 _ rfl;have e18:=F12.kn 18 _ rfl;go_wp2;exact ⟨_,rfl,rfl,rfl⟩
   clear F12
   refine fr2 F13 20 (.bool false) w1 rfl (by decide) ?_ fun _ F14=>?_
   ·have e19:=F13.kn 19 _ rfl;go_wp2;exact ⟨_,rfl,rfl,rfl⟩
   clear F13
   refine fr_mv F14 20 21 (.inl rfl) rfl rfl (by decide) rfl fun _ F15=>?_
   clear F14
   refine fr2 F15 22 (.string ⟨l.toArray⟩) w1 rfl (by decide) ?_ fun _ F16=>?_
   ·have e0:=F15.kn 0 _ rfl;have e21:=F15.kn 21 _ rfl;go_wp2;exact ⟨_,rfl,rfl,rfl⟩
   clear F15
   refine fr2 F16 23 (.int .i64 (i:Nat)) w1 rfl (by decide) ?_ fun _ F17=>?_
   ·have e4:=F16.kn 4 _ rfl;have e21:=F16.kn 21 _ rfl;go_wp2;exact ⟨_,rfl,rfl,rfl⟩
   clear F16
   refine fr2 F17 24 (.int .u8 (c.toNat:Nat)) w1 rfl (by decide) ?_ fun _ F18=>?_
   ·have e22:=F17.kn 22 _ rfl;have e23:=F17.kn 23 _ rfl;have e21:=F17.kn 21 _ rfl;go_wp2;exact ⟨_,rfl,rfl,rfl⟩
   clear F17
   refine fr2 F18 25 (.bool false) w1 rfl (by decide) ?_ fun _ F19=>?_
   ·have e24:=F18.kn 24 _ rfl;have e21:=F18.kn 21 _ rfl;go_wp2;exact ⟨_,rfl,rfl,rfl⟩
   clear F18
   refine fr2 F19 26 (.bool false) w1 rfl (by decide) ?_ fun _ F20=>?_
   ·have e21:=F19.kn 21 _ rfl;have e25:=F19.kn 25 _ rfl;go_wp2;exact ⟨_,rfl,rfl,rfl⟩
   clear F19
   refine fr_end ?_
   go_upto_if 26 with fail
   refine wp_cond_false (F20.ev (t:=26) rfl) ?_
   go_upto_region 8 with fail
   refine fr_region ?_
   refine fr_mv F20 3 32 (.inl rfl) rfl rfl (by decide) rfl fun _ F21=>?_
   clear F20
   refine fr_mv F21 5 33 (.inl rfl) rfl rfl (by decide) rfl fun _ F22=>?_
   clear F21
   refine fr2 F22 34 (.string ⟨(q ++ sg).toArray⟩) w1 rfl (by decide) ?_ fun _ F23=>?_
   ·have e32:=F22.kn 32 _ rfl
    have e33:=F22.kn 33 _ rfl
    have hnl:¬ 9223372036854775807<q.length+sg.length:=by omega
    go_wp2
    first | exact ⟨_,rfl,rfl,rfl⟩ | exact ⟨_,rfl,by simp,rfl⟩
   clear F22
   refine fr_mv F23 34 3 (.inr rfl) rfl rfl (by decide) rfl fun _ F24=>?_
   clear F23
   refine fr_end ?_
   go_upto_region 4 with fail
   refine fr_region ?_
   refine fr_mv F24 4 10 (.inl rfl) rfl rfl (by decide) rfl fun _ F25=>?_
   clear F24
   refine fr2 F25 11 (.int .i64 ((i:Int)+1)) w1 rfl (by decide) ?_ fun _ F26=>?_
   ·have e10:=F25.kn 10 _ rfl;go_wp2;exact ⟨_,rfl,rfl,rfl⟩
   clear F25
   refine fr_mv F26 11 4 (.inr rfl) rfl rfl (by decide) rfl fun _ F27=>?_
   clear F26
   refine fr_end ?_
   go_wp2
   have hqq:=HQT.out
   rw [quote_other k32 k95,HSG.out] at hqq
   refine HKK.out _ _ (Handed.intro (l.length-(i+1)) (by omega) (HJ.out _ _ _ ⟨_,_,Fr.cons (Fr.cons (Fr.cons F27.nil (F27.kn 4 _ rfl)) (F27.kn 3 _ rfl)) (F27.kn 0 _ rfl),i+1,rfl,rfl,by omega,by rw [hqq],HEX.out.trans hx1⟩))
  ·have hlt':¬ (i:Int)<(l.length:Int):=by omega
   rw [List.take_of_length_le (by omega)] at F0
   go_upto_region 3 with fail
   refine fr_region ?_
   refine fr_mv F0 4 6 (.inl rfl) rfl rfl (by decide) rfl fun _ F1=>?_
   clear F0
   refine fr_mv F1 0 7 (.inl rfl) rfl rfl (by decide) rfl fun _ F2=>?_
   clear F1
   refine fr2 F2 8 (.int .i64 (l.length:Nat)) wr rfl (by decide) ?_ fun _ F3=>?_
   ·have e7:=F2.kn 7 _ rfl;go_wp2;exact ⟨_,rfl,rfl,rfl⟩
   clear F2
   refine fr2 F3 9 (.bool false) wr rfl (by decide) ?_ fun _ F4=>?_
   ·have e6:=F3.kn 6 _ rfl;have e8:=F3.kn 8 _ rfl;go_wp2;exact ⟨_,rfl,rfl,rfl⟩
   clear F3
   refine fr_end ?_
   go_upto_if 9 with fail
   refine wp_cond_false (F4.ev (t:=9) rfl) ?_
   go_upto_region 9 with fail
   refine fr_region ?_
   refine fr_mv F4 3 35 (.inl rfl) rfl rfl (by decide) rfl fun _ F5=>?_
   clear F4
   refine fr_mv F5 35 2 (.inr rfl) rfl rfl (by decide) rfl fun _ F6=>?_
   clear F5
   refine fr_end ?_
   go_wp2
   exact bodyPost_ret (v:=.string ⟨(quoteG l).toArray⟩) (results_t1 rfl (F6.gd (t:=2) rfl)) F6.defers ⟨rfl,HEX.out⟩
def wExact:List UInt8:=[101,120,97,99,116]
def wGlob:List UInt8:=[103,108,111,98]
def wRegex:List UInt8:=[114,101,103,101,120]
structure Words (w:World):Prop where
 c0:w.cell? ⟨2,0,none⟩=some (.string ⟨#[]⟩)
 c1:w.cell? ⟨2,1,none⟩=some (.string ⟨#[101,120,97,99,116]⟩)
 c2:w.cell? ⟨2,2,none⟩=some (.string ⟨#[103,108,111,98]⟩)
 c3:w.cell? ⟨2,3,none⟩=some (.string ⟨#[114,101,103,101,120]⟩)
def wordG (k:Int):List UInt8:=if k=1 then wExact else if k=2 then wGlob else if k=3 then wRegex else []
def kindG (s:List UInt8):Nat:=if s=wExact then 1 else if s=wGlob then 2 else if s=wRegex then 3 else 0
theorem glWordA1 (w:World) (h:w.cell? ⟨2,1,none⟩=some (.string ⟨#[101,120,97,99,116]⟩)) :
  Calls Tryz.prog 15 #[.int .i64 1] w fun e w'=>e=.returned (.string ⟨#[101,120,97,99,116]⟩)∧w'=w:=by
 go_enter Tryz.func15,Tryz.ntmps15
 go_wp2
 go_ret
 exact ⟨rfl,rfl⟩
theorem glWordA2 (w:World) (h:w.cell? ⟨2,2,none⟩=some (.string ⟨#[103,108,111,98]⟩)) :
  Calls Tryz.prog 15 #[.int .i64 2] w fun e w'=>e=.returned (.string ⟨#[103,108,111,98]⟩)∧w'=w:=by
 go_enter Tryz.func15,Tryz.ntmps15
 go_wp2
 go_ret
 exact ⟨rfl,rfl⟩
theorem glWordA3 (w:World) (h:w.cell? ⟨2,3,none⟩=some (.string ⟨#[114,101,103,101,120]⟩)) :
  Calls Tryz.prog 15 #[.int .i64 3] w fun e w'=>e=.returned (.string ⟨#[114,101,103,101,120]⟩)∧w'=w:=by
 go_enter Tryz.func15,Tryz.ntmps15
 go_wp2
 go_ret
 exact ⟨rfl,rfl⟩
theorem glWord (k:Int) (w:World) (h:Words w) :
  Calls Tryz.prog 15 #[.int .i64 k] w fun e w'=>e=.returned (.string ⟨(wordG k).toArray⟩)∧w'=w:=by
 by_cases h1:k=1
 ·subst h1;exact glWordA1 w h.c1
 by_cases h2:k=2
 ·subst h2;exact glWordA2 w h.c2
 by_cases h3:k=3
 ·subst h3;exact glWordA3 w h.c3
 have hr:wordG k=[]:=by unfold wordG;rw [if_neg h1,if_neg h2,if_neg h3]
 rw [hr]
 by_cases hk:k<1
 ·clear h1 h2 h3 hr h
  go_enter Tryz.func15,Tryz.ntmps15
  go_wp2
  go_ret
  exact ⟨rfl,rfl⟩
 ·have hk3:3<k:=by omega
  clear h1 h2 h3 hr h
  go_enter Tryz.func15,Tryz.ntmps15
  go_wp2
  go_ret
  exact ⟨rfl,rfl⟩
set_option maxHeartbeats 4000000 in
theorem slIndex0 (w:World) (h:Words w) :
  Calls Tryz.prog 35 #[.slice (some ⟨2,0,none⟩) 4 4,.string ⟨([]:List UInt8).toArray⟩] w fun e w'=>e=.returned (.int .i64 0)∧w'=w:=by
 obtain ⟨c0,c1,c2,c3⟩:=h
 go_enter Tryz.func35,Tryz.ntmps35
 go_wp2
 refine wp_loop_rounds 5 ?_
 rw [rounds_succ]
 go_wp2
 go_ret
 exact ⟨rfl,rfl⟩
set_option maxHeartbeats 4000000 in
theorem slIndex1 (w:World) (h:Words w) :
  Calls Tryz.prog 35 #[.slice (some ⟨2,0,none⟩) 4 4,.string ⟨([101,120,97,99,116]:List UInt8).toArray⟩] w fun e w'=>e=.returned (.int .i64 1)∧w'=w:=by
 obtain ⟨c0,c1,c2,c3⟩:=h
 go_enter Tryz.func35,Tryz.ntmps35
 go_wp2
 refine wp_loop_rounds 5 ?_
 rw [rounds_succ]
 go_wp2
 rw [rounds_succ]
 go_wp2
 go_ret
 exact ⟨rfl,rfl⟩
set_option maxHeartbeats 4000000 in
theorem slIndex2 (w:World) (h:Words w) :
  Calls Tryz.prog 35 #[.slice (some ⟨2,0,none⟩) 4 4,.string ⟨([103,108,111,98]:List UInt8).toArray⟩] w fun e w'=>e=.returned (.int .i64 2)∧w'=w:=by
 obtain ⟨c0,c1,c2,c3⟩:=h
 go_enter Tryz.func35,Tryz.ntmps35
 go_wp2
 refine wp_loop_rounds 5 ?_
 rw [rounds_succ]
 go_wp2
 rw [rounds_succ]
 go_wp2
 rw [rounds_succ]
 go_wp2
 go_ret
 exact ⟨rfl,rfl⟩
set_option maxHeartbeats 4000000 in
theorem slIndex3 (w:World) (h:Words w) :
  Calls Tryz.prog 35 #[.slice (some ⟨2,0,none⟩) 4 4,.string ⟨([114,101,103,101,120]:List UInt8).toArray⟩] w fun e w'=>e=.returned (.int .i64 3)∧w'=w:=by
 obtain ⟨c0,c1,c2,c3⟩:=h
 go_enter Tryz.func35,Tryz.ntmps35
 go_wp2
 refine wp_loop_rounds 5 ?_
 rw [rounds_succ]
 go_wp2
 rw [rounds_succ]
 go_wp2
 rw [rounds_succ]
 go_wp2
 rw [rounds_succ]
 go_wp2
 go_ret
 exact ⟨rfl,rfl⟩
set_option maxHeartbeats 4000000 in
theorem slIndexN (s:List UInt8) (h0:s ≠ []) (h1:s ≠ wExact) (h2:s ≠ wGlob) (h3:s ≠ wRegex) (w:World) (h:Words w) :
  Calls Tryz.prog 35 #[.slice (some ⟨2,0,none⟩) 4 4,.string ⟨s.toArray⟩] w fun e w'=>e=.returned (.int .i64 (-1))∧w'=w:=by
 obtain ⟨c0,c1,c2,c3⟩:=h
 have z0:(s == [])=false:=by simpa using h0
 have z1:(s == [101,120,97,99,116])=false:=by simpa [wExact] using h1
 have z2:(s == [103,108,111,98])=false:=by simpa [wGlob] using h2
 have z3:(s == [114,101,103,101,120])=false:=by simpa [wRegex] using h3
 clear h0 h1 h2 h3
 go_enter Tryz.func35,Tryz.ntmps35
 go_wp2
 refine wp_loop_rounds 5 ?_
 rw [rounds_succ]
 go_wp2
 rw [rounds_succ]
 go_wp2
 rw [rounds_succ]
 go_wp2
 rw [rounds_succ]
 go_wp2
 rw [rounds_succ]
 go_wp2
 go_ret
 exact ⟨rfl,rfl⟩
set_option maxHeartbeats 4000000 in
theorem glKind (s:List UInt8) (w:World) (h:Words w) :
  Calls Tryz.prog 14 #[.string ⟨s.toArray⟩] w fun e w'=>e=.returned (.tuple #[.int .i64 (kindG s:Nat),.bool (kindG s != 0)])∧w'=w:=by
 have HW:=Lib.hid h
 clear h
 have key:∀ (k:Int) (K:Nat),(∀ w',Words w' → Calls Tryz.prog 35 #[.slice (some ⟨2,0,none⟩) 4 4,.string ⟨s.toArray⟩] w' fun e w''=>e=.returned (.int .i64 k)∧w''=w')→((k<1∧K=0)∨(¬ k<1∧k=(K:Int)))→kindG s=K →
   Calls Tryz.prog 14 #[.string ⟨s.toArray⟩] w fun e w'=>e=.returned (.tuple #[.int .i64 (kindG s:Nat),.bool (kindG s != 0)])∧w'=w:=by
  intro k K hc hk hK
  rw [hK]
  clear hK
  have HC:=Lib.hid hc
  clear hc
  rcases hk with ⟨hk,rfl⟩ | ⟨hk,rfl⟩
  ·go_enter Tryz.func14,Tryz.ntmps14
   go_wp2_with (go_at_call 35;refine (HC.out _ HW.out).mono ?_;rintro e wh ⟨rfl,hwh⟩;obtain rfl:=hwh)
   go_ret2
   exact ⟨rfl,rfl⟩
  ·have hb:((K:Nat) != 0)=true:=by simp;omega
   rw [hb]
   clear hb
   go_enter Tryz.func14,Tryz.ntmps14
   go_wp2_with (go_at_call 35;refine (HC.out _ HW.out).mono ?_;rintro e wh ⟨rfl,hwh⟩;obtain rfl:=hwh)
   go_ret2
   exact ⟨rfl,rfl⟩
 by_cases h1:s=wExact
 ·subst h1;exact key 1 1 (fun w' h=>slIndex1 w' h) (.inr ⟨by omega,rfl⟩) (by unfold kindG;rw [if_pos rfl])
 by_cases h2:s=wGlob
 ·subst h2;exact key 2 2 (fun w' h=>slIndex2 w' h) (.inr ⟨by omega,rfl⟩) (by decide)
 by_cases h3:s=wRegex
 ·subst h3;exact key 3 3 (fun w' h=>slIndex3 w' h) (.inr ⟨by omega,rfl⟩) (by decide)
 have hz:kindG s=0:=by unfold kindG;rw [if_neg h1,if_neg h2,if_neg h3]
 by_cases h0:s=[]
 ·subst h0;exact key 0 0 (fun w' h=>slIndex0 w' h) (.inl ⟨by omega,rfl⟩) hz
 ·exact key (-1) 0 (fun w' h=>slIndexN s h0 h1 h2 h3 w' h) (.inl ⟨by omega,rfl⟩) hz
end Go.Proofs.YtigmdlchbjanoaaGreatDoor
