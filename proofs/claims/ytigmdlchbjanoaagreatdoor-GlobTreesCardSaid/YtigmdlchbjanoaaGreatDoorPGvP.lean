/- Put together: Gt4. -/
import Derived.Test.YtigmdlchbjanoaaGreatDoorPGvO
import Derived.Test.YtigmdlchbjanoaaGreatDoorPGvJ
import Derived.Test.YtigmdlchbjanoaaGreatDoorPGvN
namespace Go.Proofs.YtigmdlchbjanoaaGreatDoor
open Go Go.RowKit
def OkR (w1:World) (t:T) (v:Value) (w':World):Prop:=∃ ld:List Value,v=.tuple #[.agg ld.toArray,.int .i64 0]∧Ext w1 w' ∧ DNodeV (fun b=>w1.heap.size≤b) w' t ld
theorem items_err:∀ (f:Nat) (l:List UInt8) (acc:List T) (k:Nat),itemsG f l acc=.err k→0<k∧k≤15:=by
 intro f
 induction f with
 | zero=>intro l acc k h;cases h
 | succ f ih =>
  intro l acc k h
  unfold itemsG at h
  split at h
  ·cases h
  ·rename_i hl
   split at h
   ·exact ih _ _ _ h
   ·rename_i he
    cases h
    cases l with
    | nil=>exact absurd rfl hl
    | cons c r =>
     by_cases h42:c=42
     ·rw [itemG_cons,if_pos h42] at he
      exact absurd rfl he
     ·rw [item_one h42] at he ⊢
      exact ⟨Nat.pos_of_ne_zero he,oneG_err he⟩
theorem size_err (l:List UInt8):sizeErr l≤15:=by
 unfold sizeErr
 split
 ·omega
 ·split <;> omega
theorem parseG_err {l:List UInt8} {k:Nat} (h:parseG l=.err k):0<k∧k≤15:=by
 unfold parseG at h
 split at h
 ·exact items_err _ _ _ _ h
 ·cases h;exact ⟨by omega,size_err l⟩
theorem plainG_err {l:List UInt8} {k:Nat} (h:plainG l=.err k):0<k∧k≤15:=by
 unfold plainG at h
 split at h
 ·cases h
 ·cases h;exact ⟨by omega,size_err l⟩
theorem parseR_err15 {l:List UInt8} {k:Nat} (h:parseR l=.err k):0<k∧k≤15:=by
 have:=parseR_err h
 unfold ErrK at this
 omega
theorem ofG_err {kind:Int} {l:List UInt8} {k:Nat} (h:ofG kind l=.err k):0<k∧k≤15:=by
 have key:∀ r:PR,(∀ k,r=.err k→0<k∧k≤15)→(match r with | .out=>PR.out | .err k=>.err k | .ok t i gr=>if t.nullable then .err 15 else .ok t i gr)=.err k→0<k∧k≤15:=by
  intro r hr he
  cases r with
  | out=>cases he
  | err k'=>cases he;exact hr _ rfl
  | ok t i gr =>
   dsimp only at he
   split at he
   ·cases he;omega
   ·cases he
 unfold ofG at h
 refine key _ (fun k' hk=>?_) h
 split at hk
 ·exact plainG_err hk
 ·split at hk
  ·exact parseG_err hk
  ·split at hk
   ·exact parseR_err15 hk
   ·cases hk;omega
set_option maxHeartbeats 40000000 in
set_option maxRecDepth 20000 in
theorem refOf24_1 (l:List UInt8) (w:World) :
  Calls Tryz.prog 10 #[.int .i64 1,.string ⟨l.toArray⟩] w fun e w'=>RefRes w (noNull (plainG l)) e w':=by
 have hz8:Tryz.zeroCells38.toList.length=260:=by rw [Array.length_toList];exact zsize40
 have HZ8:=Lib.hid hz8
 have HB0:=Lib.hid (Blk.new w 38 Tryz.zeroCells38)
 have HX0:=Lib.hid (Ext.new1 w (.cells Tryz.zeroCells38 38))
 have hg0:w.heap.size<(w.alloc (.cells Tryz.zeroCells38 38)).heap.size:=by simp
 have HG0:=Lib.hid hg0
 clear hz8 hg0
 obtain ⟨r,hr⟩:∃ r,plainG l=r:=⟨_,rfl⟩
 rw [hr]
 have HRR:=Lib.hid hr
 clear hr
 go_enter Tryz.func10,Tryz.ntmps10
 refine fr_begin 41 [(0,.int .i64 1),(1,.string ⟨l.toArray⟩)] (by refine Fr.cons (Fr.cons (Fr.start ?_ ?_) ?_) ?_ <;> exact rfl) (fun a0 F0=>?_)
 go_upto_region 0 with fail
 refine fr_region ?_
 refine fr_op F0 4 rfl (by decide) (At2 (.pointer (some ⟨w.heap.size,0,none⟩)) ((w.alloc (.cells Tryz.zeroCells38 38)))) ?_ ?_
 ·go_wp2
  exact ⟨_,rfl,rfl,rfl⟩
 rintro a1 _ _ ⟨rfl,rfl⟩ F1
 clear F0
 generalize (w.alloc (.cells Tryz.zeroCells38 38))=wa at *
 refine fr2 F1 5 (.int .i64 0) wa rfl (by decide) ?_ fun _ F2=>?_
 ·go_wp2;exact ⟨_,rfl,rfl,rfl⟩
 clear F1
 refine fr_end ?_
 go_upto_region 1 with fail
 refine fr_region ?_
 refine fr2 F2 8 (.agg (dnC 0 0 false (fun _=>false) none 0 0).toArray) wa rfl (by decide) ?_ fun _ F3=>?_
 ·refine build_z rfl rfl ?_
  exact ⟨_,rfl,rfl,rfl⟩
 clear F2
 refine fr_op F3 6 rfl (by decide) (At2 (.pointer (some ⟨wa.heap.size,0,none⟩)) (wa.alloc (.cells Tryz.zeroCells38 38))) ?_ ?_
 ·go_wp2
  exact ⟨_,rfl,rfl,rfl⟩
 rintro a4 _ _ ⟨rfl,rfl⟩ F4
 clear F3
 refine fr_op0 F4 rfl (fun w'=>Ext wa w' ∧ Blk w' wa.heap.size 38 (dnC 0 0 false (fun _=>false) none 0 0)) ?_ ?_
 ·have e6:=F4.kn 6 _ rfl
  have e8:=F4.kn 8 _ rfl
  refine store_dn_new rfl (.tmp 6) (.tmp 8) rfl (F4.ev (t:=6) rfl) (F4.ev (t:=8) rfl) zsize40 ?_
  exact ⟨_,rfl,Ext.new1 _ _,Blk.newL _ _ _⟩
 rintro a5 w1 ⟨hx1,hb1⟩ F5
 clear F4
 refine fr2 F5 7 (.int .i64 9) w1 rfl (by decide) ?_ fun _ F6=>?_
 ·go_wp2;exact ⟨_,rfl,rfl,rfl⟩
 clear F5
 refine fr_end ?_
 have HBZ:=Lib.hid (HB0.out.keep hx1)
 have HX1:=Lib.hid (HX0.out.trans hx1)
 have HB1:=Lib.hid hb1
 have HXA:=Lib.hid hx1
 clear hx1 hb1 HB0 HX0
 go_upto_region 2 with fail
 refine fr_region ?_
 refine fr_mv F6 0 9 (.inl rfl) rfl rfl (by decide) rfl fun _ F7=>?_
 clear F6
 refine fr2 F7 10 (.bool true) w1 rfl (by decide) ?_ fun _ F8=>?_
 ·have e9:=F7.kn 9 _ rfl;go_wp2;exact ⟨_,rfl,rfl,rfl⟩
 clear F7
 refine fr_end ?_
 go_upto_if 10 with fail
 refine wp_cond_true (F8.ev (t:=10) rfl) ?_
 go_upto_region 3 with fail
 refine fr_region ?_
 refine fr_mv F8 1 12 (.inl rfl) rfl rfl (by decide) rfl fun _ F9=>?_
 clear F8
 have HP:=Lib.hid (refPlain24 l w1)
 rw [HRR.out] at HP
 rcases r with _ | k | ⟨t,ir,gr⟩
 ·refine fr_op F9 13 rfl (by decide) (fun _ _=>False) ?_ ?_
  ·have e12:=F9.kn 12 _ rfl
   go_wp2_with (go_at_call 8;refine HP.out.mono ?_;rintro e w9 ⟨_,h9⟩;exact h9.elim)
  ·rintro _ _ _ h;exact h.elim
 ·refine fr_op F9 13 rfl (by decide) (AtX (.tuple #[.agg (dnC 0 0 false (fun _=>false) none 0 0).toArray,.int .i64 (k:Nat)]) w1) ?_ ?_
  ·have e12:=F9.kn 12 _ rfl
   go_wp2_with (go_at_call 8;refine HP.out.mono ?_;rintro e w9 ⟨hx9,rfl⟩)
   exact ⟨_,rfl,rfl,hx9⟩
  rintro a10 _ w2 ⟨rfl,hx2⟩ F10
  clear F9
  refine fr_mv F10 13 11 (.inl rfl) rfl rfl (by decide) rfl fun _ F11=>?_
  clear F10
  refine fr2 F11 14 (.agg (dnC 0 0 false (fun _=>false) none 0 0).toArray) w2 rfl (by decide) ?_ fun _ F12=>?_
  ·have e11:=F11.kn 11 _ rfl;go_wp2;exact ⟨_,rfl,rfl,rfl⟩
  clear F11
  refine fr2 F12 15 (.int .i64 (k:Nat)) w2 rfl (by decide) ?_ fun _ F13=>?_
  ·have e11:=F12.kn 11 _ rfl;go_wp2;exact ⟨_,rfl,rfl,rfl⟩
  clear F12
  refine fr_op0 F13 rfl (fun w'=>Chg [wa.heap.size] w2 w' ∧ Blk w' wa.heap.size 38 (dnC 0 0 false (fun _=>false) none 0 0)) ?_ ?_
  ·have e6:=F13.kn 6 _ rfl
   have e14:=F13.kn 14 _ rfl
   refine store_dn rfl (.tmp 6) (.tmp 14) rfl (g:=wa.heap.size) (F13.ev (t:=6) rfl) (F13.ev (t:=14) rfl) (HB1.out.keep hx2) (dn_len _ _ _ _ _ _ _) ?_
   exact ⟨_,rfl,rowChg4 _ _ _,(HB1.out.keep hx2).row _⟩
  rintro a14 w3 ⟨hc3,hb3⟩ F14
  clear F13
  refine fr_mv F14 15 7 (.inr rfl) rfl rfl (by decide) rfl fun _ F15=>?_
  clear F14
  refine fr_end ?_
  have HX3:=Lib.hid (ext_chg (HX1.out.trans hx2) hc3 (Nat.le_of_lt HG0.out))
  have HB3:=Lib.hid (Blk.chg (HBZ.out.keep hx2) hc3 (by have:=HG0.out;simp;omega))
  go_upto_region 4 with fail
  refine fr_region ?_
  refine fr_mv F15 0 16 (.inl rfl) rfl rfl (by decide) rfl fun _ F16=>?_
  clear F15
  refine fr2 F16 17 (.bool false) w3 rfl (by decide) ?_ fun _ F17=>?_
  ·have e16:=F16.kn 16 _ rfl;go_wp2;exact ⟨_,rfl,rfl,rfl⟩
  clear F16
  refine fr_end ?_
  go_upto_if 17 with fail
  refine wp_cond_false (F17.ev (t:=17) rfl) ?_
  go_upto_region 6 with fail
  refine fr_region ?_
  refine fr_mv F17 0 23 (.inl rfl) rfl rfl (by decide) rfl fun _ F18=>?_
  clear F17
  refine fr2 F18 24 (.bool false) w3 rfl (by decide) ?_ fun _ F19=>?_
  ·have e23:=F18.kn 23 _ rfl;go_wp2;exact ⟨_,rfl,rfl,rfl⟩
  clear F18
  refine fr_end ?_
  have hk:=(plainG_err HRR.out).1
  have z0:((k:Int) == 0)=false:=by simp;omega
  have z0n:((k:Int) != 0)=true:=by simp;omega
  have HK:=Lib.hid hk
  clear hk
  go_upto_if 24 with fail
  refine wp_cond_false (F19.ev (t:=24) rfl) ?_
  go_upto_region 8 with fail
  refine fr_region ?_
  refine fr_mv F19 7 30 (.inl rfl) rfl rfl (by decide) rfl fun _ F20=>?_
  clear F19
  refine fr2 F20 31 (.bool false) w3 rfl (by decide) ?_ fun _ F21=>?_
  ·have e30:=F20.kn 30 _ rfl;go_wp2;exact ⟨_,rfl,rfl,rfl⟩
  clear F20
  refine fr_mv F21 31 32 (.inl rfl) rfl rfl (by decide) rfl fun _ F22=>?_
  clear F21
  refine fr2 F22 33 (undef) w3 rfl (by decide) ?_ fun _ F23=>?_
  ·have e32:=F22.kn 32 _ rfl;go_wp2;exact ⟨_,rfl,rfl,rfl⟩
  clear F22
  refine fr2 F23 34 (undef) w3 rfl (by decide) ?_ fun _ F24=>?_
  ·have e32:=F23.kn 32 _ rfl;go_wp2;exact ⟨_,rfl,rfl,rfl⟩
  clear F23
  refine fr2 F24 35 (.bool false) w3 rfl (by decide) ?_ fun _ F25=>?_
  ·have e32:=F24.kn 32 _ rfl;have e34:=F24.kn 34 _ rfl;go_wp2;exact ⟨_,rfl,rfl,rfl⟩
  clear F24
  refine fr_end ?_
  go_upto_if 35 with fail
  refine wp_cond_false (F25.ev (t:=35) rfl) ?_
  go_upto_region 10 with fail
  refine fr_region ?_
  refine fr_mv F25 7 36 (.inl rfl) rfl rfl (by decide) rfl fun _ F26=>?_
  clear F25
  refine fr2 F26 37 (.bool true) w3 rfl (by decide) ?_ fun _ F27=>?_
  ·have e36:=F26.kn 36 _ rfl;go_wp2;exact ⟨_,rfl,rfl,rfl⟩
  clear F26
  refine fr_end ?_
  go_upto_if 37 with fail
  refine wp_cond_true (F27.ev (t:=37) rfl) ?_
  go_upto_region 11 with fail
  refine fr_region ?_
  refine fr2 F27 38 (.agg (dnC 0 0 false (fun _=>false) none 0 0).toArray) w3 rfl (by decide) ?_ fun _ F28=>?_
  ·refine build_z rfl rfl ?_
   exact ⟨_,rfl,rfl,rfl⟩
  clear F27
  refine fr_mv F28 7 39 (.inl rfl) rfl rfl (by decide) rfl fun _ F29=>?_
  clear F28
  refine fr_op0 F29 rfl (At1 ((w3.setRow w.heap.size (dnC 0 0 false (fun _=>false) none 0 0).toArray))) ?_ ?_
  ·have e4:=F29.kn 4 _ rfl
   have e38:=F29.kn 38 _ rfl
   refine store_dn rfl (.tmp 4) (.tmp 38) rfl (g:=w.heap.size) (F29.ev (t:=4) rfl) (F29.ev (t:=38) rfl) (HB3.out) HZ8.out ?_
   exact ⟨_,rfl,rfl⟩
  rintro a30 _ rfl F30
  clear F29
  refine fr_mv F30 39 5 (.inr rfl) rfl rfl (by decide) rfl fun _ F31=>?_
  clear F30
  refine fr_end ?_
  go_wp2
  exact bodyPost_ret (v:=.tuple #[.agg (dnC 0 0 false (fun _=>false) none 0 0).toArray,.int .i64 (k:Nat)]) (results_dn2 rfl (F31.gd (t:=4) rfl) (Blk.row (HB3.out) _) (dn_len _ _ _ _ _ _ _) (F31.gd (t:=5) rfl)) F31.defers (by show RefRes _ _ _ _;exact ⟨Ext.row (HX3.out) _ _ (Nat.le_refl _),rfl⟩)
 ·refine fr_op F9 13 rfl (by decide) (OkR w1 t) ?_ ?_
  ·have e12:=F9.kn 12 _ rfl
   go_wp2_with (go_at_call 8;refine HP.out.mono ?_;rintro e w9 ⟨hx9,ld,rfl,hD9⟩)
   exact ⟨_,rfl,⟨ld,rfl,hx9,hD9⟩⟩
  rintro a10 v9 w2 hOK F10
  clear F9
  obtain ⟨ld,rfl,hx2,hD2⟩:=hOK
  obtain ⟨kd,md,zd,pd,Bd,nd,cd,rfl⟩:=dnodeV_form hD2
  refine fr_mv F10 13 11 (.inl rfl) rfl rfl (by decide) rfl fun _ F11=>?_
  clear F10
  refine fr2 F11 14 (.agg (dnC kd md zd pd Bd nd cd).toArray) w2 rfl (by decide) ?_ fun _ F12=>?_
  ·have e11:=F11.kn 11 _ rfl;go_wp2;exact ⟨_,rfl,rfl,rfl⟩
  clear F11
  refine fr2 F12 15 (.int .i64 0) w2 rfl (by decide) ?_ fun _ F13=>?_
  ·have e11:=F12.kn 11 _ rfl;go_wp2;exact ⟨_,rfl,rfl,rfl⟩
  clear F12
  refine fr_op0 F13 rfl (fun w'=>Chg [wa.heap.size] w2 w' ∧ Blk w' wa.heap.size 38 (dnC kd md zd pd Bd nd cd)) ?_ ?_
  ·have e6:=F13.kn 6 _ rfl
   have e14:=F13.kn 14 _ rfl
   refine store_dn rfl (.tmp 6) (.tmp 14) rfl (g:=wa.heap.size) (F13.ev (t:=6) rfl) (F13.ev (t:=14) rfl) (HB1.out.keep hx2) (dn_len _ _ _ _ _ _ _) ?_
   exact ⟨_,rfl,rowChg4 _ _ _,(HB1.out.keep hx2).row _⟩
  rintro a14 w3 ⟨hc3,hb3⟩ F14
  clear F13
  refine fr_mv F14 15 7 (.inr rfl) rfl rfl (by decide) rfl fun _ F15=>?_
  clear F14
  refine fr_end ?_
  have HX3:=Lib.hid (ext_chg (HX1.out.trans hx2) hc3 (Nat.le_of_lt HG0.out))
  have HB3:=Lib.hid (Blk.chg (HBZ.out.keep hx2) hc3 (by have:=HG0.out;simp;omega))
  go_upto_region 4 with fail
  refine fr_region ?_
  refine fr_mv F15 0 16 (.inl rfl) rfl rfl (by decide) rfl fun _ F16=>?_
  clear F15
  refine fr2 F16 17 (.bool false) w3 rfl (by decide) ?_ fun _ F17=>?_
  ·have e16:=F16.kn 16 _ rfl;go_wp2;exact ⟨_,rfl,rfl,rfl⟩
  clear F16
  refine fr_end ?_
  go_upto_if 17 with fail
  refine wp_cond_false (F17.ev (t:=17) rfl) ?_
  go_upto_region 6 with fail
  refine fr_region ?_
  refine fr_mv F17 0 23 (.inl rfl) rfl rfl (by decide) rfl fun _ F18=>?_
  clear F17
  refine fr2 F18 24 (.bool false) w3 rfl (by decide) ?_ fun _ F19=>?_
  ·have e23:=F18.kn 23 _ rfl;go_wp2;exact ⟨_,rfl,rfl,rfl⟩
  clear F18
  refine fr_end ?_
  have HDT:=Lib.hid (DNodeV.chg hD2 hc3 (fun x hx=>by have:=HB1.out.lt;rw [List.mem_singleton.1 hx];omega))
  have HWW:=Lib.hid HBZ.out.lt
  clear hD2
  obtain ⟨bn,hbn⟩:∃ b,t.nullable=b:=⟨_,rfl⟩
  have HBN:=Lib.hid hbn
  clear hbn
  go_upto_if 24 with fail
  refine wp_cond_false (F19.ev (t:=24) rfl) ?_
  go_upto_region 8 with fail
  refine fr_region ?_
  refine fr_mv F19 7 30 (.inl rfl) rfl rfl (by decide) rfl fun _ F20=>?_
  clear F19
  refine fr2 F20 31 (.bool true) w3 rfl (by decide) ?_ fun _ F21=>?_
  ·have e30:=F20.kn 30 _ rfl;go_wp2;exact ⟨_,rfl,rfl,rfl⟩
  clear F20
  refine fr_mv F21 31 32 (.inl rfl) rfl rfl (by decide) rfl fun _ F22=>?_
  clear F21
  refine fr2 F22 33 (.agg (dnC kd md zd pd Bd nd cd).toArray) w3 rfl (by decide) ?_ fun _ F23=>?_
  ·have e6:=F22.kn 6 _ rfl
   have e32:=F22.kn 32 _ rfl
   refine load_dnH (d:=32) rfl rfl (F22.kn 32 _ rfl) (.tmp 6) rfl (g:=wa.heap.size) (F22.ev (t:=6) rfl) hb3 ?_
   exact ⟨_,rfl,rfl,rfl⟩
  clear F22
  refine fr_op F23 34 rfl (by decide) (AtX (.bool bn) w3) ?_ ?_
  ·have e33:=F23.kn 33 _ rfl
   have e32:=F23.kn 32 _ rfl
   go_wp2_with (go_at_call 31;refine (refNullable _ t (Nat.le_refl _) _ _ _ HDT.out).mono ?_;rintro e w9 ⟨rfl,hx9⟩;rw [HBN.out])
   exact ⟨_,rfl,rfl,hx9⟩
  rintro a24 _ w5 ⟨rfl,hx5⟩ F24
  clear F23
  refine fr2 F24 35 (.bool bn) w5 rfl (by decide) ?_ fun _ F25=>?_
  ·have e32:=F24.kn 32 _ rfl;have e34:=F24.kn 34 _ rfl;go_wp2;exact ⟨_,rfl,rfl,rfl⟩
  clear F24
  refine fr_end ?_
  have HB5:=Lib.hid (HB3.out.keep hx5)
  have HX5:=Lib.hid (HX3.out.trans hx5)
  cases bn
  ·go_upto_if 35 with fail
   refine wp_cond_false (F25.ev (t:=35) rfl) ?_
   go_upto_region 10 with fail
   refine fr_region ?_
   refine fr_mv F25 7 36 (.inl rfl) rfl rfl (by decide) rfl fun _ F26=>?_
   clear F25
   refine fr2 F26 37 (.bool false) w5 rfl (by decide) ?_ fun _ F27=>?_
   ·have e36:=F26.kn 36 _ rfl;go_wp2;exact ⟨_,rfl,rfl,rfl⟩
   clear F26
   refine fr_end ?_
   go_upto_if 37 with fail
   refine wp_cond_false (F27.ev (t:=37) rfl) ?_
   go_upto_region 12 with fail
   refine fr_region ?_
   refine fr2 F27 40 (.agg (dnC kd md zd pd Bd nd cd).toArray) w5 rfl (by decide) ?_ fun _ F28=>?_
   ·have e6:=F27.kn 6 _ rfl
    refine load_dn rfl (.tmp 6) rfl (F27.ev (t:=6) rfl) (hb3.keep hx5) ?_
    exact ⟨_,rfl,rfl,rfl⟩
   clear F27
   refine fr_op0 F28 rfl (At1 ((w5.setRow w.heap.size (dnC kd md zd pd Bd nd cd).toArray))) ?_ ?_
   ·have e4:=F28.kn 4 _ rfl
    have e40:=F28.kn 40 _ rfl
    refine store_dn rfl (.tmp 4) (.tmp 40) rfl (g:=w.heap.size) (F28.ev (t:=4) rfl) (F28.ev (t:=40) rfl) HB5.out HZ8.out ?_
    exact ⟨_,rfl,rfl⟩
   rintro a29 _ rfl F29
   clear F28
   refine fr_as F29 5 (.inr rfl) rfl rfl (by decide) fun _ F30=>?_
   clear F29
   refine fr_end ?_
   go_wp2
   exact bodyPost_ret (v:=.tuple #[.agg (dnC kd md zd pd Bd nd cd).toArray,.int .i64 0]) (results_dn2 rfl (F30.gd (t:=4) rfl) (Blk.row HB5.out _) (dn_len _ _ _ _ _ _ _) (F30.gd (t:=5) rfl)) F30.defers (by show RefRes _ _ _ _;rw [noNull_ok HBN.out];exact ⟨Ext.row HX5.out _ _ (Nat.le_refl _),_,rfl,DNodeV.mono (DNodeV.chg (DNodeV.keep HDT.out hx5) (rowChg4 _ _ _) (fun x hx=>by have:=HWW.out;rw [List.mem_singleton.1 hx];omega)) (fun b _ hb=>by have:=HWW.out;omega)⟩)
  ·go_upto_if 35 with fail
   refine wp_cond_true (F25.ev (t:=35) rfl) ?_
   go_upto_region 9 with fail
   refine fr_region ?_
   refine fr_as F25 7 (.inr rfl) rfl rfl (by decide) fun _ F26=>?_
   clear F25
   refine fr_end ?_
   go_upto_region 10 with fail
   refine fr_region ?_
   refine fr_mv F26 7 36 (.inl rfl) rfl rfl (by decide) rfl fun _ F27=>?_
   clear F26
   refine fr2 F27 37 (.bool true) w5 rfl (by decide) ?_ fun _ F28=>?_
   ·have e36:=F27.kn 36 _ rfl;go_wp2;exact ⟨_,rfl,rfl,rfl⟩
   clear F27
   refine fr_end ?_
   go_upto_if 37 with fail
   refine wp_cond_true (F28.ev (t:=37) rfl) ?_
   go_upto_region 11 with fail
   refine fr_region ?_
   refine fr2 F28 38 (.agg (dnC 0 0 false (fun _=>false) none 0 0).toArray) w5 rfl (by decide) ?_ fun _ F29=>?_
   ·refine build_z rfl rfl ?_
    exact ⟨_,rfl,rfl,rfl⟩
   clear F28
   refine fr_mv F29 7 39 (.inl rfl) rfl rfl (by decide) rfl fun _ F30=>?_
   clear F29
   refine fr_op0 F30 rfl (At1 ((w5.setRow w.heap.size (dnC 0 0 false (fun _=>false) none 0 0).toArray))) ?_ ?_
   ·have e4:=F30.kn 4 _ rfl
    have e38:=F30.kn 38 _ rfl
    refine store_dn rfl (.tmp 4) (.tmp 38) rfl (g:=w.heap.size) (F30.ev (t:=4) rfl) (F30.ev (t:=38) rfl) (HB5.out) HZ8.out ?_
    exact ⟨_,rfl,rfl⟩
   rintro a31 _ rfl F31
   clear F30
   refine fr_mv F31 39 5 (.inr rfl) rfl rfl (by decide) rfl fun _ F32=>?_
   clear F31
   refine fr_end ?_
   go_wp2
   exact bodyPost_ret (v:=.tuple #[.agg (dnC 0 0 false (fun _=>false) none 0 0).toArray,.int .i64 15]) (results_dn2 rfl (F32.gd (t:=4) rfl) (Blk.row (HB5.out) _) (dn_len _ _ _ _ _ _ _) (F32.gd (t:=5) rfl)) F32.defers (by show RefRes _ _ _ _;rw [noNull_no HBN.out];exact ⟨Ext.row (HX5.out) _ _ (Nat.le_refl _),rfl⟩)
set_option maxHeartbeats 40000000 in
set_option maxRecDepth 20000 in
theorem refOf24_2 (l:List UInt8) (w:World) :
  Calls Tryz.prog 10 #[.int .i64 2,.string ⟨l.toArray⟩] w fun e w'=>RefRes w (noNull (parseG l)) e w':=by
 have hz8:Tryz.zeroCells38.toList.length=260:=by rw [Array.length_toList];exact zsize40
 have HZ8:=Lib.hid hz8
 have HB0:=Lib.hid (Blk.new w 38 Tryz.zeroCells38)
 have HX0:=Lib.hid (Ext.new1 w (.cells Tryz.zeroCells38 38))
 have hg0:w.heap.size<(w.alloc (.cells Tryz.zeroCells38 38)).heap.size:=by simp
 have HG0:=Lib.hid hg0
 clear hz8 hg0
 obtain ⟨r,hr⟩:∃ r,parseG l=r:=⟨_,rfl⟩
 rw [hr]
 have HRR:=Lib.hid hr
 clear hr
 go_enter Tryz.func10,Tryz.ntmps10
 refine fr_begin 41 [(0,.int .i64 2),(1,.string ⟨l.toArray⟩)] (by refine Fr.cons (Fr.cons (Fr.start ?_ ?_) ?_) ?_ <;> exact rfl) (fun a0 F0=>?_)
 go_upto_region 0 with fail
 refine fr_region ?_
 refine fr_op F0 4 rfl (by decide) (At2 (.pointer (some ⟨w.heap.size,0,none⟩)) ((w.alloc (.cells Tryz.zeroCells38 38)))) ?_ ?_
 ·go_wp2
  exact ⟨_,rfl,rfl,rfl⟩
 rintro a1 _ _ ⟨rfl,rfl⟩ F1
 clear F0
 generalize (w.alloc (.cells Tryz.zeroCells38 38))=wa at *
 refine fr2 F1 5 (.int .i64 0) wa rfl (by decide) ?_ fun _ F2=>?_
 ·go_wp2;exact ⟨_,rfl,rfl,rfl⟩
 clear F1
 refine fr_end ?_
 go_upto_region 1 with fail
 refine fr_region ?_
 refine fr2 F2 8 (.agg (dnC 0 0 false (fun _=>false) none 0 0).toArray) wa rfl (by decide) ?_ fun _ F3=>?_
 ·refine build_z rfl rfl ?_
  exact ⟨_,rfl,rfl,rfl⟩
 clear F2
 refine fr_op F3 6 rfl (by decide) (At2 (.pointer (some ⟨wa.heap.size,0,none⟩)) (wa.alloc (.cells Tryz.zeroCells38 38))) ?_ ?_
 ·go_wp2
  exact ⟨_,rfl,rfl,rfl⟩
 rintro a4 _ _ ⟨rfl,rfl⟩ F4
 clear F3
 refine fr_op0 F4 rfl (fun w'=>Ext wa w' ∧ Blk w' wa.heap.size 38 (dnC 0 0 false (fun _=>false) none 0 0)) ?_ ?_
 ·have e6:=F4.kn 6 _ rfl
  have e8:=F4.kn 8 _ rfl
  refine store_dn_new rfl (.tmp 6) (.tmp 8) rfl (F4.ev (t:=6) rfl) (F4.ev (t:=8) rfl) zsize40 ?_
  exact ⟨_,rfl,Ext.new1 _ _,Blk.newL _ _ _⟩
 rintro a5 w1 ⟨hx1,hb1⟩ F5
 clear F4
 refine fr2 F5 7 (.int .i64 9) w1 rfl (by decide) ?_ fun _ F6=>?_
 ·go_wp2;exact ⟨_,rfl,rfl,rfl⟩
 clear F5
 refine fr_end ?_
 have HBZ:=Lib.hid (HB0.out.keep hx1)
 have HX1:=Lib.hid (HX0.out.trans hx1)
 have HB1:=Lib.hid hb1
 have HXA:=Lib.hid hx1
 clear hx1 hb1 HB0 HX0
 go_upto_region 2 with fail
 refine fr_region ?_
 refine fr_mv F6 0 9 (.inl rfl) rfl rfl (by decide) rfl fun _ F7=>?_
 clear F6
 refine fr2 F7 10 (.bool false) w1 rfl (by decide) ?_ fun _ F8=>?_
 ·have e9:=F7.kn 9 _ rfl;go_wp2;exact ⟨_,rfl,rfl,rfl⟩
 clear F7
 refine fr_end ?_
 go_upto_if 10 with fail
 refine wp_cond_false (F8.ev (t:=10) rfl) ?_
 go_upto_region 4 with fail
 refine fr_region ?_
 refine fr_mv F8 0 16 (.inl rfl) rfl rfl (by decide) rfl fun _ F9=>?_
 clear F8
 refine fr2 F9 17 (.bool true) w1 rfl (by decide) ?_ fun _ F10=>?_
 ·have e16:=F9.kn 16 _ rfl;go_wp2;exact ⟨_,rfl,rfl,rfl⟩
 clear F9
 refine fr_end ?_
 go_upto_if 17 with fail
 refine wp_cond_true (F10.ev (t:=17) rfl) ?_
 go_upto_region 5 with fail
 refine fr_region ?_
 refine fr_mv F10 1 19 (.inl rfl) rfl rfl (by decide) rfl fun _ F11=>?_
 clear F10
 have HP:=Lib.hid (refParse24 l w1)
 rw [HRR.out] at HP
 rcases r with _ | k | ⟨t,ir,gr⟩
 ·refine fr_op F11 20 rfl (by decide) (fun _ _=>False) ?_ ?_
  ·have e19:=F11.kn 19 _ rfl
   go_wp2_with (go_at_call 9;refine HP.out.mono ?_;rintro e w9 ⟨_,h9⟩;exact h9.elim)
  ·rintro _ _ _ h;exact h.elim
 ·refine fr_op F11 20 rfl (by decide) (AtX (.tuple #[.agg (dnC 0 0 false (fun _=>false) none 0 0).toArray,.int .i64 (k:Nat)]) w1) ?_ ?_
  ·have e19:=F11.kn 19 _ rfl
   go_wp2_with (go_at_call 9;refine HP.out.mono ?_;rintro e w9 ⟨hx9,rfl⟩)
   exact ⟨_,rfl,rfl,hx9⟩
  rintro a12 _ w2 ⟨rfl,hx2⟩ F12
  clear F11
  refine fr_mv F12 20 18 (.inl rfl) rfl rfl (by decide) rfl fun _ F13=>?_
  clear F12
  refine fr2 F13 21 (.agg (dnC 0 0 false (fun _=>false) none 0 0).toArray) w2 rfl (by decide) ?_ fun _ F14=>?_
  ·have e18:=F13.kn 18 _ rfl;go_wp2;exact ⟨_,rfl,rfl,rfl⟩
  clear F13
  refine fr2 F14 22 (.int .i64 (k:Nat)) w2 rfl (by decide) ?_ fun _ F15=>?_
  ·have e18:=F14.kn 18 _ rfl;go_wp2;exact ⟨_,rfl,rfl,rfl⟩
  clear F14
  refine fr_op0 F15 rfl (fun w'=>Chg [wa.heap.size] w2 w' ∧ Blk w' wa.heap.size 38 (dnC 0 0 false (fun _=>false) none 0 0)) ?_ ?_
  ·have e6:=F15.kn 6 _ rfl
   have e21:=F15.kn 21 _ rfl
   refine store_dn rfl (.tmp 6) (.tmp 21) rfl (g:=wa.heap.size) (F15.ev (t:=6) rfl) (F15.ev (t:=21) rfl) (HB1.out.keep hx2) (dn_len _ _ _ _ _ _ _) ?_
   exact ⟨_,rfl,rowChg4 _ _ _,(HB1.out.keep hx2).row _⟩
  rintro a16 w3 ⟨hc3,hb3⟩ F16
  clear F15
  refine fr_mv F16 22 7 (.inr rfl) rfl rfl (by decide) rfl fun _ F17=>?_
  clear F16
  refine fr_end ?_
  have HX3:=Lib.hid (ext_chg (HX1.out.trans hx2) hc3 (Nat.le_of_lt HG0.out))
  have HB3:=Lib.hid (Blk.chg (HBZ.out.keep hx2) hc3 (by have:=HG0.out;simp;omega))
  go_upto_region 6 with fail
  refine fr_region ?_
  refine fr_mv F17 0 23 (.inl rfl) rfl rfl (by decide) rfl fun _ F18=>?_
  clear F17
  refine fr2 F18 24 (.bool false) w3 rfl (by decide) ?_ fun _ F19=>?_
  ·have e23:=F18.kn 23 _ rfl;go_wp2;exact ⟨_,rfl,rfl,rfl⟩
  clear F18
  refine fr_end ?_
  have hk:=(parseG_err HRR.out).1
  have z0:((k:Int) == 0)=false:=by simp;omega
  have z0n:((k:Int) != 0)=true:=by simp;omega
  have HK:=Lib.hid hk
  clear hk
  go_upto_if 24 with fail
  refine wp_cond_false (F19.ev (t:=24) rfl) ?_
  go_upto_region 8 with fail
  refine fr_region ?_
  refine fr_mv F19 7 30 (.inl rfl) rfl rfl (by decide) rfl fun _ F20=>?_
  clear F19
  refine fr2 F20 31 (.bool false) w3 rfl (by decide) ?_ fun _ F21=>?_
  ·have e30:=F20.kn 30 _ rfl;go_wp2;exact ⟨_,rfl,rfl,rfl⟩
  clear F20
  refine fr_mv F21 31 32 (.inl rfl) rfl rfl (by decide) rfl fun _ F22=>?_
  clear F21
  refine fr2 F22 33 (undef) w3 rfl (by decide) ?_ fun _ F23=>?_
  ·have e32:=F22.kn 32 _ rfl;go_wp2;exact ⟨_,rfl,rfl,rfl⟩
  clear F22
  refine fr2 F23 34 (undef) w3 rfl (by decide) ?_ fun _ F24=>?_
  ·have e32:=F23.kn 32 _ rfl;go_wp2;exact ⟨_,rfl,rfl,rfl⟩
  clear F23
  refine fr2 F24 35 (.bool false) w3 rfl (by decide) ?_ fun _ F25=>?_
  ·have e32:=F24.kn 32 _ rfl;have e34:=F24.kn 34 _ rfl;go_wp2;exact ⟨_,rfl,rfl,rfl⟩
  clear F24
  refine fr_end ?_
  go_upto_if 35 with fail
  refine wp_cond_false (F25.ev (t:=35) rfl) ?_
  go_upto_region 10 with fail
  refine fr_region ?_
  refine fr_mv F25 7 36 (.inl rfl) rfl rfl (by decide) rfl fun _ F26=>?_
  clear F25
  refine fr2 F26 37 (.bool true) w3 rfl (by decide) ?_ fun _ F27=>?_
  ·have e36:=F26.kn 36 _ rfl;go_wp2;exact ⟨_,rfl,rfl,rfl⟩
  clear F26
  refine fr_end ?_
  go_upto_if 37 with fail
  refine wp_cond_true (F27.ev (t:=37) rfl) ?_
  go_upto_region 11 with fail
  refine fr_region ?_
  refine fr2 F27 38 (.agg (dnC 0 0 false (fun _=>false) none 0 0).toArray) w3 rfl (by decide) ?_ fun _ F28=>?_
  ·refine build_z rfl rfl ?_
   exact ⟨_,rfl,rfl,rfl⟩
  clear F27
  refine fr_mv F28 7 39 (.inl rfl) rfl rfl (by decide) rfl fun _ F29=>?_
  clear F28
  refine fr_op0 F29 rfl (At1 ((w3.setRow w.heap.size (dnC 0 0 false (fun _=>false) none 0 0).toArray))) ?_ ?_
  ·have e4:=F29.kn 4 _ rfl
   have e38:=F29.kn 38 _ rfl
   refine store_dn rfl (.tmp 4) (.tmp 38) rfl (g:=w.heap.size) (F29.ev (t:=4) rfl) (F29.ev (t:=38) rfl) (HB3.out) HZ8.out ?_
   exact ⟨_,rfl,rfl⟩
  rintro a30 _ rfl F30
  clear F29
  refine fr_mv F30 39 5 (.inr rfl) rfl rfl (by decide) rfl fun _ F31=>?_
  clear F30
  refine fr_end ?_
  go_wp2
  exact bodyPost_ret (v:=.tuple #[.agg (dnC 0 0 false (fun _=>false) none 0 0).toArray,.int .i64 (k:Nat)]) (results_dn2 rfl (F31.gd (t:=4) rfl) (Blk.row (HB3.out) _) (dn_len _ _ _ _ _ _ _) (F31.gd (t:=5) rfl)) F31.defers (by show RefRes _ _ _ _;exact ⟨Ext.row (HX3.out) _ _ (Nat.le_refl _),rfl⟩)
 ·refine fr_op F11 20 rfl (by decide) (OkR w1 t) ?_ ?_
  ·have e19:=F11.kn 19 _ rfl
   go_wp2_with (go_at_call 9;refine HP.out.mono ?_;rintro e w9 ⟨hx9,ld,rfl,hD9⟩)
   exact ⟨_,rfl,⟨ld,rfl,hx9,hD9⟩⟩
  rintro a12 v9 w2 hOK F12
  clear F11
  obtain ⟨ld,rfl,hx2,hD2⟩:=hOK
  obtain ⟨kd,md,zd,pd,Bd,nd,cd,rfl⟩:=dnodeV_form hD2
  refine fr_mv F12 20 18 (.inl rfl) rfl rfl (by decide) rfl fun _ F13=>?_
  clear F12
  refine fr2 F13 21 (.agg (dnC kd md zd pd Bd nd cd).toArray) w2 rfl (by decide) ?_ fun _ F14=>?_
  ·have e18:=F13.kn 18 _ rfl;go_wp2;exact ⟨_,rfl,rfl,rfl⟩
  clear F13
  refine fr2 F14 22 (.int .i64 0) w2 rfl (by decide) ?_ fun _ F15=>?_
  ·have e18:=F14.kn 18 _ rfl;go_wp2;exact ⟨_,rfl,rfl,rfl⟩
  clear F14
  refine fr_op0 F15 rfl (fun w'=>Chg [wa.heap.size] w2 w' ∧ Blk w' wa.heap.size 38 (dnC kd md zd pd Bd nd cd)) ?_ ?_
  ·have e6:=F15.kn 6 _ rfl
   have e21:=F15.kn 21 _ rfl
   refine store_dn rfl (.tmp 6) (.tmp 21) rfl (g:=wa.heap.size) (F15.ev (t:=6) rfl) (F15.ev (t:=21) rfl) (HB1.out.keep hx2) (dn_len _ _ _ _ _ _ _) ?_
   exact ⟨_,rfl,rowChg4 _ _ _,(HB1.out.keep hx2).row _⟩
  rintro a16 w3 ⟨hc3,hb3⟩ F16
  clear F15
  refine fr_mv F16 22 7 (.inr rfl) rfl rfl (by decide) rfl fun _ F17=>?_
  clear F16
  refine fr_end ?_
  have HX3:=Lib.hid (ext_chg (HX1.out.trans hx2) hc3 (Nat.le_of_lt HG0.out))
  have HB3:=Lib.hid (Blk.chg (HBZ.out.keep hx2) hc3 (by have:=HG0.out;simp;omega))
  go_upto_region 6 with fail
  refine fr_region ?_
  refine fr_mv F17 0 23 (.inl rfl) rfl rfl (by decide) rfl fun _ F18=>?_
  clear F17
  refine fr2 F18 24 (.bool false) w3 rfl (by decide) ?_ fun _ F19=>?_
  ·have e23:=F18.kn 23 _ rfl;go_wp2;exact ⟨_,rfl,rfl,rfl⟩
  clear F18
  refine fr_end ?_
  have HDT:=Lib.hid (DNodeV.chg hD2 hc3 (fun x hx=>by have:=HB1.out.lt;rw [List.mem_singleton.1 hx];omega))
  have HWW:=Lib.hid HBZ.out.lt
  clear hD2
  obtain ⟨bn,hbn⟩:∃ b,t.nullable=b:=⟨_,rfl⟩
  have HBN:=Lib.hid hbn
  clear hbn
  go_upto_if 24 with fail
  refine wp_cond_false (F19.ev (t:=24) rfl) ?_
  go_upto_region 8 with fail
  refine fr_region ?_
  refine fr_mv F19 7 30 (.inl rfl) rfl rfl (by decide) rfl fun _ F20=>?_
  clear F19
  refine fr2 F20 31 (.bool true) w3 rfl (by decide) ?_ fun _ F21=>?_
  ·have e30:=F20.kn 30 _ rfl;go_wp2;exact ⟨_,rfl,rfl,rfl⟩
  clear F20
  refine fr_mv F21 31 32 (.inl rfl) rfl rfl (by decide) rfl fun _ F22=>?_
  clear F21
  refine fr2 F22 33 (.agg (dnC kd md zd pd Bd nd cd).toArray) w3 rfl (by decide) ?_ fun _ F23=>?_
  ·have e6:=F22.kn 6 _ rfl
   have e32:=F22.kn 32 _ rfl
   refine load_dnH (d:=32) rfl rfl (F22.kn 32 _ rfl) (.tmp 6) rfl (g:=wa.heap.size) (F22.ev (t:=6) rfl) hb3 ?_
   exact ⟨_,rfl,rfl,rfl⟩
  clear F22
  refine fr_op F23 34 rfl (by decide) (AtX (.bool bn) w3) ?_ ?_
  ·have e33:=F23.kn 33 _ rfl
   have e32:=F23.kn 32 _ rfl
   go_wp2_with (go_at_call 31;refine (refNullable _ t (Nat.le_refl _) _ _ _ HDT.out).mono ?_;rintro e w9 ⟨rfl,hx9⟩;rw [HBN.out])
   exact ⟨_,rfl,rfl,hx9⟩
  rintro a24 _ w5 ⟨rfl,hx5⟩ F24
  clear F23
  refine fr2 F24 35 (.bool bn) w5 rfl (by decide) ?_ fun _ F25=>?_
  ·have e32:=F24.kn 32 _ rfl;have e34:=F24.kn 34 _ rfl;go_wp2;exact ⟨_,rfl,rfl,rfl⟩
  clear F24
  refine fr_end ?_
  have HB5:=Lib.hid (HB3.out.keep hx5)
  have HX5:=Lib.hid (HX3.out.trans hx5)
  cases bn
  ·go_upto_if 35 with fail
   refine wp_cond_false (F25.ev (t:=35) rfl) ?_
   go_upto_region 10 with fail
   refine fr_region ?_
   refine fr_mv F25 7 36 (.inl rfl) rfl rfl (by decide) rfl fun _ F26=>?_
   clear F25
   refine fr2 F26 37 (.bool false) w5 rfl (by decide) ?_ fun _ F27=>?_
   ·have e36:=F26.kn 36 _ rfl;go_wp2;exact ⟨_,rfl,rfl,rfl⟩
   clear F26
   refine fr_end ?_
   go_upto_if 37 with fail
   refine wp_cond_false (F27.ev (t:=37) rfl) ?_
   go_upto_region 12 with fail
   refine fr_region ?_
   refine fr2 F27 40 (.agg (dnC kd md zd pd Bd nd cd).toArray) w5 rfl (by decide) ?_ fun _ F28=>?_
   ·have e6:=F27.kn 6 _ rfl
    refine load_dn rfl (.tmp 6) rfl (F27.ev (t:=6) rfl) (hb3.keep hx5) ?_
    exact ⟨_,rfl,rfl,rfl⟩
   clear F27
   refine fr_op0 F28 rfl (At1 ((w5.setRow w.heap.size (dnC kd md zd pd Bd nd cd).toArray))) ?_ ?_
   ·have e4:=F28.kn 4 _ rfl
    have e40:=F28.kn 40 _ rfl
    refine store_dn rfl (.tmp 4) (.tmp 40) rfl (g:=w.heap.size) (F28.ev (t:=4) rfl) (F28.ev (t:=40) rfl) HB5.out HZ8.out ?_
    exact ⟨_,rfl,rfl⟩
   rintro a29 _ rfl F29
   clear F28
   refine fr_as F29 5 (.inr rfl) rfl rfl (by decide) fun _ F30=>?_
   clear F29
   refine fr_end ?_
   go_wp2
   exact bodyPost_ret (v:=.tuple #[.agg (dnC kd md zd pd Bd nd cd).toArray,.int .i64 0]) (results_dn2 rfl (F30.gd (t:=4) rfl) (Blk.row HB5.out _) (dn_len _ _ _ _ _ _ _) (F30.gd (t:=5) rfl)) F30.defers (by show RefRes _ _ _ _;rw [noNull_ok HBN.out];exact ⟨Ext.row HX5.out _ _ (Nat.le_refl _),_,rfl,DNodeV.mono (DNodeV.chg (DNodeV.keep HDT.out hx5) (rowChg4 _ _ _) (fun x hx=>by have:=HWW.out;rw [List.mem_singleton.1 hx];omega)) (fun b _ hb=>by have:=HWW.out;omega)⟩)
  ·go_upto_if 35 with fail
   refine wp_cond_true (F25.ev (t:=35) rfl) ?_
   go_upto_region 9 with fail
   refine fr_region ?_
   refine fr_as F25 7 (.inr rfl) rfl rfl (by decide) fun _ F26=>?_
   clear F25
   refine fr_end ?_
   go_upto_region 10 with fail
   refine fr_region ?_
   refine fr_mv F26 7 36 (.inl rfl) rfl rfl (by decide) rfl fun _ F27=>?_
   clear F26
   refine fr2 F27 37 (.bool true) w5 rfl (by decide) ?_ fun _ F28=>?_
   ·have e36:=F27.kn 36 _ rfl;go_wp2;exact ⟨_,rfl,rfl,rfl⟩
   clear F27
   refine fr_end ?_
   go_upto_if 37 with fail
   refine wp_cond_true (F28.ev (t:=37) rfl) ?_
   go_upto_region 11 with fail
   refine fr_region ?_
   refine fr2 F28 38 (.agg (dnC 0 0 false (fun _=>false) none 0 0).toArray) w5 rfl (by decide) ?_ fun _ F29=>?_
   ·refine build_z rfl rfl ?_
    exact ⟨_,rfl,rfl,rfl⟩
   clear F28
   refine fr_mv F29 7 39 (.inl rfl) rfl rfl (by decide) rfl fun _ F30=>?_
   clear F29
   refine fr_op0 F30 rfl (At1 ((w5.setRow w.heap.size (dnC 0 0 false (fun _=>false) none 0 0).toArray))) ?_ ?_
   ·have e4:=F30.kn 4 _ rfl
    have e38:=F30.kn 38 _ rfl
    refine store_dn rfl (.tmp 4) (.tmp 38) rfl (g:=w.heap.size) (F30.ev (t:=4) rfl) (F30.ev (t:=38) rfl) (HB5.out) HZ8.out ?_
    exact ⟨_,rfl,rfl⟩
   rintro a31 _ rfl F31
   clear F30
   refine fr_mv F31 39 5 (.inr rfl) rfl rfl (by decide) rfl fun _ F32=>?_
   clear F31
   refine fr_end ?_
   go_wp2
   exact bodyPost_ret (v:=.tuple #[.agg (dnC 0 0 false (fun _=>false) none 0 0).toArray,.int .i64 15]) (results_dn2 rfl (F32.gd (t:=4) rfl) (Blk.row (HB5.out) _) (dn_len _ _ _ _ _ _ _) (F32.gd (t:=5) rfl)) F32.defers (by show RefRes _ _ _ _;rw [noNull_no HBN.out];exact ⟨Ext.row (HX5.out) _ _ (Nat.le_refl _),rfl⟩)
set_option maxHeartbeats 40000000 in
set_option maxRecDepth 20000 in
theorem refOf24_3 (l:List UInt8) (w:World) :
  Calls Tryz.prog 10 #[.int .i64 3,.string ⟨l.toArray⟩] w fun e w'=>RefRes w (noNull (parseR l)) e w':=by
 have hz8:Tryz.zeroCells38.toList.length=260:=by rw [Array.length_toList];exact zsize40
 have HZ8:=Lib.hid hz8
 have HB0:=Lib.hid (Blk.new w 38 Tryz.zeroCells38)
 have HX0:=Lib.hid (Ext.new1 w (.cells Tryz.zeroCells38 38))
 have hg0:w.heap.size<(w.alloc (.cells Tryz.zeroCells38 38)).heap.size:=by simp
 have HG0:=Lib.hid hg0
 clear hz8 hg0
 obtain ⟨r,hr⟩:∃ r,parseR l=r:=⟨_,rfl⟩
 rw [hr]
 have HRR:=Lib.hid hr
 clear hr
 go_enter Tryz.func10,Tryz.ntmps10
 refine fr_begin 41 [(0,.int .i64 3),(1,.string ⟨l.toArray⟩)] (by refine Fr.cons (Fr.cons (Fr.start ?_ ?_) ?_) ?_ <;> exact rfl) (fun a0 F0=>?_)
 go_upto_region 0 with fail
 refine fr_region ?_
 refine fr_op F0 4 rfl (by decide) (At2 (.pointer (some ⟨w.heap.size,0,none⟩)) ((w.alloc (.cells Tryz.zeroCells38 38)))) ?_ ?_
 ·go_wp2
  exact ⟨_,rfl,rfl,rfl⟩
 rintro a1 _ _ ⟨rfl,rfl⟩ F1
 clear F0
 generalize (w.alloc (.cells Tryz.zeroCells38 38))=wa at *
 refine fr2 F1 5 (.int .i64 0) wa rfl (by decide) ?_ fun _ F2=>?_
 ·go_wp2;exact ⟨_,rfl,rfl,rfl⟩
 clear F1
 refine fr_end ?_
 go_upto_region 1 with fail
 refine fr_region ?_
 refine fr2 F2 8 (.agg (dnC 0 0 false (fun _=>false) none 0 0).toArray) wa rfl (by decide) ?_ fun _ F3=>?_
 ·refine build_z rfl rfl ?_
  exact ⟨_,rfl,rfl,rfl⟩
 clear F2
 refine fr_op F3 6 rfl (by decide) (At2 (.pointer (some ⟨wa.heap.size,0,none⟩)) (wa.alloc (.cells Tryz.zeroCells38 38))) ?_ ?_
 ·go_wp2
  exact ⟨_,rfl,rfl,rfl⟩
 rintro a4 _ _ ⟨rfl,rfl⟩ F4
 clear F3
 refine fr_op0 F4 rfl (fun w'=>Ext wa w' ∧ Blk w' wa.heap.size 38 (dnC 0 0 false (fun _=>false) none 0 0)) ?_ ?_
 ·have e6:=F4.kn 6 _ rfl
  have e8:=F4.kn 8 _ rfl
  refine store_dn_new rfl (.tmp 6) (.tmp 8) rfl (F4.ev (t:=6) rfl) (F4.ev (t:=8) rfl) zsize40 ?_
  exact ⟨_,rfl,Ext.new1 _ _,Blk.newL _ _ _⟩
 rintro a5 w1 ⟨hx1,hb1⟩ F5
 clear F4
 refine fr2 F5 7 (.int .i64 9) w1 rfl (by decide) ?_ fun _ F6=>?_
 ·go_wp2;exact ⟨_,rfl,rfl,rfl⟩
 clear F5
 refine fr_end ?_
 have HBZ:=Lib.hid (HB0.out.keep hx1)
 have HX1:=Lib.hid (HX0.out.trans hx1)
 have HB1:=Lib.hid hb1
 have HXA:=Lib.hid hx1
 clear hx1 hb1 HB0 HX0
 go_upto_region 2 with fail
 refine fr_region ?_
 refine fr_mv F6 0 9 (.inl rfl) rfl rfl (by decide) rfl fun _ F7=>?_
 clear F6
 refine fr2 F7 10 (.bool false) w1 rfl (by decide) ?_ fun _ F8=>?_
 ·have e9:=F7.kn 9 _ rfl;go_wp2;exact ⟨_,rfl,rfl,rfl⟩
 clear F7
 refine fr_end ?_
 go_upto_if 10 with fail
 refine wp_cond_false (F8.ev (t:=10) rfl) ?_
 go_upto_region 4 with fail
 refine fr_region ?_
 refine fr_mv F8 0 16 (.inl rfl) rfl rfl (by decide) rfl fun _ F9=>?_
 clear F8
 refine fr2 F9 17 (.bool false) w1 rfl (by decide) ?_ fun _ F10=>?_
 ·have e16:=F9.kn 16 _ rfl;go_wp2;exact ⟨_,rfl,rfl,rfl⟩
 clear F9
 refine fr_end ?_
 go_upto_if 17 with fail
 refine wp_cond_false (F10.ev (t:=17) rfl) ?_
 go_upto_region 6 with fail
 refine fr_region ?_
 refine fr_mv F10 0 23 (.inl rfl) rfl rfl (by decide) rfl fun _ F11=>?_
 clear F10
 refine fr2 F11 24 (.bool true) w1 rfl (by decide) ?_ fun _ F12=>?_
 ·have e23:=F11.kn 23 _ rfl;go_wp2;exact ⟨_,rfl,rfl,rfl⟩
 clear F11
 refine fr_end ?_
 go_upto_if 24 with fail
 refine wp_cond_true (F12.ev (t:=24) rfl) ?_
 go_upto_region 7 with fail
 refine fr_region ?_
 refine fr_mv F12 1 26 (.inl rfl) rfl rfl (by decide) rfl fun _ F13=>?_
 clear F12
 have HP:=Lib.hid (refParse23 l w1)
 rw [HRR.out] at HP
 rcases r with _ | k | ⟨t,ir,gr⟩
 ·refine fr_op F13 27 rfl (by decide) (fun _ _=>False) ?_ ?_
  ·have e26:=F13.kn 26 _ rfl
   go_wp2_with (go_at_call 30;refine HP.out.mono ?_;rintro e w9 ⟨_,h9⟩;exact h9.elim)
  ·rintro _ _ _ h;exact h.elim
 ·refine fr_op F13 27 rfl (by decide) (AtX (.tuple #[.agg (dnC 0 0 false (fun _=>false) none 0 0).toArray,.int .i64 (k:Nat)]) w1) ?_ ?_
  ·have e26:=F13.kn 26 _ rfl
   go_wp2_with (go_at_call 30;refine HP.out.mono ?_;rintro e w9 ⟨hx9,rfl⟩)
   exact ⟨_,rfl,rfl,hx9⟩
  rintro a14 _ w2 ⟨rfl,hx2⟩ F14
  clear F13
  refine fr_mv F14 27 25 (.inl rfl) rfl rfl (by decide) rfl fun _ F15=>?_
  clear F14
  refine fr2 F15 28 (.agg (dnC 0 0 false (fun _=>false) none 0 0).toArray) w2 rfl (by decide) ?_ fun _ F16=>?_
  ·have e25:=F15.kn 25 _ rfl;go_wp2;exact ⟨_,rfl,rfl,rfl⟩
  clear F15
  refine fr2 F16 29 (.int .i64 (k:Nat)) w2 rfl (by decide) ?_ fun _ F17=>?_
  ·have e25:=F16.kn 25 _ rfl;go_wp2;exact ⟨_,rfl,rfl,rfl⟩
  clear F16
  refine fr_op0 F17 rfl (fun w'=>Chg [wa.heap.size] w2 w' ∧ Blk w' wa.heap.size 38 (dnC 0 0 false (fun _=>false) none 0 0)) ?_ ?_
  ·have e6:=F17.kn 6 _ rfl
   have e28:=F17.kn 28 _ rfl
   refine store_dn rfl (.tmp 6) (.tmp 28) rfl (g:=wa.heap.size) (F17.ev (t:=6) rfl) (F17.ev (t:=28) rfl) (HB1.out.keep hx2) (dn_len _ _ _ _ _ _ _) ?_
   exact ⟨_,rfl,rowChg4 _ _ _,(HB1.out.keep hx2).row _⟩
  rintro a18 w3 ⟨hc3,hb3⟩ F18
  clear F17
  refine fr_mv F18 29 7 (.inr rfl) rfl rfl (by decide) rfl fun _ F19=>?_
  clear F18
  refine fr_end ?_
  have HX3:=Lib.hid (ext_chg (HX1.out.trans hx2) hc3 (Nat.le_of_lt HG0.out))
  have HB3:=Lib.hid (Blk.chg (HBZ.out.keep hx2) hc3 (by have:=HG0.out;simp;omega))
  have hk:=(parseR_err15 HRR.out).1
  have z0:((k:Int) == 0)=false:=by simp;omega
  have z0n:((k:Int) != 0)=true:=by simp;omega
  have HK:=Lib.hid hk
  clear hk
  go_upto_region 8 with fail
  refine fr_region ?_
  refine fr_mv F19 7 30 (.inl rfl) rfl rfl (by decide) rfl fun _ F20=>?_
  clear F19
  refine fr2 F20 31 (.bool false) w3 rfl (by decide) ?_ fun _ F21=>?_
  ·have e30:=F20.kn 30 _ rfl;go_wp2;exact ⟨_,rfl,rfl,rfl⟩
  clear F20
  refine fr_mv F21 31 32 (.inl rfl) rfl rfl (by decide) rfl fun _ F22=>?_
  clear F21
  refine fr2 F22 33 (undef) w3 rfl (by decide) ?_ fun _ F23=>?_
  ·have e32:=F22.kn 32 _ rfl;go_wp2;exact ⟨_,rfl,rfl,rfl⟩
  clear F22
  refine fr2 F23 34 (undef) w3 rfl (by decide) ?_ fun _ F24=>?_
  ·have e32:=F23.kn 32 _ rfl;go_wp2;exact ⟨_,rfl,rfl,rfl⟩
  clear F23
  refine fr2 F24 35 (.bool false) w3 rfl (by decide) ?_ fun _ F25=>?_
  ·have e32:=F24.kn 32 _ rfl;have e34:=F24.kn 34 _ rfl;go_wp2;exact ⟨_,rfl,rfl,rfl⟩
  clear F24
  refine fr_end ?_
  go_upto_if 35 with fail
  refine wp_cond_false (F25.ev (t:=35) rfl) ?_
  go_upto_region 10 with fail
  refine fr_region ?_
  refine fr_mv F25 7 36 (.inl rfl) rfl rfl (by decide) rfl fun _ F26=>?_
  clear F25
  refine fr2 F26 37 (.bool true) w3 rfl (by decide) ?_ fun _ F27=>?_
  ·have e36:=F26.kn 36 _ rfl;go_wp2;exact ⟨_,rfl,rfl,rfl⟩
  clear F26
  refine fr_end ?_
  go_upto_if 37 with fail
  refine wp_cond_true (F27.ev (t:=37) rfl) ?_
  go_upto_region 11 with fail
  refine fr_region ?_
  refine fr2 F27 38 (.agg (dnC 0 0 false (fun _=>false) none 0 0).toArray) w3 rfl (by decide) ?_ fun _ F28=>?_
  ·refine build_z rfl rfl ?_
   exact ⟨_,rfl,rfl,rfl⟩
  clear F27
  refine fr_mv F28 7 39 (.inl rfl) rfl rfl (by decide) rfl fun _ F29=>?_
  clear F28
  refine fr_op0 F29 rfl (At1 ((w3.setRow w.heap.size (dnC 0 0 false (fun _=>false) none 0 0).toArray))) ?_ ?_
  ·have e4:=F29.kn 4 _ rfl
   have e38:=F29.kn 38 _ rfl
   refine store_dn rfl (.tmp 4) (.tmp 38) rfl (g:=w.heap.size) (F29.ev (t:=4) rfl) (F29.ev (t:=38) rfl) (HB3.out) HZ8.out ?_
   exact ⟨_,rfl,rfl⟩
  rintro a30 _ rfl F30
  clear F29
  refine fr_mv F30 39 5 (.inr rfl) rfl rfl (by decide) rfl fun _ F31=>?_
  clear F30
  refine fr_end ?_
  go_wp2
  exact bodyPost_ret (v:=.tuple #[.agg (dnC 0 0 false (fun _=>false) none 0 0).toArray,.int .i64 (k:Nat)]) (results_dn2 rfl (F31.gd (t:=4) rfl) (Blk.row (HB3.out) _) (dn_len _ _ _ _ _ _ _) (F31.gd (t:=5) rfl)) F31.defers (by show RefRes _ _ _ _;exact ⟨Ext.row (HX3.out) _ _ (Nat.le_refl _),rfl⟩)
 ·refine fr_op F13 27 rfl (by decide) (OkR w1 t) ?_ ?_
  ·have e26:=F13.kn 26 _ rfl
   go_wp2_with (go_at_call 30;refine HP.out.mono ?_;rintro e w9 ⟨hx9,ld,rfl,hD9⟩)
   exact ⟨_,rfl,⟨ld,rfl,hx9,hD9⟩⟩
  rintro a14 v9 w2 hOK F14
  clear F13
  obtain ⟨ld,rfl,hx2,hD2⟩:=hOK
  obtain ⟨kd,md,zd,pd,Bd,nd,cd,rfl⟩:=dnodeV_form hD2
  refine fr_mv F14 27 25 (.inl rfl) rfl rfl (by decide) rfl fun _ F15=>?_
  clear F14
  refine fr2 F15 28 (.agg (dnC kd md zd pd Bd nd cd).toArray) w2 rfl (by decide) ?_ fun _ F16=>?_
  ·have e25:=F15.kn 25 _ rfl;go_wp2;exact ⟨_,rfl,rfl,rfl⟩
  clear F15
  refine fr2 F16 29 (.int .i64 0) w2 rfl (by decide) ?_ fun _ F17=>?_
  ·have e25:=F16.kn 25 _ rfl;go_wp2;exact ⟨_,rfl,rfl,rfl⟩
  clear F16
  refine fr_op0 F17 rfl (fun w'=>Chg [wa.heap.size] w2 w' ∧ Blk w' wa.heap.size 38 (dnC kd md zd pd Bd nd cd)) ?_ ?_
  ·have e6:=F17.kn 6 _ rfl
   have e28:=F17.kn 28 _ rfl
   refine store_dn rfl (.tmp 6) (.tmp 28) rfl (g:=wa.heap.size) (F17.ev (t:=6) rfl) (F17.ev (t:=28) rfl) (HB1.out.keep hx2) (dn_len _ _ _ _ _ _ _) ?_
   exact ⟨_,rfl,rowChg4 _ _ _,(HB1.out.keep hx2).row _⟩
  rintro a18 w3 ⟨hc3,hb3⟩ F18
  clear F17
  refine fr_mv F18 29 7 (.inr rfl) rfl rfl (by decide) rfl fun _ F19=>?_
  clear F18
  refine fr_end ?_
  have HX3:=Lib.hid (ext_chg (HX1.out.trans hx2) hc3 (Nat.le_of_lt HG0.out))
  have HB3:=Lib.hid (Blk.chg (HBZ.out.keep hx2) hc3 (by have:=HG0.out;simp;omega))
  have HDT:=Lib.hid (DNodeV.chg hD2 hc3 (fun x hx=>by have:=HB1.out.lt;rw [List.mem_singleton.1 hx];omega))
  have HWW:=Lib.hid HBZ.out.lt
  clear hD2
  obtain ⟨bn,hbn⟩:∃ b,t.nullable=b:=⟨_,rfl⟩
  have HBN:=Lib.hid hbn
  clear hbn
  go_upto_region 8 with fail
  refine fr_region ?_
  refine fr_mv F19 7 30 (.inl rfl) rfl rfl (by decide) rfl fun _ F20=>?_
  clear F19
  refine fr2 F20 31 (.bool true) w3 rfl (by decide) ?_ fun _ F21=>?_
  ·have e30:=F20.kn 30 _ rfl;go_wp2;exact ⟨_,rfl,rfl,rfl⟩
  clear F20
  refine fr_mv F21 31 32 (.inl rfl) rfl rfl (by decide) rfl fun _ F22=>?_
  clear F21
  refine fr2 F22 33 (.agg (dnC kd md zd pd Bd nd cd).toArray) w3 rfl (by decide) ?_ fun _ F23=>?_
  ·have e6:=F22.kn 6 _ rfl
   have e32:=F22.kn 32 _ rfl
   refine load_dnH (d:=32) rfl rfl (F22.kn 32 _ rfl) (.tmp 6) rfl (g:=wa.heap.size) (F22.ev (t:=6) rfl) hb3 ?_
   exact ⟨_,rfl,rfl,rfl⟩
  clear F22
  refine fr_op F23 34 rfl (by decide) (AtX (.bool bn) w3) ?_ ?_
  ·have e33:=F23.kn 33 _ rfl
   have e32:=F23.kn 32 _ rfl
   go_wp2_with (go_at_call 31;refine (refNullable _ t (Nat.le_refl _) _ _ _ HDT.out).mono ?_;rintro e w9 ⟨rfl,hx9⟩;rw [HBN.out])
   exact ⟨_,rfl,rfl,hx9⟩
  rintro a24 _ w5 ⟨rfl,hx5⟩ F24
  clear F23
  refine fr2 F24 35 (.bool bn) w5 rfl (by decide) ?_ fun _ F25=>?_
  ·have e32:=F24.kn 32 _ rfl;have e34:=F24.kn 34 _ rfl;go_wp2;exact ⟨_,rfl,rfl,rfl⟩
  clear F24
  refine fr_end ?_
  have HB5:=Lib.hid (HB3.out.keep hx5)
  have HX5:=Lib.hid (HX3.out.trans hx5)
  cases bn
  ·go_upto_if 35 with fail
   refine wp_cond_false (F25.ev (t:=35) rfl) ?_
   go_upto_region 10 with fail
   refine fr_region ?_
   refine fr_mv F25 7 36 (.inl rfl) rfl rfl (by decide) rfl fun _ F26=>?_
   clear F25
   refine fr2 F26 37 (.bool false) w5 rfl (by decide) ?_ fun _ F27=>?_
   ·have e36:=F26.kn 36 _ rfl;go_wp2;exact ⟨_,rfl,rfl,rfl⟩
   clear F26
   refine fr_end ?_
   go_upto_if 37 with fail
   refine wp_cond_false (F27.ev (t:=37) rfl) ?_
   go_upto_region 12 with fail
   refine fr_region ?_
   refine fr2 F27 40 (.agg (dnC kd md zd pd Bd nd cd).toArray) w5 rfl (by decide) ?_ fun _ F28=>?_
   ·have e6:=F27.kn 6 _ rfl
    refine load_dn rfl (.tmp 6) rfl (F27.ev (t:=6) rfl) (hb3.keep hx5) ?_
    exact ⟨_,rfl,rfl,rfl⟩
   clear F27
   refine fr_op0 F28 rfl (At1 ((w5.setRow w.heap.size (dnC kd md zd pd Bd nd cd).toArray))) ?_ ?_
   ·have e4:=F28.kn 4 _ rfl
    have e40:=F28.kn 40 _ rfl
    refine store_dn rfl (.tmp 4) (.tmp 40) rfl (g:=w.heap.size) (F28.ev (t:=4) rfl) (F28.ev (t:=40) rfl) HB5.out HZ8.out ?_
    exact ⟨_,rfl,rfl⟩
   rintro a29 _ rfl F29
   clear F28
   refine fr_as F29 5 (.inr rfl) rfl rfl (by decide) fun _ F30=>?_
   clear F29
   refine fr_end ?_
   go_wp2
   exact bodyPost_ret (v:=.tuple #[.agg (dnC kd md zd pd Bd nd cd).toArray,.int .i64 0]) (results_dn2 rfl (F30.gd (t:=4) rfl) (Blk.row HB5.out _) (dn_len _ _ _ _ _ _ _) (F30.gd (t:=5) rfl)) F30.defers (by show RefRes _ _ _ _;rw [noNull_ok HBN.out];exact ⟨Ext.row HX5.out _ _ (Nat.le_refl _),_,rfl,DNodeV.mono (DNodeV.chg (DNodeV.keep HDT.out hx5) (rowChg4 _ _ _) (fun x hx=>by have:=HWW.out;rw [List.mem_singleton.1 hx];omega)) (fun b _ hb=>by have:=HWW.out;omega)⟩)
  ·go_upto_if 35 with fail
   refine wp_cond_true (F25.ev (t:=35) rfl) ?_
   go_upto_region 9 with fail
   refine fr_region ?_
   refine fr_as F25 7 (.inr rfl) rfl rfl (by decide) fun _ F26=>?_
   clear F25
   refine fr_end ?_
   go_upto_region 10 with fail
   refine fr_region ?_
   refine fr_mv F26 7 36 (.inl rfl) rfl rfl (by decide) rfl fun _ F27=>?_
   clear F26
   refine fr2 F27 37 (.bool true) w5 rfl (by decide) ?_ fun _ F28=>?_
   ·have e36:=F27.kn 36 _ rfl;go_wp2;exact ⟨_,rfl,rfl,rfl⟩
   clear F27
   refine fr_end ?_
   go_upto_if 37 with fail
   refine wp_cond_true (F28.ev (t:=37) rfl) ?_
   go_upto_region 11 with fail
   refine fr_region ?_
   refine fr2 F28 38 (.agg (dnC 0 0 false (fun _=>false) none 0 0).toArray) w5 rfl (by decide) ?_ fun _ F29=>?_
   ·refine build_z rfl rfl ?_
    exact ⟨_,rfl,rfl,rfl⟩
   clear F28
   refine fr_mv F29 7 39 (.inl rfl) rfl rfl (by decide) rfl fun _ F30=>?_
   clear F29
   refine fr_op0 F30 rfl (At1 ((w5.setRow w.heap.size (dnC 0 0 false (fun _=>false) none 0 0).toArray))) ?_ ?_
   ·have e4:=F30.kn 4 _ rfl
    have e38:=F30.kn 38 _ rfl
    refine store_dn rfl (.tmp 4) (.tmp 38) rfl (g:=w.heap.size) (F30.ev (t:=4) rfl) (F30.ev (t:=38) rfl) (HB5.out) HZ8.out ?_
    exact ⟨_,rfl,rfl⟩
   rintro a31 _ rfl F31
   clear F30
   refine fr_mv F31 39 5 (.inr rfl) rfl rfl (by decide) rfl fun _ F32=>?_
   clear F31
   refine fr_end ?_
   go_wp2
   exact bodyPost_ret (v:=.tuple #[.agg (dnC 0 0 false (fun _=>false) none 0 0).toArray,.int .i64 15]) (results_dn2 rfl (F32.gd (t:=4) rfl) (Blk.row (HB5.out) _) (dn_len _ _ _ _ _ _ _) (F32.gd (t:=5) rfl)) F32.defers (by show RefRes _ _ _ _;rw [noNull_no HBN.out];exact ⟨Ext.row (HX5.out) _ _ (Nat.le_refl _),rfl⟩)
set_option maxHeartbeats 40000000 in
set_option maxRecDepth 20000 in
theorem refOf24_0 (kind:Int) (l:List UInt8) (w:World) (h1:kind ≠ 1) (h2:kind ≠ 2) (h3:kind ≠ 3) :
  Calls Tryz.prog 10 #[.int .i64 kind,.string ⟨l.toArray⟩] w fun e w'=>RefRes w (.err 9) e w':=by
 have hz8:Tryz.zeroCells38.toList.length=260:=by rw [Array.length_toList];exact zsize40
 have HZ8:=Lib.hid hz8
 have HB0:=Lib.hid (Blk.new w 38 Tryz.zeroCells38)
 have HX0:=Lib.hid (Ext.new1 w (.cells Tryz.zeroCells38 38))
 have hg0:w.heap.size<(w.alloc (.cells Tryz.zeroCells38 38)).heap.size:=by simp
 have HG0:=Lib.hid hg0
 clear hz8 hg0
 have z1:(kind == 1)=false:=by simpa using h1
 have z2:(kind == 2)=false:=by simpa using h2
 have z3:(kind == 3)=false:=by simpa using h3
 go_enter Tryz.func10,Tryz.ntmps10
 refine fr_begin 41 [(0,.int .i64 kind),(1,.string ⟨l.toArray⟩)] (by refine Fr.cons (Fr.cons (Fr.start ?_ ?_) ?_) ?_ <;> exact rfl) (fun a0 F0=>?_)
 go_upto_region 0 with fail
 refine fr_region ?_
 refine fr_op F0 4 rfl (by decide) (At2 (.pointer (some ⟨w.heap.size,0,none⟩)) ((w.alloc (.cells Tryz.zeroCells38 38)))) ?_ ?_
 ·go_wp2
  exact ⟨_,rfl,rfl,rfl⟩
 rintro a1 _ _ ⟨rfl,rfl⟩ F1
 clear F0
 generalize (w.alloc (.cells Tryz.zeroCells38 38))=wa at *
 refine fr2 F1 5 (.int .i64 0) wa rfl (by decide) ?_ fun _ F2=>?_
 ·go_wp2;exact ⟨_,rfl,rfl,rfl⟩
 clear F1
 refine fr_end ?_
 go_upto_region 1 with fail
 refine fr_region ?_
 refine fr2 F2 8 (.agg (dnC 0 0 false (fun _=>false) none 0 0).toArray) wa rfl (by decide) ?_ fun _ F3=>?_
 ·refine build_z rfl rfl ?_
  exact ⟨_,rfl,rfl,rfl⟩
 clear F2
 refine fr_op F3 6 rfl (by decide) (At2 (.pointer (some ⟨wa.heap.size,0,none⟩)) (wa.alloc (.cells Tryz.zeroCells38 38))) ?_ ?_
 ·go_wp2
  exact ⟨_,rfl,rfl,rfl⟩
 rintro a4 _ _ ⟨rfl,rfl⟩ F4
 clear F3
 refine fr_op0 F4 rfl (fun w'=>Ext wa w' ∧ Blk w' wa.heap.size 38 (dnC 0 0 false (fun _=>false) none 0 0)) ?_ ?_
 ·have e6:=F4.kn 6 _ rfl
  have e8:=F4.kn 8 _ rfl
  refine store_dn_new rfl (.tmp 6) (.tmp 8) rfl (F4.ev (t:=6) rfl) (F4.ev (t:=8) rfl) zsize40 ?_
  exact ⟨_,rfl,Ext.new1 _ _,Blk.newL _ _ _⟩
 rintro a5 w1 ⟨hx1,hb1⟩ F5
 clear F4
 refine fr2 F5 7 (.int .i64 9) w1 rfl (by decide) ?_ fun _ F6=>?_
 ·go_wp2;exact ⟨_,rfl,rfl,rfl⟩
 clear F5
 refine fr_end ?_
 have HBZ:=Lib.hid (HB0.out.keep hx1)
 have HX1:=Lib.hid (HX0.out.trans hx1)
 have HB1:=Lib.hid hb1
 have HXA:=Lib.hid hx1
 clear hx1 hb1 HB0 HX0
 go_upto_region 2 with fail
 refine fr_region ?_
 refine fr_mv F6 0 9 (.inl rfl) rfl rfl (by decide) rfl fun _ F7=>?_
 clear F6
 refine fr2 F7 10 (.bool false) w1 rfl (by decide) ?_ fun _ F8=>?_
 ·have e9:=F7.kn 9 _ rfl;go_wp2;exact ⟨_,rfl,rfl,rfl⟩
 clear F7
 refine fr_end ?_
 go_upto_if 10 with fail
 refine wp_cond_false (F8.ev (t:=10) rfl) ?_
 go_upto_region 4 with fail
 refine fr_region ?_
 refine fr_mv F8 0 16 (.inl rfl) rfl rfl (by decide) rfl fun _ F9=>?_
 clear F8
 refine fr2 F9 17 (.bool false) w1 rfl (by decide) ?_ fun _ F10=>?_
 ·have e16:=F9.kn 16 _ rfl;go_wp2;exact ⟨_,rfl,rfl,rfl⟩
 clear F9
 refine fr_end ?_
 go_upto_if 17 with fail
 refine wp_cond_false (F10.ev (t:=17) rfl) ?_
 go_upto_region 6 with fail
 refine fr_region ?_
 refine fr_mv F10 0 23 (.inl rfl) rfl rfl (by decide) rfl fun _ F11=>?_
 clear F10
 refine fr2 F11 24 (.bool false) w1 rfl (by decide) ?_ fun _ F12=>?_
 ·have e23:=F11.kn 23 _ rfl;go_wp2;exact ⟨_,rfl,rfl,rfl⟩
 clear F11
 refine fr_end ?_
 go_upto_if 24 with fail
 refine wp_cond_false (F12.ev (t:=24) rfl) ?_
 go_upto_region 8 with fail
 refine fr_region ?_
 refine fr_mv F12 7 30 (.inl rfl) rfl rfl (by decide) rfl fun _ F13=>?_
 clear F12
 refine fr2 F13 31 (.bool false) w1 rfl (by decide) ?_ fun _ F14=>?_
 ·have e30:=F13.kn 30 _ rfl;go_wp2;exact ⟨_,rfl,rfl,rfl⟩
 clear F13
 refine fr_mv F14 31 32 (.inl rfl) rfl rfl (by decide) rfl fun _ F15=>?_
 clear F14
 refine fr2 F15 33 (undef) w1 rfl (by decide) ?_ fun _ F16=>?_
 ·have e32:=F15.kn 32 _ rfl;go_wp2;exact ⟨_,rfl,rfl,rfl⟩
 clear F15
 refine fr2 F16 34 (undef) w1 rfl (by decide) ?_ fun _ F17=>?_
 ·have e32:=F16.kn 32 _ rfl;go_wp2;exact ⟨_,rfl,rfl,rfl⟩
 clear F16
 refine fr2 F17 35 (.bool false) w1 rfl (by decide) ?_ fun _ F18=>?_
 ·have e32:=F17.kn 32 _ rfl;have e34:=F17.kn 34 _ rfl;go_wp2;exact ⟨_,rfl,rfl,rfl⟩
 clear F17
 refine fr_end ?_
 go_upto_if 35 with fail
 refine wp_cond_false (F18.ev (t:=35) rfl) ?_
 go_upto_region 10 with fail
 refine fr_region ?_
 refine fr_mv F18 7 36 (.inl rfl) rfl rfl (by decide) rfl fun _ F19=>?_
 clear F18
 refine fr2 F19 37 (.bool true) w1 rfl (by decide) ?_ fun _ F20=>?_
 ·have e36:=F19.kn 36 _ rfl;go_wp2;exact ⟨_,rfl,rfl,rfl⟩
 clear F19
 refine fr_end ?_
 go_upto_if 37 with fail
 refine wp_cond_true (F20.ev (t:=37) rfl) ?_
 go_upto_region 11 with fail
 refine fr_region ?_
 refine fr2 F20 38 (.agg (dnC 0 0 false (fun _=>false) none 0 0).toArray) w1 rfl (by decide) ?_ fun _ F21=>?_
 ·refine build_z rfl rfl ?_
  exact ⟨_,rfl,rfl,rfl⟩
 clear F20
 refine fr_mv F21 7 39 (.inl rfl) rfl rfl (by decide) rfl fun _ F22=>?_
 clear F21
 refine fr_op0 F22 rfl (At1 ((w1.setRow w.heap.size (dnC 0 0 false (fun _=>false) none 0 0).toArray))) ?_ ?_
 ·have e4:=F22.kn 4 _ rfl
  have e38:=F22.kn 38 _ rfl
  refine store_dn rfl (.tmp 4) (.tmp 38) rfl (g:=w.heap.size) (F22.ev (t:=4) rfl) (F22.ev (t:=38) rfl) (HBZ.out) HZ8.out ?_
  exact ⟨_,rfl,rfl⟩
 rintro a23 _ rfl F23
 clear F22
 refine fr_mv F23 39 5 (.inr rfl) rfl rfl (by decide) rfl fun _ F24=>?_
 clear F23
 refine fr_end ?_
 go_wp2
 exact bodyPost_ret (v:=.tuple #[.agg (dnC 0 0 false (fun _=>false) none 0 0).toArray,.int .i64 9]) (results_dn2 rfl (F24.gd (t:=4) rfl) (Blk.row (HBZ.out) _) (dn_len _ _ _ _ _ _ _) (F24.gd (t:=5) rfl)) F24.defers (by show RefRes _ _ _ _;exact ⟨Ext.row (HX1.out) _ _ (Nat.le_refl _),rfl⟩)
theorem refOf24 (kind:Int) (l:List UInt8) (w:World) :
  Calls Tryz.prog 10 #[.int .i64 kind,.string ⟨l.toArray⟩] w fun e w'=>RefRes w (ofG kind l) e w':=by
 by_cases h1:kind=1
 ·subst h1;rw [of_1];exact refOf24_1 l w
 by_cases h2:kind=2
 ·subst h2;rw [of_2];exact refOf24_2 l w
 by_cases h3:kind=3
 ·subst h3;rw [of_3];exact refOf24_3 l w
 have h9:ofG kind l=.err 9:=by unfold ofG;rw [if_neg h1,if_neg h2,if_neg h3]
 rw [h9]
 exact refOf24_0 kind l w h1 h2 h3
end Go.Proofs.YtigmdlchbjanoaaGreatDoor
