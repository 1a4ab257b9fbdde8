/- Put together: Cl15, Cl16. -/
import Derived.Test.YtigmdlchbjanoaaDoorPTgE
namespace Go.Proofs.YtigmdlchbjanoaaDoor
open Go Go.RowKit
attribute [local irreducible] wd signT runsT cnt
set_option maxHeartbeats 2000000 in
set_option maxRecDepth 20000 in
theorem clText (p:Nat→Bool) (w:World) (hT:Tab w) :
  Calls Tryd.prog 35 #[sp p] w fun e w'=>e=.returned (.string ⟨(textT p).toArray⟩)∧Ext w w':=by
 have hl9:=runs_len (fun _=>true) 256
 have hl8:=runs_len p 256
 have HT:=Lib.hid hT
 obtain ⟨n,hn⟩:∃ n,cnt p 256=n:=⟨_,rfl⟩
 have hn6:n≤256:=by rw [← hn];exact cnt_le _ _
 have hw:textT p=if n=0 then [91,94] ++ runsT (fun _=>true) 256 ++ [93] else if n=1 then signT (lstF p 256 0) else if n=256 then [46] else [91] ++ runsT p 256 ++ [93]:=by unfold textT;rw [hn]
 rw [hw]
 have HN:=Lib.hid hn
 clear hn hw hT
 by_cases h0:n=0
 ·subst h0
  rw [if_pos rfl]
  unfold sp
  go_enter Tryd.func35,Tryd.ntmps35
  go_wp2_with (first
   | (go_at_call 44;refine (clRuns (fun _=>true) _).mono ?_;rintro e w3 ⟨rfl,hx3⟩)
   | (go_at_call 45;refine (setAll _).mono ?_;rintro e w2 ⟨rfl,hx2⟩)
   | (go_at_call 43;refine (setLen p _).mono ?_;rintro e w1 ⟨rfl,hx1⟩;rw [HN.out]))
  go_ret
  exact ⟨by simp,(((Ext.new1 _ _).trans hx1).trans hx2).trans hx3⟩
 ·rw [if_neg h0]
  by_cases h1:n=1
  ·subst h1
   rw [if_pos rfl]
   obtain ⟨m,hm⟩:=cnt_sole HN.out
   rw [hm.lst]
   have hm6:=hm.1
   unfold sp
   go_enter Tryd.func35,Tryd.ntmps35
   go_wp2_with (first
    | (have:=hx2;go_at_call 46;refine (clSign m hm6 _).mono ?_;rintro e w3 ⟨rfl,hx3⟩)
    | (have:=hx1;go_at_call 47;refine (setLeast p m hm _ (HT.out.keep ((Ext.new1 _ _).trans hx1))).mono ?_;rintro e w2 ⟨rfl,hx2⟩)
    | (go_at_call 43;refine (setLen p _).mono ?_;rintro e w1 ⟨rfl,hx1⟩;rw [HN.out];obtain ⟨y0,y1,y2,y3⟩:=((SB.new (w:=w) rfl p).keep hx1).cells))
   go_ret
   exact ⟨by simp,(((Ext.new1 _ _).trans hx1).trans hx2).trans hx3⟩
  ·rw [if_neg h1]
   by_cases h2:n=256
   ·subst h2
    rw [if_pos rfl]
    unfold sp
    go_enter Tryd.func35,Tryd.ntmps35
    go_wp2_with (go_at_call 43;refine (setLen p _).mono ?_;rintro e w1 ⟨rfl,hx1⟩;rw [HN.out])
    go_ret
    exact ⟨by simp,(Ext.new1 _ _).trans hx1⟩
   ·rw [if_neg h2]
    have g0:((n:Int) == 0)=false:=by simpa using h0
    have g1:((n:Int) == 1)=false:=by simp;omega
    have g2:((n:Int) == 256)=false:=by simp;omega
    unfold sp
    go_enter Tryd.func35,Tryd.ntmps35
    go_wp2_with (first
     | (go_at_call 44;refine (clRuns p _).mono ?_;rintro e w2 ⟨rfl,hx2⟩)
     | (go_at_call 43;refine (setLen p _).mono ?_;rintro e w1 ⟨rfl,hx1⟩;rw [HN.out];obtain ⟨y0,y1,y2,y3⟩:=((SB.new (w:=w) rfl p).keep hx1).cells))
    go_ret
    exact ⟨by simp,((Ext.new1 _ _).trans hx1).trans hx2⟩
end Go.Proofs.YtigmdlchbjanoaaDoor
namespace Go.Proofs.YtigmdlchbjanoaaDoor
open Go Go.RowKit
attribute [local irreducible] signT runsT cnt
end Go.Proofs.YtigmdlchbjanoaaDoor
