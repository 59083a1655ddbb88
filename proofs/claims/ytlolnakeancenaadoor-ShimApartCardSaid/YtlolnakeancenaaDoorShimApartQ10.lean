/- ids.Right, ids.Less, ids.Check, attr.Check. -/
import Derived.Test.YtlolnakeancenaaDoorShimApartQ5
import Derived.WalkKit
import Derived.WalkSpells
import Derived.WalkLawsBesides
import Derived.Deep.RegionHeld3
import Derived.Deep.DrawnRows
import Derived.Deep.DeepCutAuto
import Derived.Deep.DeepFit
import Derived.Lib.Hide
import Derived.BigQuiet
import Derived.Deep.QuietTactic
namespace Go.Proofs.YtlolnakeancenaaDoor
open Go.RowKit
set_option linter.unusedVariables false
set_option linter.unusedSimpArgs false
set_option maxRecDepth 20000
attribute [local go_sem ↓] Go.wp_at_zero Go.wp_at_succ
attribute [local go_sem] World.cell?_alloc_some frozen_alloc_some
theorem idRight_no {x:IdP} (h:¬(0≤x.1∧x.1<7∧0≤x.2∧x.2≤1099511627776)):idRight x=false:=by
 rw [←Bool.not_eq_true];intro h1;exact h (idRight_iff.1 h1)
set_option maxHeartbeats 400000 in
theorem idright_any (a b:Int) (w:World):
  Calls Tryd.prog 67 #[.agg #[.int .i64 a,.int .i64 b]] w (Gives w (.bool (idRight (a,b)))):=by
 go_enter Tryd.func67,Tryd.ntmps67
 go_wp2
 all_goals go_ret
 all_goals refine ⟨?_,((Below.refl _ _).alloc (Nat.le_refl _) _)⟩
 all_goals
  by_cases hr:0≤a∧a<7∧0≤b∧b≤1099511627776
  ·have hr':=idRight_iff.2 (show 0≤((a,b):IdP).1∧((a,b):IdP).1<7∧0≤((a,b):IdP).2∧((a,b):IdP).2≤1099511627776 from hr)
   simp [hr'];try omega
  ·have hr':=idRight_no (show ¬(0≤((a,b):IdP).1∧((a,b):IdP).1<7∧0≤((a,b):IdP).2∧((a,b):IdP).2≤1099511627776) from hr)
   simp [hr'];try omega
set_option maxHeartbeats 400000 in
theorem idless_any (a b c d:Int) (w:World):
  Calls Tryd.prog 103 #[.agg #[.int .i64 a,.int .i64 b],.agg #[.int .i64 c,.int .i64 d]] w (Gives w (.bool (decide (idLt (a,b) (c,d))))):=by
 have h:=fun W=>order_any a b c d W
 have hlt:= @idCmp_lt (a,b) (c,d)
 have he:decide (idLt (a,b) (c,d))=decide (idCmp (a,b) (c,d)<0):=by rw [Bool.eq_iff_iff];simp only [decide_eq_true_eq];exact hlt.symm
 rw [he]
 clear he hlt
 generalize idCmp (a,b) (c,d)=r at h ⊢
 by_cases hr:r<0
 ·go_enter Tryd.func103,Tryd.ntmps103
  go_wp2_with (go_at_call 94;refine (h _).mono ?_;rintro e w1 ⟨rfl,hb1,_⟩)
  go_ret
  exact ⟨by simp [hr],blw⟩
 ·go_enter Tryd.func103,Tryd.ntmps103
  go_wp2_with (go_at_call 94;refine (h _).mono ?_;rintro e w1 ⟨rfl,hb1,_⟩)
  go_ret
  exact ⟨by simp [hr];try omega,blw⟩
/-- What the loop of a set's check has seen. -/
def seenOk (l:List IdP):Bool:=decide ((∀x∈l,idRight x=true)∧Asc l)
theorem idsOk_seen {l:List IdP}:idsOk l=(seenOk l&&decide (l.length≤4096)):=by
 rw [Bool.eq_iff_iff,idsOk_iff,Bool.and_eq_true,seenOk,decide_eq_true_eq,decide_eq_true_eq,and_assoc]
theorem seenOk_nil:seenOk []=true:=by simp [seenOk]
theorem seenOk_step {l:List IdP} {j:Nat} {x:IdP} (h:seenOk (l.take j)=true) (hx:l[j]? =some x) (hr:idRight x=true) (hl:∀y,0<j→l[j - 1]? =some y→idLt y x):seenOk (l.take (j+1))=true:=by
 unfold seenOk at*
 rw [decide_eq_true_eq] at*
 rw [List.take_add_one,hx]
 simp only [Option.toList]
 obtain ⟨h1,h2⟩:=h
 refine ⟨fun z hz=>?_,?_⟩
 ·rcases List.mem_append.1 hz with hz|hz
  ·exact h1 z hz
  ·simp at hz;subst hz;exact hr
 ·refine List.pairwise_append.2 ⟨h2,by simp,fun a ha b hb=>?_⟩
  simp at hb
  subst hb
  obtain ⟨hjx,_⟩:=List.getElem?_eq_some_iff.1 hx
  have hlen:(l.take j).length=j:=by rw [List.length_take];omega
  obtain ⟨i,hi,rfl⟩:=List.getElem_of_mem ha
  have hjl:j - 1<l.length:=by omega
  have hlast:=hl l[j - 1] (by omega) (List.getElem?_eq_getElem hjl)
  rcases Nat.lt_or_ge i (j - 1) with hi2|hi2
  ·refine idLt_trans ?_ hlast
   have:=List.pairwise_iff_getElem.1 h2 i (j - 1) (by omega) (by omega) hi2
   simpa using this
  ·have hij:i=j - 1:=by omega
   subst hij
   simpa using hlast
theorem seenOk_no {l:List IdP} {j:Nat} {x:IdP} (hx:l[j]? =some x) (h:idRight x=false∨∃y,0<j∧l[j - 1]? =some y∧¬idLt y x):idsOk l=false:=by
 rw [←Bool.not_eq_true,idsOk_iff]
 rintro ⟨h1,h2,_⟩
 obtain ⟨hj,rfl⟩:=List.getElem?_eq_some_iff.1 hx
 rcases h with h|⟨y,h0,hy,hn⟩
 ·rw [h1 _ (List.getElem_mem hj)] at h;cases h
 ·obtain ⟨hj2,rfl⟩:=List.getElem?_eq_some_iff.1 hy
  exact hn (List.pairwise_iff_getElem.1 h2 (j - 1) j hj2 hj (by omega))
theorem below_one1 {w:World} (o:Obj):Below w.heap.size w (w.alloc o):=(Below.refl _ _).alloc (Nat.le_refl _) o
abbrev CkS (w:World) (b o:Nat) (r n r2 n2:Int) (wx:World):Prop:=Below w.heap.size w wx∧w.heap.size<wx.heap.size∧wx.cell? ⟨w.heap.size,0,none⟩=some (.int .i64 r)∧wx.cell? ⟨w.heap.size,1,none⟩=some (.int .i64 n)∧wx.cell? ⟨b,o,none⟩=some (.int .i64 r2)∧wx.cell? ⟨b,o+1,none⟩=some (.int .i64 n2)
theorem CkS.start {w:World} {b o:Nat} {r n r2 n2:Int} (h0:w.cell? ⟨b,o,none⟩=some (.int .i64 r2)) (h1:w.cell? ⟨b,o+1,none⟩=some (.int .i64 n2)):CkS w b o r n r2 n2 (w.alloc (.cells #[.int .i64 r,.int .i64 n] 41)):=
 ⟨below_one1 _,by simp,(new_cell w #[.int .i64 r,.int .i64 n] 41 0 rfl).1,(new_cell w #[.int .i64 r,.int .i64 n] 41 1 rfl).1,cell_alloc h0,cell_alloc h1⟩
theorem CkS.drew {w W:World} {b o:Nat} {r n r2 n2:Int} (h:CkS w b o r n r2 n2 W):CkS w b o r n r2 n2 W.drew:=⟨h.1.drew,h.2⟩
theorem CkS.keep {w W w1:World} {b o:Nat} {r n r2 n2:Int} (hb:Below W.heap.size W w1) (h:CkS w b o r n r2 n2 W):CkS w b o r n r2 n2 w1:=
 ⟨h.1.trans (hb.mono (by have:=h.1.size;omega)),by have:=hb.size;have:=h.2.1;omega,cell_keep hb h.2.2.1,cell_keep hb h.2.2.2.1,cell_keep hb h.2.2.2.2.1,cell_keep hb h.2.2.2.2.2⟩
theorem CkS.alloc {w W:World} {b o:Nat} {r n r2 n2:Int} (h:CkS w b o r n r2 n2 W) (ob:Obj):CkS w b o r n r2 n2 (W.alloc ob):=h.keep (below_one1 ob)
set_option maxHeartbeats 4000000 in
theorem idscheck_any (A:Option Addr) (m c:Nat) (l:List IdP) (w:World) (h1:IdsAt w A m l):
  Calls Tryd.prog 92 #[.slice A m c] w (Gives w (.bool (idsOk l))):=by
 generalize hR:idsOk l=R
 have HR:=Lib.hid hR
 have H1:=Lib.hid h1
 have Hm:=Lib.hid h1.1
 have hc:=h1.2.1
 clear hR h1
 have hmm:m≤9223372036854775807:=by unfold maxLen at hc;omega
 have hri:=fun a b W=>idright_any a b W
 have hle:=fun a b c d W=>idless_any a b c d W
 go_enter Tryd.func92,Tryd.ntmps92
 go_wp2_with fail
 go_loopw [7] (fun s7 wr=>∃j:Nat,j≤m∧s7= .int .i64 j∧seenOk (l.take j)=true∧Below w.heap.size w wr) (fun s7 _=>m - (intOf s7).toNat)
 case atStart=>exact ⟨0,by omega,rfl,seenOk_nil,blw⟩
 case round=>
  obtain ⟨j,hj,rfl,htk,hbr⟩:=hrel
  have hzr:=hbr.size
  have Htk:=Lib.hid htk
  clear htk
  by_cases hlt:j<m
  ·obtain ⟨r,n,b,o,e1,_,_,rfl,p0,p1⟩:=(H1.out.keep hbr).at_ hlt
   have E1:=Lib.hid e1
   clear e1
   have j0:(0:Int)≤(j:Int):=by omega
   have j1:(j:Int)<(m:Int):=by omega
   have hri1:=fun W=>hri r n W
   clear hri
   obtain ⟨g,hg⟩:∃g,g=idRight (r,n):=⟨_,rfl⟩
   rw [←hg] at hri1
   have Hg:=Lib.hid hg
   clear hg
   cases g
   ·have hfin:R=false:=by rw [←HR.out];exact seenOk_no E1.out (.inl Hg.out.symm)
    subst hfin
    have hun:undef=Value.tuple #[]:=rfl
    clear hle
    have hpre:CkS wr b (o+j*2) r n r n (wr.alloc (.cells #[.int .i64 r,.int .i64 n] 41)):=CkS.start (by assumption) (by assumption)
    go_upto_region 4 with fail
    first|(go_region_law ((go_simp;go_at_call 67;(with_reducible refine (hri1 _).mono ?_);rintro e w1 ⟨rfl,hb1⟩;have hz1:=hb1.size;(try simp at hz1))))|fail
    all_goals
     go_wp2_with fail
     go_ret
     exact ⟨rfl,blw⟩
   ·by_cases h0:j=0
    ·have hz0:¬((0:Int)<(j:Int)):=by omega
     have Hnx:=Lib.hid (seenOk_step Htk.out E1.out Hg.out.symm (fun y h=>absurd h (by omega)))
     clear h0
     clear hle
     have hpre:CkS wr b (o+j*2) r n r n (wr.alloc (.cells #[.int .i64 r,.int .i64 n] 41)):=CkS.start (by assumption) (by assumption)
     go_upto_region 4 with fail
     obtain ⟨J,hJ⟩:∃J:Int,J=(j:Int):=⟨_,rfl⟩
     rw [←hJ]
     have hzb:decide ((0:Int)<J)=false:=by rw [hJ];simp;omega
     have HJ:=Lib.hid hJ
     clear hJ hz0 j0 j1
     first|(go_region_law ((go_simp;go_at_call 67;(with_reducible refine (hri1 _).mono ?_);rintro e w1 ⟨rfl,hb1⟩;have hz1:=hb1.size;(try simp at hz1))))|fail
     all_goals (have hJ:=HJ.out;subst hJ)
     all_goals
      go_wp2_with fail
      go_roundw
      case rel=>exact ⟨j+1,by omega,by go_num,Hnx.out,blw⟩
      case measure=>simp [intOf];omega
    ·obtain ⟨r2,n2,b2,o2,e2,_,_,e3,q0,q1⟩:=(H1.out.keep hbr).at_ (show j - 1<m by omega)
     injection e3 with e3
     injection e3 with e3 e4
     subst e3 e4
     have E2:=Lib.hid e2
     clear e2
     have hle1:=fun W=>hle r2 n2 r n W
     obtain ⟨x,hx⟩:∃x,x=decide (idLt (r2,n2) (r,n)):=⟨_,rfl⟩
     rw [←hx] at hle1
     have Hx:=Lib.hid hx
     clear hx hle
     obtain ⟨k,hk⟩:∃k,j=k+1:=⟨j - 1,by omega⟩
     rw [show j - 1=k by omega] at q0 q1 E2
     have hk0:(0:Int)<(j:Int):=by omega
     have hk1:IntKind.i64.wrap ((j:Int) - 1)=(k:Int):=by rw [show (j:Int) - 1=k by omega];exact IntWalk.i64_in _ (by omega)
     have hk2:(0:Int)≤(k:Int):=by omega
     have hk3:(k:Int)<(m:Int):=by omega
     have Hk:=Lib.hid hk
     clear hk h0
     cases x
     ·have hfin:R=false:=by
       rw [←HR.out]
       exact seenOk_no E1.out (.inr ⟨_,by have:=Hk.out;omega,by rw [show j - 1=k by have:=Hk.out;omega];exact E2.out,of_decide_eq_false Hx.out.symm⟩)
      subst hfin
      have hpre:CkS wr b (o+k*2) r n r2 n2 (wr.alloc (.cells #[.int .i64 r,.int .i64 n] 41)):=CkS.start (by assumption) (by assumption)
      go_upto_region 4 with fail
      obtain ⟨J,hJ⟩:∃J:Int,J=(j:Int):=⟨_,rfl⟩
      rw [←hJ]
      have hzb:decide ((0:Int)<J)=true:=by rw [hJ];exact decide_eq_true hk0
      have hzc:(0:Int)<J:=of_decide_eq_true hzb
      have hkJ:IntKind.i64.wrap (J - 1)=(k:Int):=by rw [hJ];exact hk1
      have HJ:=Lib.hid hJ
      clear hJ hk0 hk1 j0 j1
      go_region_held3 (fun wx=>Below wr.heap.size wr wx∧wr.heap.size<wx.heap.size∧wx.cell? ⟨wr.heap.size,0,none⟩=some (.int .i64 r)∧wx.cell? ⟨wr.heap.size,1,none⟩=some (.int .i64 n)∧wx.cell? ⟨b,o+k*2,none⟩=some (.int .i64 r2)∧wx.cell? ⟨b,o+k*2+1,none⟩=some (.int .i64 n2)) ((repeat' first|with_reducible assumption|with_reducible refine CkS.drew ?_|with_reducible refine CkS.alloc ?_ _|with_reducible refine CkS.keep (by with_reducible assumption) ?_)) (first|(go_at_call 67;(with_reducible refine (hri1 _).mono ?_);rintro e w1 ⟨rfl,hb1⟩;have hz1:=hb1.size;(try simp at hz1))|(go_at_call 103;(with_reducible refine (hle1 _).mono ?_);rintro e w2 ⟨rfl,hb2⟩;have hz2:=hb2.size;(try simp at hz2)))
      all_goals (have hJ:=HJ.out;subst hJ)
      all_goals
       go_wp2_with fail
       go_ret
       exact ⟨rfl,blw⟩
     ·have Hnx:=Lib.hid (seenOk_step Htk.out E1.out Hg.out.symm (fun y _ h=>by
       have h2:=E2.out
       rw [show j - 1=k by have:=Hk.out;omega,h2] at h
       injection h with h
       subst h
       exact of_decide_eq_true Hx.out.symm))
      have hpre:CkS wr b (o+k*2) r n r2 n2 (wr.alloc (.cells #[.int .i64 r,.int .i64 n] 41)):=CkS.start (by assumption) (by assumption)
      go_upto_region 4 with fail
      obtain ⟨J,hJ⟩:∃J:Int,J=(j:Int):=⟨_,rfl⟩
      rw [←hJ]
      have hzb:decide ((0:Int)<J)=true:=by rw [hJ];exact decide_eq_true hk0
      have hzc:(0:Int)<J:=of_decide_eq_true hzb
      have hkJ:IntKind.i64.wrap (J - 1)=(k:Int):=by rw [hJ];exact hk1
      have HJ:=Lib.hid hJ
      clear hJ hk0 hk1 j0 j1
      go_region_held3 (fun wx=>Below wr.heap.size wr wx∧wr.heap.size<wx.heap.size∧wx.cell? ⟨wr.heap.size,0,none⟩=some (.int .i64 r)∧wx.cell? ⟨wr.heap.size,1,none⟩=some (.int .i64 n)∧wx.cell? ⟨b,o+k*2,none⟩=some (.int .i64 r2)∧wx.cell? ⟨b,o+k*2+1,none⟩=some (.int .i64 n2)) ((repeat' first|with_reducible assumption|with_reducible refine CkS.drew ?_|with_reducible refine CkS.alloc ?_ _|with_reducible refine CkS.keep (by with_reducible assumption) ?_)) (first|(go_at_call 67;(with_reducible refine (hri1 _).mono ?_);rintro e w1 ⟨rfl,hb1⟩;have hz1:=hb1.size;(try simp at hz1))|(go_at_call 103;(with_reducible refine (hle1 _).mono ?_);rintro e w2 ⟨rfl,hb2⟩;have hz2:=hb2.size;(try simp at hz2)))
      all_goals (have hJ:=HJ.out;subst hJ)
      all_goals
       go_wp2_with fail
       go_roundw
       case rel=>exact ⟨j+1,by omega,by go_num,Hnx.out,blw⟩
       case measure=>simp [intOf];omega
  ·have hfin:R=decide (l.length≤4096):=by
    rw [←HR.out,idsOk_seen]
    have h:=Htk.out
    rw [List.take_of_length_le (by have:=Hm.out;omega)] at h
    rw [h,Bool.true_and]
   rw [←Hm.out] at hfin
   subst hfin
   by_cases h4:m≤4096
   ·have h4':(m:Int)≤4096:=by omega
    go_wp2_with fail
    go_ret
    exact ⟨by simp [h4],blw⟩
   ·have h4':¬(m:Int)≤4096:=by omega
    go_wp2_with fail
    go_ret
    exact ⟨by simp [h4];try omega,blw⟩
end Go.Proofs.YtlolnakeancenaaDoor
