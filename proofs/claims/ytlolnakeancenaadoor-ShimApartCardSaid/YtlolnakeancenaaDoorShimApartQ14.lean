/- The walks of codec.Same and of slices.EqualFunc. -/
import Derived.Test.YtlolnakeancenaaDoorShimApartQ11
namespace Go.Proofs.YtlolnakeancenaaDoor
open Go.RowKit
set_option linter.unusedVariables false
set_option linter.unusedSimpArgs false
set_option maxRecDepth 20000
attribute [local go_sem ↓] Go.wp_at_zero Go.wp_at_succ
attribute [local go_sem] World.cell?_alloc_some frozen_alloc_some
attribute [local go_sem] lt2 lt3 lt4 lt5
attribute [local simp] lt2 lt3 lt4 lt5
theorem Items.elem {w:World} {A:Option Addr} {m c:Nat} {l:List Tree} (h:Items w A m c l) {i:Nat} {t:Tree} (hi:l[i]? =some t):∃ad u,A=some ad∧Holds w t u∧Cells4 w (ad.add (i*4)) u:=
 (h.node (k:=2) (n:=0) (s:=ByteArray.empty) (by decide) (by decide) (by decide)).elem hi
open Classical in
/-- Two lists are one. -/
noncomputable def lsame (l m:List Tree):Bool:=decide (l=m)
set_option maxHeartbeats 4000000 in
theorem equalfunc_any (l l2:List Tree) (A A2:Option Addr) (m c m2 c2:Nat) (w:World) (h1:Items w A m c l) (h2:Items w A2 m2 c2 l2)
  (ih:∀t∈l,∀(u:Tree) (v x:Value) (w:World),Holds w t v→Holds w u x→Calls Tryd.prog 15 #[v,x] w (Gives w (.bool (tsame t u)))):
  Calls Tryd.prog 33 #[.slice A m c,.slice A2 m2 c2,.func (.func 15) #[] #[]] w (Gives w (.bool (lsame l l2))):=by
 generalize hR:lsame l l2=R
 have HR:=Lib.hid hR
 have H1:=Lib.hid h1
 have H2:=Lib.hid h2
 have Ih:=Lib.hid ih
 have Hm:=Lib.hid h1.1
 have Hm2:=Lib.hid h2.1
 have hc:=h1.2.2.1
 have hmc:=h1.2.1
 have hmc2:=h2.2.1
 have hc2:=h2.2.2.1
 clear hR h1 h2 ih
 by_cases e4:m=m2
 case neg=>
  have hfin:R=false:=by
   rw [←HR.out]
   simp only [lsame,decide_eq_false_iff_not]
   intro h;exact e4 (by rw [Hm.out,Hm2.out,h])
  subst hfin
  have e4':((m:Int) != (m2:Int))=true:=by simp;omega
  go_enter Tryd.func33,Tryd.ntmps33
  go_wp2_with fail
  go_ret
  exact ⟨rfl,blw⟩
 subst e4
 have hmm:m≤9223372036854775807:=by unfold maxLen at hc;omega
 go_enter Tryd.func33,Tryd.ntmps33
 go_wp2_with fail
 go_loopw [17] (fun s17 wr=>∃j:Nat,j≤m∧s17= .int .i64 j∧l.take j=l2.take j∧Below w.heap.size w wr) (fun s17 _=>m - (intOf s17).toNat)
 case atStart=>exact ⟨0,by omega,rfl,rfl,blw⟩
 case round=>
  obtain ⟨j,hj,rfl,htk,hbr⟩:=hrel
  have hzr:=hbr.size
  have Htk:=Lib.hid htk
  clear htk
  by_cases hlt:j<m
  ·have hjl:j<l.length:=by have:=Hm.out;omega
   have hjl2:j<l2.length:=by have:=Hm2.out;omega
   obtain ⟨ad,u,rfl,hu,h4⟩:=H1.out.elem (List.getElem?_eq_getElem hjl)
   obtain ⟨ad2,u2,rfl,hu2,h42⟩:=H2.out.elem (List.getElem?_eq_getElem hjl2)
   have hcall:∀W,Below wr.heap.size wr W→Calls Tryd.prog 15 #[u,u2] W (Gives W (.bool (tsame l[j] l2[j]))):=fun W h=>Ih.out l[j] (List.getElem_mem hjl) l2[j] u u2 W ((hu.keep hbr).keep h) ((hu2.keep hbr).keep h)
   obtain ⟨eb,eo,k',n',s',A',m',c',ha,rfl,q0,q1,q2,q3⟩:=h4.keep hbr
   obtain ⟨eb2,eo2,k3,n3,s3,A3,m3,c3,ha2,rfl,p0,p1,p2,p3⟩:=h42.keep hbr
   have j0:(0:Int)≤(j:Int):=by omega
   have j1:(j:Int)<(m:Int):=by omega
   have p0':=cell_alloc (o:=.cells #[.int .i64 k',.int .u64 n',.string s',.slice A' m' c'] 25) p0
   have p1':=cell_alloc (o:=.cells #[.int .i64 k',.int .u64 n',.string s',.slice A' m' c'] 25) p1
   have p2':=cell_alloc (o:=.cells #[.int .i64 k',.int .u64 n',.string s',.slice A' m' c'] 25) p2
   have p3':=cell_alloc (o:=.cells #[.int .i64 k',.int .u64 n',.string s',.slice A' m' c'] 25) p3
   cases hok:tsame l[j] l2[j] with
   |true=>
    rw [hok] at hcall
    have hnx:=list_parts Htk.out hjl hjl2 (tsame_iff.1 hok)
    have Hnx:=Lib.hid hnx
    clear hnx hok hu hu2
    go_wp2_with fail
    refine (hcall _ (blw)).mono ?_
    rintro e w1 ⟨rfl,hbw1⟩
    have hb1:Below wr.heap.size wr w1:=blw
    go_wp2_with fail
    go_roundw
    case rel=>exact ⟨j+1,by omega,by go_num,Hnx.out,blw⟩
    case measure=>simp [intOf];omega
   |false=>
    rw [hok] at hcall
    have hfin:R=false:=by
     rw [←HR.out]
     simp only [lsame,decide_eq_false_iff_not]
     intro h;subst h
     rw [tsame_self] at hok;cases hok
    subst hfin
    clear hok hu hu2
    go_wp2_with fail
    refine (hcall _ (blw)).mono ?_
    rintro e w1 ⟨rfl,hbw1⟩
    have hb1:Below wr.heap.size wr w1:=blw
    go_wp2_with fail
    go_ret
    exact ⟨rfl,blw⟩
  ·have g1:l.take j=l:=List.take_of_length_le (by have:=Hm.out;omega)
   have g2:l2.take j=l2:=List.take_of_length_le (by have:=Hm2.out;omega)
   have hfin:R=true:=by
    rw [←HR.out]
    simp only [lsame,decide_eq_true_eq]
    have:=Htk.out;rwa [g1,g2] at this
   subst hfin
   clear g1 g2 Htk
   go_wp2_with fail
   go_ret
   exact ⟨rfl,blw⟩
set_option maxHeartbeats 4000000 in
theorem codecsame_any (t:Tree):∀(u:Tree) (v x:Value) (w:World),Holds w t v→Holds w u x→
  Calls Tryd.prog 15 #[v,x] w (Gives w (.bool (tsame t u))):=by
 refine Tree.ind (P:=fun t=>∀(u:Tree) (v x:Value) (w:World),Holds w t v→Holds w u x→Calls Tryd.prog 15 #[v,x] w (Gives w (.bool (tsame t u)))) ?_ t
 intro k n s l ih u v x w hv hx
 obtain ⟨k2,n2,s2,l2⟩:=u
 have heq:∀(A A2:Option Addr) (m c m2 c2:Nat) (W:World),Items W A m c l→Items W A2 m2 c2 l2→Calls Tryd.prog 33 #[.slice A m c,.slice A2 m2 c2,.func (.func 15) #[] #[]] W (Gives W (.bool (lsame l l2))):=fun A A2 m c m2 c2 W h1 h2=>equalfunc_any l l2 A A2 m c m2 c2 W h1 h2 ih
 have Heq:=Lib.hid heq
 obtain ⟨A,m,c,rfl,hk,hn,hs,hm,hmc,hc,hel⟩:=hv.open_
 obtain ⟨A2,m2,c2,rfl,hk2,hn2,hs2,hm2,hmc2,hc2,hel2⟩:=hx.open_
 have H1:=Lib.hid hv.items
 have H2:=Lib.hid hx.items
 clear hv hx ih hel hel2 hm hm2 hs hs2 hk hk2 hn hn2 heq
 by_cases e1:k=k2
 case neg=>
  rw [tsame_no (by intro h;injection h;exact e1 ‹_›)]
  have e1':(k==k2)=false:=by simpa using e1
  go_enter Tryd.func15,Tryd.ntmps15
  go_wp2_with fail
  go_ret
  exact ⟨rfl,blw⟩
 subst e1
 by_cases e2:n=n2
 case neg=>
  rw [tsame_no (by intro h;injection h;exact e2 ‹_›)]
  have e2':((n:Int)==(n2:Int))=false:=by simp;omega
  go_enter Tryd.func15,Tryd.ntmps15
  go_wp2_with fail
  go_ret
  exact ⟨rfl,blw⟩
 subst e2
 by_cases e3:s=s2
 case neg=>
  rw [tsame_no (by intro h;injection h;exact e3 ‹_›)]
  have e3':¬s.toList=s2.toList:=fun h=>e3 (toList_inj h)
  go_enter Tryd.func15,Tryd.ntmps15
  go_wp2_with fail
  go_ret
  exact ⟨rfl,blw⟩
 subst e3
 have hfin:tsame (.mk k n s l) (.mk k n s l2)=lsame l l2:=by
  simp only [tsame,lsame]
  congr 1
  simp
 rw [hfin]
 clear hfin
 have hcall:∀W,Below w.heap.size w W→Calls Tryd.prog 33 #[.slice A m c,.slice A2 m2 c2,.func (.func 15) #[] #[]] W (Gives W (.bool (lsame l l2))):=fun W h=>Heq.out A A2 m c m2 c2 W (H1.out.keep h) (H2.out.keep h)
 generalize lsame l l2=R at*
 go_enter Tryd.func15,Tryd.ntmps15
 go_wp2_with fail
 refine (hcall _ (blw)).mono ?_
 rintro e w1 ⟨rfl,hbw1⟩
 go_wp2_with fail
 go_ret
 exact ⟨rfl,blw⟩
end Go.Proofs.YtlolnakeancenaaDoor
