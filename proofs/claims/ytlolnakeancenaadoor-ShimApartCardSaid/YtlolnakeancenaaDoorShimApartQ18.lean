/- The walk of the reader's method item at a text. The walk of the reader's method item at a list; and at any bytes. The reader's method item, at any bytes. The walk of codec.Get. The walks of msg.Frame, sum, Open. The walks of stonecropref03.Num, Text, List and of stonecropref06.Item. -/
import Derived.Test.YtlolnakeancenaaDoorShimApartQ15
import Derived.Test.YtlolnakeancenaaDoorShimApartQ12
import Derived.Test.YtlolnakeancenaaDoorShimApartQ11
import Derived.Test.YtlolnakeancenaaDoorShimApartQ7
import Derived.Test.YtlolnakeancenaaDoorShimApartQ0
import Derived.Test.YtlolnakeancenaaDoorShimApartQ13
import Derived.WalkKit
import Derived.WalkSpells
import Derived.WalkLawsBesides
import Derived.Deep.RegionHeld3
import Derived.Deep.DrawnRows
import Derived.Deep.DeepCutAuto
import Derived.Deep.DeepFit
import Derived.Lib.Hide
import Derived.BigQuiet
import Derived.Deep.QuietTactic
namespace Go.Proofs.YtlolnakeancenaaDoor
open Go.RowKit
set_option linter.unusedVariables false
set_option linter.unusedSimpArgs false
set_option maxRecDepth 20000
attribute [local go_sem ↓] Go.wp_at_zero Go.wp_at_succ
attribute [local go_sem] World.cell?_alloc_some frozen_alloc_some
attribute [local go_sem] lt2 lt3 lt4 lt5
attribute [local simp] lt2 lt3 lt4 lt5
set_option maxHeartbeats 8000000 in
theorem item_text (g:Nat) (A:Option Addr) (n cap:Nat) (L:List Nat) (a d:Nat) (w:World) (h:RD w g A n cap L a) (ha:a<n) (hd:d<16) (hk:L[a]? =some 1) (x:Got)
  (hx:x=if (ntake (L.drop (a+1))).2.2≠0 then .error ((ntake (L.drop (a+1))).2.2,a+1) else if ((L.drop (a+1)).drop (ntake (L.drop (a+1))).2.1).length<(ntake (L.drop (a+1))).1 then .error (2,a+1+(ntake (L.drop (a+1))).2.1)
   else .ok (.mk 1 0 (ofBytes (((L.drop (a+1)).drop (ntake (L.drop (a+1))).2.1).take (ntake (L.drop (a+1))).1)) [],((L.drop (a+1)).drop (ntake (L.drop (a+1))).2.1).drop (ntake (L.drop (a+1))).1,a+1+(ntake (L.drop (a+1))).2.1+(ntake (L.drop (a+1))).1)):
  Calls Tryd.prog 50 #[.pointer (some ⟨g,0,none⟩),.int .i64 (d:Int)] w (ItemRead w g A n cap x):=by
 have Hrd:=Lib.hid h
 have c0:w.cell? ⟨g,0,none⟩=some (.slice A n cap):=by rw [h.blk.cell];rfl
 have c1:w.cell? ⟨g,1,none⟩=some (.int .i64 (a:Int)):=by rw [h.blk.cell];rfl
 have f1:w.frozen? ⟨g,1,none⟩=false:=h.blk.frozen 1
 have hcm:=h.max
 have hnc:=h.le
 obtain ⟨ad,k',rfl,hk',hk2,hkc⟩:=h.bytes.at_ ha
 obtain rfl:1=k':=by rw [hk] at hk';injection hk'
 have hne:((a:Int)==(n:Int))=false:=by simp;omega
 have hd16:((d:Int)==16)=false:=by simp;omega
 have j0:(0:Int)≤(a:Int):=by omega
 have j1:(a:Int)<(n:Int):=by omega
 unfold maxLen at hcm
 have Hx:=Lib.hid hx
 clear h hk hk' hx
 go_enter Tryd.func50,Tryd.ntmps50
 go_wp2_with fail
 go_region_held3 (fun w'=>Below w.heap.size w w'∧w'.cell? ⟨g,0,none⟩=some (.slice (some ad) n cap)∧w'.cell? ⟨g,1,none⟩=some (.int .i64 (a:Int))∧w'.cell? (ad.add a)=some (.int .u8 ((1:Nat):Int))) ((go_split_ands;(repeat' apply And.intro) <;> (try simp only [World.cell?_drew,World.frozen?_drew]) <;> (first|with_reducible assumption|(exact cell_keep (by with_reducible assumption) (by with_reducible assumption))|(exact frozen_keep (by with_reducible assumption) (by with_reducible assumption) (by with_reducible assumption))|exact blw))) (fail)
 all_goals
  go_split_ands
  go_wp2_with fail
  go_region_held3 (fun w'=>Below w.heap.size w w'∧w'.cell? ⟨g,0,none⟩=some (.slice (some ad) n cap)∧w'.cell? ⟨g,1,none⟩=some (.int .i64 (a:Int))∧w'.cell? (ad.add a)=some (.int .u8 ((1:Nat):Int))) ((go_split_ands;(repeat' apply And.intro) <;> (try simp only [World.cell?_drew,World.frozen?_drew]) <;> (first|with_reducible assumption|(exact cell_keep (by with_reducible assumption) (by with_reducible assumption))|(exact frozen_keep (by with_reducible assumption) (by with_reducible assumption) (by with_reducible assumption))|exact blw))) (fail)
  all_goals
   go_split_ands
   go_wp2_with fail
   have hmv:Moved w g (some ad) n cap (w.setCell ⟨g,1,none⟩ (.int .i64 ((a:Int)+1))).drew.drew (a+1):=(Hrd.out.store (a':=a+1) (Below.refl _ _) (by omega)).drew.drew
   have hlt:(ntake (L.drop (a+1))).2.2=0→(ntake (L.drop (a+1))).1<2 ^ 64:=fun he=>(ntake_back (fun c hc=>Hrd.out.bytes.lt c (List.mem_of_mem_drop hc)) he).2.2.2
   have hln:=Hrd.out.bytes.1
   have hroom:=room_any g (some ad) n cap L (a+1) _ (Hrd.out.moved hmv)
   have Hmv:=Lib.hid hmv
   rw [List.drop_drop] at Hx
   generalize ntake (L.drop (a+1))=y at*
   obtain ⟨v,m,er⟩:=y
   simp only at Hx
   rw [List.length_drop,←hln] at Hx
   clear hlt hmv
   refine hroom.mono ?_
   rintro r w1 (⟨he,hfit,rfl,hm1⟩|⟨he,hfit,rfl,hgr⟩|⟨he,rfl,hgr⟩)
   ·simp only at he hfit hm1
    subst he
    have hxx:=Hx.out
    rw [if_neg (by simp),if_neg (by omega)] at hxx
    subst hxx
    have h1:=hm1.le
    have hrd1:=(Hrd.out.moved Hmv.out).moved hm1
    have Hm1:=Lib.hid hm1
    have q0:w1.cell? ⟨g,0,none⟩=some (.slice (some ad) n cap):=by rw [hm1.blk.cell];rfl
    have q1:w1.cell? ⟨g,1,none⟩=some (.int .i64 ((a+1+m:Nat):Int)):=by rw [hm1.blk.cell];rfl
    have qf:w1.frozen? ⟨g,1,none⟩=false:=hm1.blk.frozen 1
    obtain ⟨b,hb⟩:∃b,b=a+1+m:=⟨_,rfl⟩
    obtain ⟨c,hc⟩:∃c,c=b+v:=⟨_,rfl⟩
    have hcb:c - b=v:=by omega
    have hst:=hrd1.store (w1:=w1) (a':=c) (Below.refl _ _) (by omega)
    have hrd2:=hrd1.moved hst
    have hB:=(hrd2.bytes.cutFrom (k:=b) (cap:=cap) (by omega) (by omega)).cutTo (k:=c - b) (by omega)
    have hb9:=hB.keep ((Below.refl _ _).drew)
    have hcv:=conv_bytes hb9 (cap - b)
    have Hb:=Lib.hid hb
    rw [←hb] at q1 h1 hfit
    have Hst:=Lib.hid hst
    obtain ⟨B2,hB2⟩:∃B2,(if cap=b then some ad else some (ad.add b))=B2:=⟨_,rfl⟩
    rw [Option.map_some,hB2] at hcv
    have w1':IntKind.i64.wrap ((b:Int)+(v:Int))=(c:Int):=by rw [IntWalk.i64_in _ (by omega)];omega
    have w2':IntKind.i64.wrap ((c:Int) - (v:Int))=(b:Int):=by rw [IntWalk.i64_in _ (by omega)];omega
    have hbc:b≤c:=by omega
    have hcn:c≤n:=by omega
    have hst2:Moved w1 g (some ad) n cap (w1.setCell ⟨g,1,none⟩ (.int .i64 (c:Int))) c:=Hst.out
    have p0:(w1.setCell ⟨g,1,none⟩ (.int .i64 (c:Int))).cell? ⟨g,0,none⟩=some (.slice (some ad) n cap):=by rw [hst2.blk.cell];rfl
    have p1:(w1.setCell ⟨g,1,none⟩ (.int .i64 (c:Int))).cell? ⟨g,1,none⟩=some (.int .i64 (c:Int)):=by rw [hst2.blk.cell];simp
    have Hst2:=Lib.hid hst2
    have Hc:=Lib.hid hc
    have Hcb:=Lib.hid hcb
    have i1:((c:Int) - (b:Int)).toNat=c - b:=by omega
    have i2:(0:Int)≤(b:Int):=by omega
    have i3:(b:Int)≤(c:Int):=by omega
    have i4:(c:Int)≤(cap:Int):=by omega
    clear hb hst hrd2 hB hb9 hrd1 hm1 hroom hln hst2 hc hcb
    go_wp2_with fail
    go_region_held3 (fun w'=>Below (w1.setCell ⟨g,1,none⟩ (.int .i64 (c:Int))).heap.size (w1.setCell ⟨g,1,none⟩ (.int .i64 (c:Int))) w'∧w'.cell? ⟨g,0,none⟩=some (.slice (some ad) n cap)∧w'.cell? ⟨g,1,none⟩=some (.int .i64 (c:Int))∧Sem.run Tryd.prog (convert 28 9 (.slice B2 (c - b) (cap - b))) w'= .ok (.string (ofBytes (List.take (c - b) (List.drop b L)))) w') ((go_split_ands;(repeat' apply And.intro) <;> (try simp only [World.cell?_drew,World.frozen?_drew]) <;> (first|with_reducible assumption|(exact cell_keep (by with_reducible assumption) (by with_reducible assumption))|(exact frozen_keep (by with_reducible assumption) (by with_reducible assumption) (by with_reducible assumption))|exact blw))) (fail)
    all_goals
     go_split_ands
     go_wp2_with fail
     go_ret
     have e1:ofBytes (List.take v (List.drop (a+1+m) L))=ofBytes (List.take (c - b) (List.drop b L)):=by rw [Hcb.out,Hb.out]
     have e2:a+1+m+v=c:=by rw [Hc.out,Hb.out]
     rw [e1,e2]
     exact ⟨_,rfl,.text _ (by rw [ofBytes_size,List.length_take];unfold maxLen;omega),(Hmv.out.trans (Hm1.out.trans Hst2.out)).drew⟩
   ·simp only at he hfit
    subst he
    have hxx:=Hx.out
    rw [if_neg (by simp),if_pos (by omega)] at hxx
    subst hxx
    exact ⟨rfl,rfl,grown_same Hmv.out.grown hgr⟩
   ·simp only at he
    have hxx:=Hx.out
    rw [if_pos he] at hxx
    subst hxx
    exact ⟨rfl,rfl,grown_same Hmv.out.grown hgr⟩
end Go.Proofs.YtlolnakeancenaaDoor
namespace Go.Proofs.YtlolnakeancenaaDoor
open Go.RowKit
set_option linter.unusedVariables false
set_option linter.unusedSimpArgs false
set_option maxRecDepth 20000
attribute [local go_sem ↓] Go.wp_at_zero Go.wp_at_succ
attribute [local go_sem] World.cell?_alloc_some frozen_alloc_some
attribute [local go_sem] lt2 lt3 lt4 lt5
attribute [local simp] lt2 lt3 lt4 lt5
def gnode:Gots→Got
 | .error e=>.error e
 | .ok (l,r,a)=>.ok (.mk 2 0 ByteArray.empty l,r,a)
set_option maxHeartbeats 16000000 in
theorem item_list (g:Nat) (A:Option Addr) (n cap:Nat) (L:List Nat) (a d fuel:Nat) (w:World) (h:RD w g A n cap L a) (ha:a<n) (hd:fuel+1+d=16) (hn:n≤1000000000) (hk:L[a]? =some 2)
  (ih:∀(a:Nat) (w:World),RD w g A n cap L a→Calls Tryd.prog 50 #[.pointer (some ⟨g,0,none⟩),.int .i64 ((d+1:Nat):Int)] w (ItemRead w g A n cap (gtake fuel (L.drop a) a))) (x:Got)
  (hx:x=if (ntake (L.drop (a+1))).2.2≠0 then .error ((ntake (L.drop (a+1))).2.2,a+1) else if ((L.drop (a+1)).drop (ntake (L.drop (a+1))).2.1).length<(ntake (L.drop (a+1))).1 then .error (2,a+1+(ntake (L.drop (a+1))).2.1)
   else gnode (gmany (gtake fuel) (ntake (L.drop (a+1))).1 ((L.drop (a+1)).drop (ntake (L.drop (a+1))).2.1) (a+1+(ntake (L.drop (a+1))).2.1))):
  Calls Tryd.prog 50 #[.pointer (some ⟨g,0,none⟩),.int .i64 (d:Int)] w (ItemRead w g A n cap x):=by
 have hgl:=h.blk.lt
 have hd':d<16:=by omega
 obtain ⟨i1,hi,hz0,hz1,hz2⟩:=any_parts
 have Ih:=Lib.hid ih
 clear ih
 have Hrd:=Lib.hid h
 have c0:w.cell? ⟨g,0,none⟩=some (.slice A n cap):=by rw [h.blk.cell];rfl
 have c1:w.cell? ⟨g,1,none⟩=some (.int .i64 (a:Int)):=by rw [h.blk.cell];rfl
 have f1:w.frozen? ⟨g,1,none⟩=false:=h.blk.frozen 1
 have hcm:=h.max
 have hnc:=h.le
 obtain ⟨ad,k',rfl,hk',hk2,hkc⟩:=h.bytes.at_ ha
 obtain rfl:2=k':=by rw [hk] at hk';injection hk'
 have hne:((a:Int)==(n:Int))=false:=by simp;omega
 have hd16:((d:Int)==16)=false:=by simp;omega
 have j0:(0:Int)≤(a:Int):=by omega
 have j1:(a:Int)<(n:Int):=by omega
 unfold maxLen at hcm
 have Hx:=Lib.hid hx
 clear h hk hk' hx
 have w22:IntKind.i64.wrap 2=2:=by decide
 go_enter Tryd.func50,Tryd.ntmps50
 go_wp2_with fail
 go_region_held3 (fun w'=>Below w.heap.size w w'∧w'.cell? ⟨g,0,none⟩=some (.slice (some ad) n cap)∧w'.cell? ⟨g,1,none⟩=some (.int .i64 (a:Int))∧w'.cell? (ad.add a)=some (.int .u8 ((2:Nat):Int))) ((go_split_ands;(repeat' apply And.intro) <;> (try simp only [World.cell?_drew,World.frozen?_drew]) <;> (first|with_reducible assumption|(exact cell_keep (by with_reducible assumption) (by with_reducible assumption))|(exact frozen_keep (by with_reducible assumption) (by with_reducible assumption) (by with_reducible assumption))|exact blw))) (fail)
 all_goals
  go_split_ands
  go_wp2_with fail
  go_region_held3 (fun w'=>Below w.heap.size w w'∧w'.cell? ⟨g,0,none⟩=some (.slice (some ad) n cap)∧w'.cell? ⟨g,1,none⟩=some (.int .i64 (a:Int))∧w'.cell? (ad.add a)=some (.int .u8 ((2:Nat):Int))) ((go_split_ands;(repeat' apply And.intro) <;> (try simp only [World.cell?_drew,World.frozen?_drew]) <;> (first|with_reducible assumption|(exact cell_keep (by with_reducible assumption) (by with_reducible assumption))|(exact frozen_keep (by with_reducible assumption) (by with_reducible assumption) (by with_reducible assumption))|exact blw))) (fail)
  all_goals
   go_split_ands
   go_wp2_with fail
   have hmv:Moved w g (some ad) n cap (w.setCell ⟨g,1,none⟩ (.int .i64 ((a:Int)+1))).drew.drew (a+1):=(Hrd.out.store (a':=a+1) (Below.refl _ _) (by omega)).drew.drew
   have hlt:(ntake (L.drop (a+1))).2.2=0→(ntake (L.drop (a+1))).1<2 ^ 64:=fun he=>(ntake_back (fun c hc=>Hrd.out.bytes.lt c (List.mem_of_mem_drop hc)) he).2.2.2
   have hln:=Hrd.out.bytes.1
   have Hmv:=Lib.hid hmv
   have hma:Moved w g (some ad) n cap ((w.setCell ⟨g,1,none⟩ (.int .i64 ((a:Int)+1))).alloc (.cells #[] 20)).drew.drew (a+1):=((Hrd.out.store (a':=a+1) (Below.refl _ _) (by omega)).below ((Below.refl _ _).alloc (Nat.le_refl _) _)).drew.drew
   have Hma:=Lib.hid hma
   have hroom:=room_any g (some ad) n cap L (a+1) _ (Hrd.out.moved hma)
   rw [List.drop_drop] at Hx
   generalize ntake (L.drop (a+1))=y at*
   obtain ⟨v,m,er⟩:=y
   simp only at Hx
   rw [List.length_drop,←hln] at Hx
   clear hlt hmv hma
   refine hroom.mono ?_
   rintro r w1 (⟨he,hfit,rfl,hm1⟩|⟨he,hfit,rfl,hgr⟩|⟨he,rfl,hgr⟩)
   ·simp only at he hfit hm1
    subst he
    have hxx:=Hx.out
    rw [if_neg (by simp),if_neg (by omega)] at hxx
    have Hxx:=Lib.hid hxx
    have h1:=hm1.le
    obtain ⟨b,hb⟩:∃b,b=a+1+m:=⟨_,rfl⟩
    have hm:Moved w g (some ad) n cap w1 b:=by rw [hb];exact Hma.out.trans hm1
    have hrow0:Row w1 w.heap.size (.slice (some ⟨w.heap.size,0,none⟩) 0 0) [] []:=by
     have e0:Row ((w.setCell ⟨g,1,none⟩ (.int .i64 ((a:Int)+1))).alloc (.cells #[] 20)).drew.drew w.heap.size (.slice (some ⟨w.heap.size,0,none⟩) 0 0) [] []:=by
      refine ⟨?_,Nat.le_refl _,fun i t u _ hu=>by simp at hu⟩
      have e1:World.ownsRow ((w.setCell ⟨g,1,none⟩ (.int .i64 ((a:Int)+1))).alloc (.cells #[] 20)) w.heap.size 20 1 (.slice (some ⟨w.heap.size,0,none⟩) 0 0) 0 []:=by
       have:=World.ownsRow_made (e:=20) (size:=1) (base:=w.heap.size) (w.setCell ⟨g,1,none⟩ (.int .i64 ((a:Int)+1))) #[] 0 (by simp) (Nat.zero_le _) (by simp)
       simpa using this
      exact e1
     exact e0.grown hm1.grown hgl
    have hx2:x=gnode (gapp [] (gmany (gtake fuel) v (L.drop b) b)):=by
     rw [hb,Hxx.out]
     cases gmany (gtake fuel) v (L.drop (a+1+m)) (a+1+m) with
     |error e=>rfl
     |ok y=>rfl
    have Hx2:=Lib.hid hx2
    have hb1:=hm.le
    have Hln:=Lib.hid hln
    clear hroom hm1 Hxx hxx hx2 hb hln
    go_wp2_with fail
    go_loopw [7,98] (fun s7 s98 wr=>∃(pre:List Tree) (us:List Value) (aj:Nat),s98= .int .i64 us.length∧us.length=pre.length∧us.length≤v∧Row wr w.heap.size s7 pre us∧Moved w g (some ad) n cap wr aj∧x=gnode (gapp pre (gmany (gtake fuel) (v - us.length) (L.drop aj) aj))) (fun _ s98 _=>v - (intOf s98).toNat)
    case atStart=>exact ⟨[],[],b,rfl,rfl,by simp,hrow0,hm,by simpa using Hx2.out⟩
    case round=>
     obtain ⟨pre,us,aj,rfl,hul,huv,hrow,hmj,hxj⟩:=hrel
     have hgr:=hmj.grown.size
     have hajn:=hmj.le
     have Hxj:=Lib.hid hxj
     have Hmj:=Lib.hid hmj
     have Hul:=Lib.hid hul
     clear hrow0 hm hxj hmj hul
     by_cases hlt:us.length<v
     ·have hcall:=Ih.out aj wr (Hrd.out.moved Hmj.out)
      have hds:((d+1:Nat):Int)=(d:Int)+1:=by omega
      rw [hds] at hcall
      have hj1:(us.length:Int)<(v:Int):=by omega
      have hnx:=Hxj.out
      rw [show v - us.length=(v - (us.length+1))+1 by omega] at hnx
      obtain ⟨A3,c3,rfl,hl3,hc3⟩:=hrow.form
      have Hrow:=Lib.hid hrow
      have Hnx:=Lib.hid hnx
      clear hrow hnx
      go_wp2_with fail
      refine hcall.mono ?_
      rintro r w4 hr
      cases hg:gtake fuel (L.drop aj) aj with
      |error e=>
       obtain ⟨e,p⟩:=e
       rw [hg] at hr
       obtain ⟨rfl,hgr4⟩:=hr
       have hxe:=Hnx.out
       rw [gmany_succ_error hg] at hxe
       simp only [gapp,gnode] at hxe
       subst hxe
       exact ⟨rfl,rfl,grown_same Hmj.out.grown hgr4⟩
      |ok y=>
       obtain ⟨t,r1,a1⟩:=y
       rw [hg] at hr
       obtain ⟨u,rfl,htall,hmv4⟩:=hr
       obtain ⟨ue,ux,rfl⟩:=htall.form
       have hgood:=gtake_good fuel (d+1) t (L.drop aj) r1 aj a1 (by omega) (by rw [List.length_drop,←Hln.out];omega) (fun c hc=>Hrd.out.bytes.lt c (List.mem_of_mem_drop hc)) hg
       have hr1:r1=L.drop a1:=by
        have h3:=hgood.2.2.1
        have h4:=congrArg (List.drop (tform t).length) h3
        rw [List.drop_left,List.drop_drop,←hgood.2.2.2] at h4
        exact h4.symm
       subst hr1
       have hxe:=Hnx.out
       rw [gapp_step hg] at hxe
       have Hxe:=Lib.hid hxe
       have hgl4:g<w.heap.size:=hgl
       have hrow4:=(Hrow.out.grown hmv4.grown hgl).below ((Below.refl _ _).alloc (Nat.le_refl _) (.cells #[.iface ue ux] 20))
       have htall4:=htall.under (w':=w4.alloc (.cells #[.iface ue ux] 20)) ((Below.refl _ _).alloc (Nat.le_refl _) _)
       have hsrc:=src_one (w:=w4) (e:=20) htall.one
       have hm4:=(Hmj.out.trans hmv4).below ((Below.refl _ _).alloc (Nat.le_refl _) (.cells #[.iface ue ux] 20))
       have hz4:=hmv4.grown.size
       have Htall4:=Lib.hid htall4
       have Hm4:=Lib.hid hm4
       clear hxe hgood hg htall htall4 hm4
       go_wp2_with ((at_builtin;go_loud (refine wpList_app _ rfl (.tmp 100) (.tmp 105) 128 rfl _ 20 i1 _ 1 16 Tryd.underlying128 hi hz0 hz1 hz2 rfl (by omega) _ _ _ rfl hrow4.own _ _ _ _ rfl hsrc ?h63 ?hby ?hbase ?_);(case h63=>(unfold maxLen;first|omega|(simp;done)|(simp;omega)));(case hby=>first|omega|(simp;done)|(simp;omega));(case hbase=>first|omega|(simp;done)|(simp;omega));intro v5 w5 hownw5 hgroww5 hatw5 holdw5))
       go_roundw
       case rel=>
        have hlow:∀k,(Value.slice A3 us.length c3).ownBlock=some k→k<wr.heap.size:=fun k hk=>(Hrow.out.own.lt k hk).2
        have hst:=(hrow4.more Hul.out t).step (t:=t) (u:=.iface ue ux) (g:=wr.heap.size) (by rw [Hul.out,List.getElem?_concat_length]) Htall4.out hgr hlow hownw5 hgroww5 hatw5
        refine ⟨pre++ [t],us++ [.iface ue ux],a1,(by first|rfl|(simp;done)|go_num),by simp [Hul.out],(by first|omega|(simp;done)|(simp;omega)),hst,Hm4.out.append hgl hrow4.own (Nat.le_refl _) hgroww5,?_⟩
        rw [Hxe.out,List.length_append,List.length_singleton]
       case measure=>simp [intOf];omega
     ·have hv0:v - us.length=0:=by omega
      obtain ⟨A3,c3,rfl,hl3,hc3⟩:=hrow.form
      have htl:=hrow.tall Hul.out
      have Htl:=Lib.hid htl
      have hxe:=Hxj.out
      rw [hv0] at hxe
      simp only [gmany,gapp,gnode,List.append_nil] at hxe
      subst hxe
      clear hrow htl hv0
      go_wp2_with fail
      go_ret
      exact ⟨_,rfl,Htl.out,Hmj.out⟩
   ·simp only at he hfit
    subst he
    have hxx:=Hx.out
    rw [if_neg (by simp),if_pos (by omega)] at hxx
    subst hxx
    exact ⟨rfl,rfl,grown_same Hma.out.grown hgr⟩
   ·simp only at he
    have hxx:=Hx.out
    rw [if_pos he] at hxx
    subst hxx
    exact ⟨rfl,rfl,grown_same Hma.out.grown hgr⟩
end Go.Proofs.YtlolnakeancenaaDoor
namespace Go.Proofs.YtlolnakeancenaaDoor
open Go.RowKit
set_option linter.unusedVariables false
set_option linter.unusedSimpArgs false
set_option maxRecDepth 20000
attribute [local go_sem ↓] Go.wp_at_zero Go.wp_at_succ
attribute [local go_sem] World.cell?_alloc_some frozen_alloc_some
theorem item_any (g:Nat) (A:Option Addr) (n cap:Nat) (L:List Nat) (hn:n≤1000000000):∀(fuel d a:Nat) (w:World),fuel+d=16→RD w g A n cap L a→
  Calls Tryd.prog 50 #[.pointer (some ⟨g,0,none⟩),.int .i64 (d:Int)] w (ItemRead w g A n cap (gtake fuel (L.drop a) a)):=by
 intro fuel
 induction fuel with
 |zero=>
  intro d a w hd h
  have hln:=h.bytes.1
  by_cases ha:a=n
  ·subst ha
   have e:gtake 0 (L.drop a) a= .error (2,a):=by rw [List.drop_of_length_le (by omega)];rfl
   rw [e];exact item_end g A a cap L d w h
  ·have hlt:a<n:=by have:=h.at_;omega
   have e:gtake 0 (L.drop a) a= .error (12,a):=by rw [List.drop_eq_getElem_cons (by omega)];rfl
   obtain rfl:d=16:=by omega
   rw [e];exact item_deep g A n cap L a w h hlt
 |succ fuel ih=>
  intro d a w hd h
  have hln:=h.bytes.1
  by_cases ha:a=n
  ·subst ha
   have e:gtake (fuel+1) (L.drop a) a= .error (2,a):=by rw [List.drop_of_length_le (by omega)];rfl
   rw [e];exact item_end g A a cap L d w h
  ·have hlt:a<n:=by have:=h.at_;omega
   have hal:a<L.length:=by omega
   have hk:L[a]? =some L[a]:=List.getElem?_eq_getElem hal
   rw [List.drop_eq_getElem_cons hal]
   generalize L[a]=k at*
   by_cases h2:2<k
   ·have e:gtake (fuel+1) (k :: L.drop (a+1)) a= .error (4,a):=by simp only [gtake];rw [if_pos h2]
    rw [e];exact item_kind g A n cap L a d k w h hlt (by omega) hk h2
   ·have hkk:k=0∨k=1∨k=2:=by omega
    rcases hkk with rfl|rfl|rfl
    ·refine item_num g A n cap L a d w h hlt (by omega) hk _ ?_
     simp only [gtake]
     rw [if_neg h2]
     simp
    ·refine item_text g A n cap L a d w h hlt (by omega) hk _ ?_
     simp only [gtake]
     rw [if_neg h2]
     simp
    ·refine item_list g A n cap L a d fuel w h hlt (by omega) hn hk (fun a w h=>ih (d+1) a w (by omega) h) _ ?_
     simp only [gtake]
     rw [if_neg h2]
     simp only [show ¬(2:Nat)=0 by decide,show ¬(2:Nat)=1 by decide,if_false]
     by_cases e1:(ntake (L.drop (a+1))).2.2≠0
     ·rw [if_pos e1,if_pos e1]
     ·rw [if_neg e1,if_neg e1]
      split
      ·rfl
      ·cases gmany (gtake fuel) (ntake (L.drop (a+1))).1 ((L.drop (a+1)).drop (ntake (L.drop (a+1))).2.1) (a+1+(ntake (L.drop (a+1))).2.1) <;> rfl
attribute [local go_sem] lt2 lt3 lt4 lt5
attribute [local simp] lt2 lt3 lt4 lt5
def tNone:Tree:=.mk 0 0 ByteArray.empty []
/-- What is read of bytes as a whole: the tree, the error's number, its place. -/
def cget (L:List Nat):Tree × Nat × Nat:=
 if 1048576<L.length then (tNone,12,0)
 else match gtake 16 L 0 with
  | .error (e,p)=>(tNone,e,p)
  | .ok (t,_,a1)=>if a1<L.length then (tNone,3,a1) else (t,0,0)
def Gets (w:World) (x:Tree × Nat × Nat) (r:Ending) (w':World):Prop:=
 ∃v,r= .returned (.tuple #[v,.int .i64 (x.2.1:Int),.int .i64 (x.2.2:Int)])∧HoldsIn w' (fun b=>w.heap.size≤b) x.1 v∧Below w.heap.size w w'
def noneV:Value:=.agg #[.int .i64 0,.int .u64 0,.string ByteArray.empty,.slice none 0 0]
theorem hin_none (w:World) (S:Nat→Prop):HoldsIn w S tNone noneV:=hin_num w S (n:=0) (by decide)
theorem grown_cell_ne {w w':World} {g:Nat} (hg:w.grownBy w' (some g)) {a:Addr} {v:Value} (h:w.cell? a=some v) (ha:a.block≠g):w'.cell? a=some v:=by
 rw [←h]
 exact World.cell?_of_block (w:=w) (hg.block _ (World.block_lt_of_cell? _ _ h) fun e=>by injection e with e;exact ha e)
theorem grown_frozen_ne {w w':World} {g:Nat} (hg:w.grownBy w' (some g)) {a:Addr} {v:Value} (h:w.cell? a=some v) (ha:a.block≠g) {b:Bool} (hf:w.frozen? a=b):w'.frozen? a=b:=by
 rw [←hf]
 exact World.frozen?_of_block (w:=w) (hg.block _ (World.block_lt_of_cell? _ _ h) fun e=>by injection e with e;exact ha e)
theorem below_of_grown {a b:World} {g B:Nat} (hg:a.grownBy b (some g)) (h:B≤g) (hB:B≤a.heap.size):Below B a b:=
 ⟨hg.os,hg.tape,hg.output,hg.size,fun k hk=>hg.block k (by omega) fun e=>by injection e with e;omega⟩
/-- The world in which the reader begins. -/
def getW (w:World) (A:Option Addr) (n cap:Nat):World:=
 (((w.alloc (.cells #[.int .i64 0,.int .u64 0,.string ByteArray.empty,.slice none 0 0] 25)).alloc (.cells #[.int .i64 0] 29)).alloc (.cells #[.int .i64 0] 3)).alloc (.cells #[.slice A n cap,.int .i64 0] 93)
theorem getW_size (w:World) (A:Option Addr) (n cap:Nat):(getW w A n cap).heap.size=w.heap.size+4:=by simp [getW]
theorem getW_below (w:World) (A:Option Addr) (n cap:Nat):Below w.heap.size w (getW w A n cap):=by unfold getW;exact blw
theorem getW_rd {w:World} {A:Option Addr} {n cap:Nat} {L:List Nat} (hb:Bytes w A n L) (hnc:n≤cap) (hcm:cap≤maxLen):RD (getW w A n cap) (w.heap.size+1+1+1) A n cap L 0:=by
 refine ⟨?_,hb.keep (getW_below w A n cap),fun hn ad e=>?_,hnc,hcm,Nat.zero_le _⟩
 ·have h:=Blk.new (((w.alloc (.cells #[.int .i64 0,.int .u64 0,.string ByteArray.empty,.slice none 0 0] 25)).alloc (.cells #[.int .i64 0] 29)).alloc (.cells #[.int .i64 0] 3)) 93 #[.slice A n cap,.int .i64 0]
  simp only [World.size_alloc] at h
  exact h
 ·obtain ⟨ad',c,e',_,_,hc⟩:=hb.at_ hn
  rw [e] at e'
  cases e'
  have:=World.block_lt_of_cell? _ _ hc
  rw [add_block] at this
  omega
/-- What the result's variables hold when the reader begins. -/
theorem getW_cells (w:World) (A:Option Addr) (n cap:Nat):
  (getW w A n cap).cell? ⟨w.heap.size,0,none⟩=some (.int .i64 0)∧(getW w A n cap).cell? ⟨w.heap.size,1,none⟩=some (.int .u64 0)∧(getW w A n cap).cell? ⟨w.heap.size,2,none⟩=some (.string ByteArray.empty)∧(getW w A n cap).cell? ⟨w.heap.size,3,none⟩=some (.slice none 0 0)∧
  (getW w A n cap).cell? ⟨w.heap.size+1,0,none⟩=some (.int .i64 0)∧(getW w A n cap).cell? ⟨w.heap.size+1+1,0,none⟩=some (.int .i64 0):=by
 unfold getW
 refine ⟨?_,?_,?_,?_,?_,?_⟩ <;> simp [go_sem]
theorem getW_frozen (w:World) (A:Option Addr) (n cap:Nat):
  (∀i,(getW w A n cap).frozen? ⟨w.heap.size,i,none⟩=false)∧(getW w A n cap).frozen? ⟨w.heap.size+1,0,none⟩=false∧(getW w A n cap).frozen? ⟨w.heap.size+1+1,0,none⟩=false:=by
 unfold getW
 refine ⟨fun i=>?_,?_,?_⟩ <;> simp [go_sem]
/-- Behind the reader. -/
structure GotW (w:World) (g:Nat) (w1:World):Prop where
 c0:w1.cell? ⟨w.heap.size,0,none⟩=some (.int .i64 0)
 c1:w1.cell? ⟨w.heap.size,1,none⟩=some (.int .u64 0)
 c2:w1.cell? ⟨w.heap.size,2,none⟩=some (.string ByteArray.empty)
 c3:w1.cell? ⟨w.heap.size,3,none⟩=some (.slice none 0 0)
 e:w1.cell? ⟨w.heap.size+1,0,none⟩=some (.int .i64 0)
 p:w1.cell? ⟨w.heap.size+1+1,0,none⟩=some (.int .i64 0)
 f0:w1.frozen? ⟨w.heap.size,0,none⟩=false
 f1:w1.frozen? ⟨w.heap.size,1,none⟩=false
 f2:w1.frozen? ⟨w.heap.size,2,none⟩=false
 f3:w1.frozen? ⟨w.heap.size,3,none⟩=false
 fe:w1.frozen? ⟨w.heap.size+1,0,none⟩=false
 fp:w1.frozen? ⟨w.heap.size+1+1,0,none⟩=false
 below:Below w.heap.size w w1
 size:w.heap.size+4≤w1.heap.size
theorem gotW {w:World} {A:Option Addr} {n cap:Nat} {w1:World} (h:(getW w A n cap).grownBy w1 (some (w.heap.size+1+1+1))):GotW w (w.heap.size+1+1+1) w1:=by
 obtain ⟨h0,h1,h2,h3,he,hp⟩:=getW_cells w A n cap
 obtain ⟨hf,hfe,hfp⟩:=getW_frozen w A n cap
 have hs:=h.size
 rw [getW_size] at hs
 exact ⟨grown_cell_ne h h0 (by first|(simp;done)|(simp;omega)|omega),grown_cell_ne h h1 (by first|(simp;done)|(simp;omega)|omega),grown_cell_ne h h2 (by first|(simp;done)|(simp;omega)|omega),grown_cell_ne h h3 (by first|(simp;done)|(simp;omega)|omega),grown_cell_ne h he (by first|(simp;done)|(simp;omega)|omega),grown_cell_ne h hp (by first|(simp;done)|(simp;omega)|omega),
  grown_frozen_ne h h0 (by first|(simp;done)|(simp;omega)|omega) (hf 0),grown_frozen_ne h h1 (by first|(simp;done)|(simp;omega)|omega) (hf 1),grown_frozen_ne h h2 (by first|(simp;done)|(simp;omega)|omega) (hf 2),grown_frozen_ne h h3 (by first|(simp;done)|(simp;omega)|omega) (hf 3),grown_frozen_ne h he (by first|(simp;done)|(simp;omega)|omega) hfe,grown_frozen_ne h hp (by first|(simp;done)|(simp;omega)|omega) hfp,
  (getW_below w A n cap).trans (below_of_grown h (by omega) (by rw [getW_size];omega)),hs⟩
set_option maxHeartbeats 4000000 in
theorem get_long (A:Option Addr) (n cap:Nat) (w:World) (hn:1048576<n):
  Calls Tryd.prog 31 #[.slice A n cap] w (Gets w (tNone,12,0)):=by
 have hn':(1048576:Int)<(n:Int):=by omega
 go_enter_defers Tryd.func31,Tryd.ntmps31
 go_wp2_with fail
 simp [bodyPostD,Leaves,settle,results,Tryd.results31,go_sem]
 exact ⟨noneV,rfl,hin_none _ _,blw⟩
set_option maxHeartbeats 8000000 in
theorem get_err (A:Option Addr) (n cap:Nat) (L:List Nat) (w:World) (hb:Bytes w A n L) (hnc:n≤cap) (hcm:cap≤maxLen) (hn:n≤1048576) (e p:Nat) (hg:gtake 16 L 0= .error (e,p)):
  Calls Tryd.prog 31 #[.slice A n cap] w (Gets w (tNone,e,p)):=by
 have hn':¬(1048576:Int)<(n:Int):=by omega
 have hit:∀g W,RD W g A n cap L 0→Calls Tryd.prog 50 #[.pointer (some ⟨g,0,none⟩),.int .i64 0] W (ItemRead W g A n cap (gtake 16 L 0)):=fun g W h=>by
  have:=item_any g A n cap L (by omega) 16 0 0 W rfl h
  simpa using this
 rw [hg] at hit
 have hrd:=getW_rd hb hnc hcm
 go_enter_defers Tryd.func31,Tryd.ntmps31
 go_wp2_with fail
 refine (hit _ (getW w A n cap) hrd).mono ?_
 rintro r w1 ⟨rfl,hgr⟩
 have G:=gotW hgr
 have hzz:=G.size
 refine leaves_cons (f:=45) (args:=#[.pointer (some ⟨w.heap.size+1,0,none⟩),.pointer (some ⟨w.heap.size+1+1,0,none⟩)]) (by simp) (by simp [go_sem]) ?_
 refine (caught_fault (w.heap.size+1) (w.heap.size+1+1) 0 0 e p w1 G.e G.p G.fe G.fp (by omega)).mono ?_
 rintro r u' w2 ⟨rfl,rfl,k1,k2,k3⟩
 have hb2:=G.below.trans (k3 w.heap.size (by omega) (by omega))
 have hb3:=k3 (w.heap.size+1) (Nat.le_refl _) (by omega)
 have m0:=(hb3.cell (p:=⟨w.heap.size,0,none⟩) (Nat.lt_succ_self _)).trans G.c0
 have m1:=(hb3.cell (p:=⟨w.heap.size,1,none⟩) (Nat.lt_succ_self _)).trans G.c1
 have m2:=(hb3.cell (p:=⟨w.heap.size,2,none⟩) (Nat.lt_succ_self _)).trans G.c2
 have m3:=(hb3.cell (p:=⟨w.heap.size,3,none⟩) (Nat.lt_succ_self _)).trans G.c3
 simp [Leaves,settle,results,Tryd.results31,go_sem,k1,k2,m0,m1,m2,m3]
 exact ⟨noneV,rfl,hin_none _ _,hb2⟩
set_option maxHeartbeats 8000000 in
theorem get_more (A:Option Addr) (n cap:Nat) (L:List Nat) (w:World) (hb:Bytes w A n L) (hnc:n≤cap) (hcm:cap≤maxLen) (hn:n≤1048576) (t:Tree) (r1:List Nat) (a1:Nat) (hg:gtake 16 L 0= .ok (t,r1,a1)) (hlt:a1<n):
  Calls Tryd.prog 31 #[.slice A n cap] w (Gets w (tNone,3,a1)):=by
 have hn':¬(1048576:Int)<(n:Int):=by omega
 have hlt':(a1:Int)<(n:Int):=by omega
 have hit:∀g W,RD W g A n cap L 0→Calls Tryd.prog 50 #[.pointer (some ⟨g,0,none⟩),.int .i64 0] W (ItemRead W g A n cap (gtake 16 L 0)):=fun g W h=>by
  have:=item_any g A n cap L (by omega) 16 0 0 W rfl h
  simpa using this
 rw [hg] at hit
 have hrd:=getW_rd hb hnc hcm
 go_enter_defers Tryd.func31,Tryd.ntmps31
 go_wp2_with fail
 refine (hit _ (getW w A n cap) hrd).mono ?_
 rintro r w1 ⟨u,rfl,htl,hmv⟩
 have G:=gotW hmv.grown
 obtain ⟨c0,c1,c2,c3,ce,cp,f0,f1,f2,f3,fe,fp,hbl,hzz⟩:=G
 have x1:w1.cell? ⟨w.heap.size+1+1+1,1,none⟩=some (.int .i64 (a1:Int)):=by rw [hmv.blk.cell];rfl
 clear htl hmv hit hrd
 go_wp2_with fail
 go_region
 all_goals go_wp2_with fail
 all_goals
  refine leaves_cons (f:=45) (args:=#[.pointer (some ⟨w.heap.size+1,0,none⟩),.pointer (some ⟨w.heap.size+1+1,0,none⟩)]) (by simp) (by simp [go_sem]) ?_
  refine (caught_idle _ _ _).mono ?_
  rintro r u' w3 ⟨rfl,rfl,rfl⟩
  simp [Leaves,settle,results,Tryd.results31,go_sem,c0,c1,c2,c3,ce,cp]
  exact ⟨noneV,rfl,hin_none _ _,blw⟩
set_option maxHeartbeats 8000000 in
theorem get_ok (A:Option Addr) (n cap:Nat) (L:List Nat) (w:World) (hb:Bytes w A n L) (hnc:n≤cap) (hcm:cap≤maxLen) (hn:n≤1048576) (t:Tree) (r1:List Nat) (hg:gtake 16 L 0= .ok (t,r1,n)):
  Calls Tryd.prog 31 #[.slice A n cap] w (Gets w (t,0,0)):=by
 have hn':¬(1048576:Int)<(n:Int):=by omega
 have hit:∀g W,RD W g A n cap L 0→Calls Tryd.prog 50 #[.pointer (some ⟨g,0,none⟩),.int .i64 0] W (ItemRead W g A n cap (gtake 16 L 0)):=fun g W h=>by
  have:=item_any g A n cap L (by omega) 16 0 0 W rfl h
  simpa using this
 have hsz:tsize t≤10000000:=by
  have hl:=hb.1
  obtain ⟨h1,h2,h3,h4⟩:=gtake_good 16 0 t L r1 0 n rfl (by omega) hb.lt hg
  have:=tsize_form t 0 h1
  omega
 rw [hg] at hit
 have hrd:=getW_rd hb hnc hcm
 go_enter_defers Tryd.func31,Tryd.ntmps31
 go_wp2_with fail
 refine (hit _ (getW w A n cap) hrd).mono ?_
 rintro r w1 ⟨u,rfl,htl,hmv⟩
 have G:=gotW hmv.grown
 obtain ⟨c0,c1,c2,c3,ce,cp,f0,f1,f2,f3,fe,fp,hbl,hzz⟩:=G
 have x1:w1.cell? ⟨w.heap.size+1+1+1,1,none⟩=some (.int .i64 (n:Int)):=by rw [hmv.blk.cell];rfl
 have hpl:=plain_any t u _ w1 hsz htl
 clear htl hmv hit hrd
 go_wp2_with fail
 refine hpl.mono ?_
 rintro r w2 ⟨v,rfl,hin,hb2⟩
 obtain ⟨kv,nv,sv,Av,mv,cv,rfl⟩:=hin.form
 have d0:=cell_keep hb2 c0
 have d1:=cell_keep hb2 c1
 have d2:=cell_keep hb2 c2
 have d3:=cell_keep hb2 c3
 have de:=cell_keep hb2 ce
 have dp:=cell_keep hb2 cp
 have e0:=frozen_keep hb2 c0 f0
 have e1:=frozen_keep hb2 c1 f1
 have e2:=frozen_keep hb2 c2 f2
 have e3:=frozen_keep hb2 c3 f3
 have ee:=frozen_keep hb2 ce fe
 have ep:=frozen_keep hb2 cp fp
 have hz2:=hb2.size
 have Hin:=Lib.hid hin
 have hbw:Below w.heap.size w w2:=blw
 clear c0 c1 c2 c3 ce cp f0 f1 f2 f3 fe fp x1 hin hpl
 go_wp2_with fail
 refine leaves_cons (f:=45) (args:=#[.pointer (some ⟨w.heap.size+1,0,none⟩),.pointer (some ⟨w.heap.size+1+1,0,none⟩)]) (by simp) (by simp [go_sem]) ?_
 refine (caught_idle _ _ _).mono ?_
 rintro r u' w3 ⟨rfl,rfl,rfl⟩
 have h6:=(((((Hin.out.set (p:=⟨w.heap.size,0,none⟩) (by simp;omega) (.int .i64 kv)).set (p:=⟨w.heap.size,1,none⟩) (by simp;omega) (.int .u64 nv)).set (p:=⟨w.heap.size,2,none⟩) (by simp;omega) (.string sv)).set (p:=⟨w.heap.size,3,none⟩) (by simp;omega) (.slice Av mv cv)).set (p:=⟨w.heap.size+1,0,none⟩) (by simp;omega) (.int .i64 0)).set (p:=⟨w.heap.size+1+1,0,none⟩) (by simp;omega) (.int .i64 0)
 simp [Leaves,settle,results,Tryd.results31,go_sem,d0,d1,d2,d3,de,dp]
 exact ⟨_,rfl,h6.mono fun b hb=>by omega,blw⟩
theorem get3_any (A:Option Addr) (n cap:Nat) (L:List Nat) (w:World) (hb:Bytes w A n L) (hnc:n≤cap) (hcm:cap≤maxLen):
  Calls Tryd.prog 31 #[.slice A n cap] w (Gets w (cget L)):=by
 have hl:=hb.1
 unfold cget
 by_cases hn:1048576<n
 ·rw [if_pos (by omega)];exact get_long A n cap w hn
 ·rw [if_neg (by omega)]
  cases hg:gtake 16 L 0 with
  |error x=>obtain ⟨e,p⟩:=x;exact get_err A n cap L w hb hnc hcm (by omega) e p hg
  |ok x=>
   obtain ⟨t,r1,a1⟩:=x
   simp only
   obtain ⟨h1,h2,h3,h4⟩:=gtake_good 16 0 t L r1 0 a1 rfl (by omega) hb.lt hg
   have h5:=congrArg List.length h3
   simp at h5
   by_cases ha:a1<L.length
   ·rw [if_pos ha];exact get_more A n cap L w hb hnc hcm (by omega) t r1 a1 hg (by omega)
   ·rw [if_neg ha]
    obtain rfl:a1=n:=by omega
    exact get_ok A a1 cap L w hb hnc hcm (by omega) t r1 hg
end Go.Proofs.YtlolnakeancenaaDoor
namespace Go.Proofs.YtlolnakeancenaaDoor
open Go.RowKit
set_option linter.unusedVariables false
set_option linter.unusedSimpArgs false
set_option maxRecDepth 20000
attribute [local go_sem ↓] Go.wp_at_zero Go.wp_at_succ
attribute [local go_sem] World.cell?_alloc_some frozen_alloc_some
attribute [local go_sem] lt2 lt3 lt4 lt5
attribute [local simp] lt2 lt3 lt4 lt5
/-- A number's four bytes, the greatest ahead. -/
def be4 (s:Nat):List Nat:=[s / 16777216 % 256,s / 65536 % 256,s / 256 % 256,s % 256]
/-- A version, a sum, and bytes. -/
def mframe (ver:Nat) (p:List Nat):List Nat:=ver :: be4 (crc p)++p
theorem made5 (w:World) (ver s:Nat) (hv:ver<256) (hs:s<4294967296):(w.alloc (.cells #[.int .u8 (ver:Int),.int .u8 ((s:Int) / 16777216),.int .u8 ((s:Int) / 65536 % 256),.int .u8 ((s:Int) / 256 % 256),.int .u8 ((s:Int) % 256)] 5)).ownsRow w.heap.size 5 1 (.slice (some ⟨w.heap.size,0,none⟩) 5 5) 5 (u8s (ver :: be4 s)):=by
 have h1:((s / 16777216 % 256:Nat):Int)=(s:Int) / 16777216:=by omega
 have h2:((s / 65536 % 256:Nat):Int)=(s:Int) / 65536 % 256:=by omega
 have h3:((s / 256 % 256:Nat):Int)=(s:Int) / 256 % 256:=by omega
 have h4:((s % 256:Nat):Int)=(s:Int) % 256:=by omega
 refine ⟨rfl,.inr ⟨w.heap.size,5,_,rfl,Nat.le_refl _,heap_alloc_new _ _,Nat.le_refl _,by decide,by simp,?_⟩⟩
 simp only [u8s,be4,List.map_cons,List.map_nil,h1,h2,h3,h4]
 rfl
theorem own_lowr {w:World} {base base':Nat} {e:TypeId} {size:Nat} {v:Value} {n:Nat} {xs:List Value} (h:w.ownsRow base e size v n xs) (hb:base'≤base):w.ownsRow base' e size v n xs:=
 ⟨h.1,h.2.imp id fun ⟨g,cap,cur,hv,hg,hr⟩=>⟨g,cap,cur,hv,by omega,hr⟩⟩
theorem crc_lt (l:List Nat):crc l<4294967296:=Nat.lt_of_le_of_lt (Nat.sub_le _ _) (by decide)
theorem pform_len (t:Tree):(pform t).length≤1048576:=by
 unfold pform
 split
 ·next h=>
  unfold perr at h
  split at h
  ·next h2=>exact absurd h h2
  ·split at h
   ·cases h
   ·omega
 ·simp
set_option maxHeartbeats 4000000 in
theorem frame_any (ver:Nat) (hver:ver<256) (t:Tree) (v:Value) (w:World) (hsz:tsize t≤10000000) (ht:Holds w t v):
  Calls Tryd.prog 10 #[.int .u8 (ver:Int),v] w (Puts w .i64 5 (if perr t=0 then mframe ver (pform t) else []) (perr t)):=by
 have hput:=fun W (h:Below w.heap.size w W)=>put3_any t v W hsz (ht.keep h)
 have hpl:=pform_len t
 obtain ⟨k,n,s,l⟩:=t
 obtain ⟨A,m,c,rfl, -, -, -, -, -, -, -⟩:=ht.open_
 generalize pform (.mk k n s l)=P at*
 generalize perr (.mk k n s l)=E at*
 obtain ⟨S,hS⟩:∃S,crc P=S:=⟨_,rfl⟩
 have hs:=crc_lt P
 rw [hS] at hs
 obtain ⟨i0,hi,hz0,hz1,hz2⟩:=info_parts info_u8
 have hsum:=fun W g A' m' c' (h:W.cell? ⟨g,0,none⟩=some (.slice A' m' c')) (hb:Bytes W A' m' P)=>sum_any (some ⟨g,0,none⟩) 1 1 [P] W (texts1 h hb)
 simp only [List.flatten_cons,List.flatten_nil,List.append_nil,hS] at hsum
 have X:Blk (w.alloc (.cells #[.int .i64 k,.int .u64 (n:Int),.string s,.slice A m c] 25)) w.heap.size 25 #[.int .i64 k,.int .u64 (n:Int),.string s,.slice A m c]:=Blk.new w _ _
 have kk:Below w.heap.size w (w.alloc (.cells #[.int .i64 k,.int .u64 (n:Int),.string s,.slice A m c] 25)):=below_one _
 have Hput:=Lib.hid hput
 have Hsum:=Lib.hid hsum
 have HS:=Lib.hid hS
 clear hput hsum hS ht hsz
 by_cases hE:E=0
 case neg=>
  rw [if_neg hE]
  have hE':((E:Int) != 0)=true:=by simp;omega
  go_enter Tryd.func10,Tryd.ntmps10
  go_wp2_with (go_at_call 26;(with_reducible refine (Hput.out _ kk).mono ?_);clear Hput;rintro e w1 ⟨v1,rfl,hown1,hb1⟩;replace kk:=below_call kk hb1 kk.size;clear hown1)
  refine bodyPost_ret (v:=.tuple #[.slice none 0 0,.int .i64 (E:Int)]) (by simp [results,Tryd.results10,go_sem, *] <;> rfl) rfl ?_
  exact ⟨_,rfl,OwnB.nil_ _ _ _,kk⟩
 rw [if_pos hE]
 subst hE
 have hv0:(0:Int)≤(ver:Int):=by omega
 have hv1:(ver:Int)<256:=by omega
 go_enter Tryd.func10,Tryd.ntmps10
 go_upto_region 5 with (first
  |(go_at_call 26;(with_reducible refine (Hput.out _ kk).mono ?_);clear Hput;rintro e w1 ⟨v1,rfl,hown1,hb1⟩;replace kk:=below_call kk hb1 kk.size;obtain ⟨A1,c1,rfl,_,_⟩:=hown1.form;have by1:=hown1.bytes.2.2;have ba:=by1.keep (below_one (.cells #[.slice A1 P.length c1] 28));have ca:=(Blk.new w1 28 #[.slice A1 P.length c1]).cell 0)
  |(go_at_call 27;(with_reducible refine (Hsum.out _ _ _ _ _ ca ba).mono ?_);clear Hsum;rintro e w2 ⟨rfl,hb2⟩;have kb:=below_call (kk.alloc kk.size (.cells #[.slice A1 P.length c1] 28)) hb2 (kk.alloc kk.size _).size;have by2:=ba.keep hb2;have own2:=(hown1.keep (below_one (.cells #[.slice A1 P.length c1] 28))).keep hb2))
 have src2:=Src.of_bytes (by2.keep (below_one (.cells #[.int .u8 (ver:Int),.int .u8 ((S:Int) / 16777216),.int .u8 ((S:Int) / 65536 % 256),.int .u8 ((S:Int) / 256 % 256),.int .u8 ((S:Int) % 256)] 5)))
 have own5:=made5 w2 ver S hver hs
 have hzb:=kb.size
 have HB:=Lib.hid own2.2
 clear own2 by2 by1 ba ca hown1
 go_wp2_with ((at_builtin;go_loud (refine wpList_app _ rfl (.tmp 32) (.tmp 33) 28 rfl _ 5 i0 _ 1 1 Tryd.underlying28 hi hz0 hz1 hz2 rfl (by omega) _ _ _ rfl own5 _ _ _ _ rfl src2 ?h63 ?hby ?hbase ?_);(case h63=>(unfold maxLen;first|omega|(simp;done)|(simp;omega)));(case hby=>first|omega|(simp;done)|(simp;omega));(case hbase=>first|omega|(simp;done)|(simp;omega));intro v5 w5 hownw5 hgroww5 hatw5 holdw5))
 have hb5:=below_app (B:=w.heap.size) (kb.alloc kb.size _) own5 hgroww5 (by omega) (by simp;omega)
 have hall:∀x∈(ver :: be4 S),x<256:=fun x hx=>by simp [be4] at hx;omega
 have own6:OwnB w5 w.heap.size 5 v5 ((ver :: be4 S)++P):=OwnB.join (show w5.ownsRow w.heap.size 5 1 v5 ((ver :: be4 S).length+P.length) (u8s (ver :: be4 S)++u8s P) from own_lowr hownw5 (by omega)) hall HB.out
 refine bodyPost_ret (v:=.tuple #[v5,.int .i64 0]) (by simp [results,Tryd.results10,go_sem, *] <;> rfl) rfl ?_
 exact ⟨_,rfl,by unfold mframe;rw [HS.out];exact own6,hb5⟩
end Go.Proofs.YtlolnakeancenaaDoor
namespace Go.Proofs.YtlolnakeancenaaDoor
open Go.RowKit
set_option linter.unusedVariables false
set_option linter.unusedSimpArgs false
set_option maxRecDepth 20000
attribute [local go_sem ↓] Go.wp_at_zero Go.wp_at_succ
attribute [local go_sem] World.cell?_alloc_some frozen_alloc_some
attribute [local go_sem] lt2 lt3 lt4 lt5
attribute [local simp] lt2 lt3 lt4 lt5
theorem add_blk (a:Addr) (i:Nat):(a.add i).block=a.block:=by unfold Addr.add;split <;> rfl
theorem Items.set_leaf {w:World} {g cc:Nat} {k c q r:Nat} {y x:ByteArray} {p:Addr} (h:Items w (some ⟨g,0,none⟩) 6 cc [.mk 0 k ByteArray.empty [],.mk 0 c ByteArray.empty [],.mk 0 q ByteArray.empty [],.mk 1 0 y [],.mk 1 0 x [],.mk 0 r ByteArray.empty []]) (hp:p.block≠g) (u:Value):Items (w.setCell p u) (some ⟨g,0,none⟩) 6 cc [.mk 0 k ByteArray.empty [],.mk 0 c ByteArray.empty [],.mk 0 q ByteArray.empty [],.mk 1 0 y [],.mk 1 0 x [],.mk 0 r ByteArray.empty []]:=by
 obtain ⟨h1,h2,h3,vs,h4,h5⟩:=h
 refine ⟨h1,h2,h3,vs,fun i hi=>?_,fun i t hi=>?_⟩
 ·obtain ⟨ad,e,hc⟩:=h4 i hi
  injection e with e
  subst e
  exact ⟨_,rfl,fun j v hv=>cell_far (hc j v hv) (by rw [add_blk];exact hp)⟩
 ·match i with
  |0=>simp at hi;subst hi;exact (h5 0 _ rfl).leaf
  |1=>simp at hi;subst hi;exact (h5 1 _ rfl).leaf
  |2=>simp at hi;subst hi;exact (h5 2 _ rfl).leaf
  |3=>simp at hi;subst hi;exact (h5 3 _ rfl).leaf
  |4=>simp at hi;subst hi;exact (h5 4 _ rfl).leaf
  |5=>simp at hi;subst hi;exact (h5 5 _ rfl).leaf
  |i+6=>simp at hi
end Go.Proofs.YtlolnakeancenaaDoor
