/- The walks of msg.sum, Open. -/
import Derived.Test.YtlolnakeancenaaDoorShimApartQ18
import Derived.Test.YtlolnakeancenaaDoorShimApartQ11
import Derived.WalkKit
import Derived.WalkSpells
import Derived.WalkLawsBesides
import Derived.Deep.RegionHeld3
import Derived.Deep.DrawnRows
import Derived.Deep.DeepCutAuto
import Derived.Deep.DeepFit
import Derived.Lib.Hide
import Derived.BigQuiet
import Derived.Deep.QuietTactic
namespace Go.Proofs.YtlolnakeancenaaDoor
open Go.RowKit
set_option linter.unusedVariables false
set_option linter.unusedSimpArgs false
set_option maxRecDepth 20000
attribute [local go_sem ↓] Go.wp_at_zero Go.wp_at_succ
attribute [local go_sem] World.cell?_alloc_some frozen_alloc_some
attribute [local go_sem] lt2 lt3 lt4 lt5
attribute [local simp] lt2 lt3 lt4 lt5
set_option maxHeartbeats 2000000 in
theorem sum10_any (A:Option Addr) (m cap:Nat) (L:List Nat) (w:World) (hb:Bytes w A m L) (h4:m≤4):
  Calls Tryd.prog 30 #[.slice A m cap] w (Gives w (.int .u32 (beval L:Nat))):=by
 have hm1:=hb.1
 have Hm:=Lib.hid hm1
 clear hm1
 go_enter Tryd.func30,Tryd.ntmps30
 go_wp2
 go_loop [2,7] (fun v s7=>∃k:Nat,k≤m∧s7= .int .i64 k∧v= .int .u32 (beval (L.take k):Nat)) (fun _ s7=>m - (intOf s7).toNat)
 case atStart=>exact ⟨0,by omega,rfl,rfl⟩
 case round=>
  obtain ⟨k,hk,rfl,rfl⟩:=hrel
  by_cases hlt:k<m
  ·obtain ⟨bd,x,rfl,hx,hx2,hxc⟩:=hb.at_ hlt
   have hv:beval (L.take k)<16777216:=by
    have h1:=beval_lt (L.take k) (fun c hc=>hb.lt c (List.mem_of_mem_take hc))
    have e:(L.take k).length=k:=by rw [List.length_take];have:=Hm.out;omega
    rw [e] at h1
    have h2:k=0∨k=1∨k=2∨k=3:=by omega
    rcases h2 with rfl|rfl|rfl|rfl <;> omega
   have hnx:beval (L.take (k+1))=beval (L.take k)*256+x:=by
    rw [List.take_add_one,hx]
    exact beval_snoc _ _
   have Hnx:=Lib.hid hnx
   clear hnx hx
   generalize beval (L.take k)=v at*
   go_wp2_with fail
   go_round
   case rel=>
    refine ⟨k+1,by omega,by go_num,?_⟩
    rw [Hnx.out]
    have ho:=u32_or_nat (v*256) x (by omega) (by omega)
    rw [nat_join 8 (v*256) x (by omega) (by omega)] at ho
    rw [←ho]
    congr 2
   case measure=>simp [intOf];omega
  ·have hkm:L.take k=L:=List.take_of_length_le (by have:=Hm.out;omega)
   rw [hkm]
   go_wp2_with fail
   go_ret
   exact ⟨rfl,blw⟩
/-- The item of a frame's bytes, and the error's number. -/
def mopen (ver:Nat) (L:List Nat):Tree × Nat:=
 if L.length<5 then (tNone,2) else if ver<L.headD 0 then (tNone,13) else if L.headD 0<ver then (tNone,4)
 else if beval ((L.drop 1).take 4)≠crc (L.drop 5) then (tNone,5) else ((cget (L.drop 5)).1,(cget (L.drop 5)).2.1)
def Opens (w:World) (x:Tree × Nat) (r:Ending) (w':World):Prop:=
 ∃v,r= .returned (.tuple #[v,.int .i64 (x.2:Int)])∧HoldsIn w' (fun b=>w.heap.size≤b) x.1 v∧Below w.heap.size w w'
set_option maxHeartbeats 4000000 in
theorem open_any (ver:Nat) (hver:ver<256) (A:Option Addr) (m cap:Nat) (L:List Nat) (w:World) (hb:Bytes w A m L) (hnc:m≤cap) (hcm:cap≤maxLen):
  Calls Tryd.prog 12 #[.int .u8 (ver:Int),.slice A m cap] w (Opens w (mopen ver L)):=by
 have hl:=hb.1
 obtain ⟨R,hR⟩:∃R,mopen ver L=R:=⟨_,rfl⟩
 rw [hR]
 unfold mopen at hR
 have HL:=Lib.hid hl
 have hcm2:=hcm
 unfold maxLen at hcm2
 by_cases h5:m<5
 ·rw [if_pos (by omega)] at hR
  subst hR
  clear hl hb
  have h5':((m:Int)<5):=by omega
  go_enter Tryd.func12,Tryd.ntmps12
  go_wp2_with fail
  refine bodyPost_ret (v:=.tuple #[noneV,.int .i64 2]) (by simp [results,Tryd.results12,go_sem,noneV, *] <;> rfl) rfl ?_
  exact ⟨_,rfl,hin_none _ _,blw⟩
 rw [if_neg (by omega)] at hR
 obtain ⟨ad,x,rfl,hx,hx2,hxc⟩:=hb.at_ (k:=0) (by omega)
 rw [show ad.add 0=ad from rfl] at hxc
 have hhd:L.headD 0=x:=by
  cases L with
  |nil=>simp at hx
  |cons a l=>simpa using hx
 rw [hhd] at hR
 have h5':¬((m:Int)<5):=by omega
 by_cases g1:ver<x
 ·rw [if_pos g1] at hR
  subst hR
  clear hl hx hhd
  have g1':((ver:Int)<(x:Int)):=by omega
  go_enter Tryd.func12,Tryd.ntmps12
  go_wp2_with fail
  refine bodyPost_ret (v:=.tuple #[noneV,.int .i64 13]) (by simp [results,Tryd.results12,go_sem,noneV, *] <;> rfl) rfl ?_
  exact ⟨_,rfl,hin_none _ _,blw⟩
 rw [if_neg g1] at hR
 have g1':¬((ver:Int)<(x:Int)):=by omega
 by_cases g2:x<ver
 ·rw [if_pos g2] at hR
  subst hR
  clear hl hx hhd g1
  have g2':((x:Int)<(ver:Int)):=by omega
  go_enter Tryd.func12,Tryd.ntmps12
  go_wp2_with fail
  refine bodyPost_ret (v:=.tuple #[noneV,.int .i64 4]) (by simp [results,Tryd.results12,go_sem,noneV, *] <;> rfl) rfl ?_
  exact ⟨_,rfl,hin_none _ _,blw⟩
 rw [if_neg g2] at hR
 have g2':¬((x:Int)<(ver:Int)):=by omega
 have hcut1:Bytes w (some ⟨ad.block,ad.off+1,none⟩) 4 ((L.drop 1).take 4):=by
  have h:=(hb.cutFrom (k:=1) (cap:=cap) (by omega) hnc)
  rw [if_neg (by omega)] at h
  exact h.cutTo (by omega)
 have hcut5:=hb.cutFrom (k:=5) (cap:=cap) (by omega) hnc
 rw [show (some ad).map (·.add 5)=some (⟨ad.block,ad.off+5,none⟩:Addr) from rfl] at hcut5
 have hsum:=fun W (h:Below w.heap.size w W)=>sum10_any (some ⟨ad.block,ad.off+1,none⟩) 4 (cap - 1) _ W (hcut1.keep h) (Nat.le_refl _)
 have hcrc:=fun W g (h:Below w.heap.size w W) (hc:W.cell? ⟨g,0,none⟩=some (.slice (if cap=5 then some ad else some ⟨ad.block,ad.off+5,none⟩) (m - 5) (cap - 5)))=>sum_any (some ⟨g,0,none⟩) 1 1 [L.drop 5] W (texts1 hc (hcut5.keep h))
 have hget:=fun W (h:Below w.heap.size w W)=>get3_any (if cap=5 then some ad else some ⟨ad.block,ad.off+5,none⟩) (m - 5) (cap - 5) (L.drop 5) W (hcut5.keep h) (by omega) (by unfold maxLen;omega)
 simp only [List.flatten_cons,List.flatten_nil,List.append_nil] at hcrc
 generalize beval ((L.drop 1).take 4)=s1 at*
 generalize crc (L.drop 5)=s2 at*
 generalize cget (L.drop 5)=G at*
 obtain ⟨t,e,p⟩:=G
 have Hs:=Lib.hid hsum
 have Hc:=Lib.hid hcrc
 have Hg:=Lib.hid hget
 have HR:=Lib.hid hR
 clear hcut1 hcut5 hsum hcrc hget hb hx hhd hl g1 g2 h5 hR
 have e1:((m:Int) - 5)=((m - 5:Nat):Int):=by omega
 have hc1:¬(cap=1):=by omega
 have hm5:(5:Int)≤(m:Int):=by omega
 have hcap5:(5:Int)≤(cap:Int):=by omega
 have X:Blk (w.alloc (.cells #[.int .i64 0,.int .u64 0,.string ⟨#[]⟩,.slice none 0 0] 25)).drew w.heap.size 25 #[.int .i64 0,.int .u64 0,.string ⟨#[]⟩,.slice none 0 0]:=(Blk.new w _ _).keep (Below.refl _ _).drew
 have kk:Below w.heap.size w (w.alloc (.cells #[.int .i64 0,.int .u64 0,.string ⟨#[]⟩,.slice none 0 0] 25)).drew:=(below_one _).drew
 by_cases hs:s1=s2
 case neg=>
  have hs':((s1:Int) != (s2:Int))=true:=by simp;omega
  have hR2:=HR.out
  rw [if_pos hs] at hR2
  subst hR2
  clear hs HR
  go_enter Tryd.func12,Tryd.ntmps12
  go_upto_region 7 with fail
  (refine wp_region_held_drew (S:=(fun _=>True)) (by kernel_rfl) ?_ (fun hHeld=>?_);(· exact trivial))
  (refine take_op (i:=0) (v:=?_) rfl (by kernel_rfl) (by kernel_rfl) (by kernel_rfl) (fun _ _ _ h=>h) (by rfl) ?_ hHeld ?_;rotate_left;(· (intro wS hSw;(try dsimp only at hSw);go_simp;first|done|with_reducible rfl));simp only [Act.put,sta_,scz_,scs_]);(refine take_op (i:=1) (v:=?_) rfl (by kernel_rfl) (by kernel_rfl) (by kernel_rfl) (fun _ _ _ h=>h) (by rfl) ?_ hHeld ?_;rotate_left;(· (intro wS hSw;(try dsimp only at hSw);go_simp;first|done|with_reducible rfl));simp only [Act.put,sta_,scz_,scs_]);(refine take_op (i:=3) (v:=?_) rfl (by kernel_rfl) (by kernel_rfl) (by kernel_rfl) (fun _ _ _ h=>h) (by rfl) ?_ hHeld ?_;rotate_left;(· (intro wS hSw;(try dsimp only at hSw);go_simp;first|done|with_reducible rfl));simp only [Act.put,sta_,scz_,scs_]);(refine take_op (i:=4) (v:=?_) rfl (by kernel_rfl) (by kernel_rfl) (by kernel_rfl) (fun _ _ _ h=>h) (by rfl) ?_ hHeld ?_;rotate_left;(· (intro wS hSw;(try dsimp only at hSw);go_simp;first|done|with_reducible rfl));simp only [Act.put,sta_,scz_,scs_])
  revert hHeld X kk
  generalize World.drew _=wa
  intro X kk hHeld
  refine two_op (i:=2) (j:=5) rfl rfl (by kernel_rfl) (by rfl) (by rfl) ?_ ?_
  ·(intro K hK;go_simp;(go_at_call 30;(with_reducible refine (Hs.out _ kk).mono ?_);rintro e w1 ⟨rfl,hb1⟩;replace kk:=below_call kk hb1 kk.size;replace X:=X.keep hb1;clear hb1);refine hK.out _ _ trivial (fun hHeld2=>?_);clear hK K hHeld;have hHeld:=hHeld2;clear hHeld2;(try simp only [Act.put,sta_,scz_,scs_]))
   (refine call_op (i:=5) rfl (by kernel_rfl) (by rfl) (fun K hK=>?_);go_simp;skip;refine hK.out _ _ trivial (fun hHeld2=>?_);clear hK K hHeld;have hHeld:=hHeld2;clear hHeld2;(try simp only [Act.put,sta_,scz_,scs_]))
   have ca:=(Blk.new w1 28 #[(.slice (if cap=5 then some ad else some ⟨ad.block,ad.off+5,none⟩) (m - 5) (cap - 5))]).cell 0;replace X:=X.alloc (.cells #[(.slice (if cap=5 then some ad else some ⟨ad.block,ad.off+5,none⟩) (m - 5) (cap - 5))] 28);replace kk:=kk.alloc kk.size (.cells #[(.slice (if cap=5 then some ad else some ⟨ad.block,ad.off+5,none⟩) (m - 5) (cap - 5))] 28)
   (refine call_op (i:=6) rfl (by kernel_rfl) (by rfl) (fun K hK=>?_);go_simp;(go_at_call 27;(with_reducible refine (Hc.out _ _ kk ca).mono ?_);rintro e w3 ⟨rfl,hb3⟩;replace kk:=below_call kk hb3 kk.size;replace X:=X.keep hb3;clear ca hb3);refine hK.out _ _ trivial (fun hHeld2=>?_);clear hK K hHeld;have hHeld:=hHeld2;clear hHeld2;(try simp only [Act.put,sta_,scz_,scs_]))
   (refine take_op (i:=7) (v:=?_) rfl (by kernel_rfl) (by kernel_rfl) (by kernel_rfl) (fun _ _ _ h=>h) (by rfl) ?_ hHeld ?_;rotate_left;(· (intro wS hSw;(try dsimp only at hSw);go_simp;first|done|with_reducible rfl));simp only [Act.put,sta_,scz_,scs_]);(refine take_op (i:=8) (v:=?_) rfl (by kernel_rfl) (by kernel_rfl) (by kernel_rfl) (fun _ _ _ h=>h) (by rfl) ?_ hHeld ?_;rotate_left;(· (intro wS hSw;(try dsimp only at hSw);go_simp;first|done|with_reducible rfl));simp only [Act.put,sta_,scz_,scs_])
   (refine wpAnyH_done (by kernel_rfl) ?_ _)
   clear hHeld Hs Hc
   have hX3:=X.lt
   have Xc:=X.cell;have Xf:=X.frozen
   go_wp2_with fail
   all_goals (refine bodyPost_ret (v:=.tuple #[noneV,.int .i64 5]) (by simp [results,Tryd.results12,go_sem,noneV, *] <;> rfl) rfl ?_)
   all_goals exact ⟨_,rfl,hin_none _ _,blw⟩
  ·(intro K hK;go_simp;skip;refine hK.out _ _ trivial (fun hHeld2=>?_);clear hK K hHeld;have hHeld:=hHeld2;clear hHeld2;(try simp only [Act.put,sta_,scz_,scs_]))
   have ca:=(Blk.new wa 28 #[(.slice (if cap=5 then some ad else some ⟨ad.block,ad.off+5,none⟩) (m - 5) (cap - 5))]).cell 0;replace X:=X.alloc (.cells #[(.slice (if cap=5 then some ad else some ⟨ad.block,ad.off+5,none⟩) (m - 5) (cap - 5))] 28);replace kk:=kk.alloc kk.size (.cells #[(.slice (if cap=5 then some ad else some ⟨ad.block,ad.off+5,none⟩) (m - 5) (cap - 5))] 28)
   (refine call_op (i:=2) rfl (by kernel_rfl) (by rfl) (fun K hK=>?_);go_simp;(go_at_call 30;(with_reducible refine (Hs.out _ kk).mono ?_);rintro e w1 ⟨rfl,hb1⟩;replace kk:=below_call kk hb1 kk.size;replace X:=X.keep hb1;replace ca:=cell_keep hb1 ca;clear hb1);refine hK.out _ _ trivial (fun hHeld2=>?_);clear hK K hHeld;have hHeld:=hHeld2;clear hHeld2;(try simp only [Act.put,sta_,scz_,scs_]))
   (refine call_op (i:=6) rfl (by kernel_rfl) (by rfl) (fun K hK=>?_);go_simp;(go_at_call 27;(with_reducible refine (Hc.out _ _ kk ca).mono ?_);rintro e w3 ⟨rfl,hb3⟩;replace kk:=below_call kk hb3 kk.size;replace X:=X.keep hb3;clear ca hb3);refine hK.out _ _ trivial (fun hHeld2=>?_);clear hK K hHeld;have hHeld:=hHeld2;clear hHeld2;(try simp only [Act.put,sta_,scz_,scs_]))
   (refine take_op (i:=7) (v:=?_) rfl (by kernel_rfl) (by kernel_rfl) (by kernel_rfl) (fun _ _ _ h=>h) (by rfl) ?_ hHeld ?_;rotate_left;(· (intro wS hSw;(try dsimp only at hSw);go_simp;first|done|with_reducible rfl));simp only [Act.put,sta_,scz_,scs_]);(refine take_op (i:=8) (v:=?_) rfl (by kernel_rfl) (by kernel_rfl) (by kernel_rfl) (fun _ _ _ h=>h) (by rfl) ?_ hHeld ?_;rotate_left;(· (intro wS hSw;(try dsimp only at hSw);go_simp;first|done|with_reducible rfl));simp only [Act.put,sta_,scz_,scs_])
   (refine wpAnyH_done (by kernel_rfl) ?_ _)
   clear hHeld Hs Hc
   have hX3:=X.lt
   have Xc:=X.cell;have Xf:=X.frozen
   go_wp2_with fail
   all_goals (refine bodyPost_ret (v:=.tuple #[noneV,.int .i64 5]) (by simp [results,Tryd.results12,go_sem,noneV, *] <;> rfl) rfl ?_)
   all_goals exact ⟨_,rfl,hin_none _ _,blw⟩
 have hs':((s1:Int) != (s2:Int))=false:=by simp [hs]
 have hR2:=HR.out
 rw [if_neg (by omega)] at hR2
 subst hR2
 clear HR
 go_enter Tryd.func12,Tryd.ntmps12
 go_upto_region 7 with fail
 (refine wp_region_held_drew (S:=(fun _=>True)) (by kernel_rfl) ?_ (fun hHeld=>?_);(· exact trivial))
 (refine take_op (i:=0) (v:=?_) rfl (by kernel_rfl) (by kernel_rfl) (by kernel_rfl) (fun _ _ _ h=>h) (by rfl) ?_ hHeld ?_;rotate_left;(· (intro wS hSw;(try dsimp only at hSw);go_simp;first|done|with_reducible rfl));simp only [Act.put,sta_,scz_,scs_]);(refine take_op (i:=1) (v:=?_) rfl (by kernel_rfl) (by kernel_rfl) (by kernel_rfl) (fun _ _ _ h=>h) (by rfl) ?_ hHeld ?_;rotate_left;(· (intro wS hSw;(try dsimp only at hSw);go_simp;first|done|with_reducible rfl));simp only [Act.put,sta_,scz_,scs_]);(refine take_op (i:=3) (v:=?_) rfl (by kernel_rfl) (by kernel_rfl) (by kernel_rfl) (fun _ _ _ h=>h) (by rfl) ?_ hHeld ?_;rotate_left;(· (intro wS hSw;(try dsimp only at hSw);go_simp;first|done|with_reducible rfl));simp only [Act.put,sta_,scz_,scs_]);(refine take_op (i:=4) (v:=?_) rfl (by kernel_rfl) (by kernel_rfl) (by kernel_rfl) (fun _ _ _ h=>h) (by rfl) ?_ hHeld ?_;rotate_left;(· (intro wS hSw;(try dsimp only at hSw);go_simp;first|done|with_reducible rfl));simp only [Act.put,sta_,scz_,scs_])
 revert hHeld X kk
 generalize World.drew _=wa
 intro X kk hHeld
 refine two_op (i:=2) (j:=5) rfl rfl (by kernel_rfl) (by rfl) (by rfl) ?_ ?_
 ·(intro K hK;go_simp;(go_at_call 30;(with_reducible refine (Hs.out _ kk).mono ?_);rintro e w1 ⟨rfl,hb1⟩;replace kk:=below_call kk hb1 kk.size;replace X:=X.keep hb1;clear hb1);refine hK.out _ _ trivial (fun hHeld2=>?_);clear hK K hHeld;have hHeld:=hHeld2;clear hHeld2;(try simp only [Act.put,sta_,scz_,scs_]))
  (refine call_op (i:=5) rfl (by kernel_rfl) (by rfl) (fun K hK=>?_);go_simp;skip;refine hK.out _ _ trivial (fun hHeld2=>?_);clear hK K hHeld;have hHeld:=hHeld2;clear hHeld2;(try simp only [Act.put,sta_,scz_,scs_]))
  have ca:=(Blk.new w1 28 #[(.slice (if cap=5 then some ad else some ⟨ad.block,ad.off+5,none⟩) (m - 5) (cap - 5))]).cell 0;replace X:=X.alloc (.cells #[(.slice (if cap=5 then some ad else some ⟨ad.block,ad.off+5,none⟩) (m - 5) (cap - 5))] 28);replace kk:=kk.alloc kk.size (.cells #[(.slice (if cap=5 then some ad else some ⟨ad.block,ad.off+5,none⟩) (m - 5) (cap - 5))] 28)
  (refine call_op (i:=6) rfl (by kernel_rfl) (by rfl) (fun K hK=>?_);go_simp;(go_at_call 27;(with_reducible refine (Hc.out _ _ kk ca).mono ?_);rintro e w3 ⟨rfl,hb3⟩;replace kk:=below_call kk hb3 kk.size;replace X:=X.keep hb3;clear ca hb3);refine hK.out _ _ trivial (fun hHeld2=>?_);clear hK K hHeld;have hHeld:=hHeld2;clear hHeld2;(try simp only [Act.put,sta_,scz_,scs_]))
  (refine take_op (i:=7) (v:=?_) rfl (by kernel_rfl) (by kernel_rfl) (by kernel_rfl) (fun _ _ _ h=>h) (by rfl) ?_ hHeld ?_;rotate_left;(· (intro wS hSw;(try dsimp only at hSw);go_simp;first|done|with_reducible rfl));simp only [Act.put,sta_,scz_,scs_]);(refine take_op (i:=8) (v:=?_) rfl (by kernel_rfl) (by kernel_rfl) (by kernel_rfl) (fun _ _ _ h=>h) (by rfl) ?_ hHeld ?_;rotate_left;(· (intro wS hSw;(try dsimp only at hSw);go_simp;first|done|with_reducible rfl));simp only [Act.put,sta_,scz_,scs_])
  (refine wpAnyH_done (by kernel_rfl) ?_ _)
  clear hHeld Hs Hc
  have hX3:=X.lt
  have Xc:=X.cell;have Xf:=X.frozen
  go_wp2_with (go_at_call 31;(with_reducible refine (Hg.out _ kk).mono ?_);rintro r w5 ⟨v5,rfl,h5i,hb5⟩;have hz5:=hb5.size;(try simp at hz5);obtain ⟨k5,n5,s5,A5,m5,c5,rfl⟩:=h5i.form;clear Xc Xf;replace X:=X.keep hb5;have Xc:=X.cell;have Xf:=X.frozen;have H5:=Lib.hid h5i;clear h5i)
  all_goals (refine bodyPost_ret (v:=.tuple #[.agg #[.int .i64 k5,.int .u64 n5,.string s5,.slice A5 m5 c5],.int .i64 (e:Int)]) (by simp [results,Tryd.results12,go_sem, *] <;> rfl) rfl ?_)
  all_goals exact ⟨_,rfl,(hin_set4 (H5.out.under (below_one _)) (g:=w.heap.size) (by omega) _ _ _ _).mono (fun b hb=>by omega),blw⟩
 ·(intro K hK;go_simp;skip;refine hK.out _ _ trivial (fun hHeld2=>?_);clear hK K hHeld;have hHeld:=hHeld2;clear hHeld2;(try simp only [Act.put,sta_,scz_,scs_]))
  have ca:=(Blk.new wa 28 #[(.slice (if cap=5 then some ad else some ⟨ad.block,ad.off+5,none⟩) (m - 5) (cap - 5))]).cell 0;replace X:=X.alloc (.cells #[(.slice (if cap=5 then some ad else some ⟨ad.block,ad.off+5,none⟩) (m - 5) (cap - 5))] 28);replace kk:=kk.alloc kk.size (.cells #[(.slice (if cap=5 then some ad else some ⟨ad.block,ad.off+5,none⟩) (m - 5) (cap - 5))] 28)
  (refine call_op (i:=2) rfl (by kernel_rfl) (by rfl) (fun K hK=>?_);go_simp;(go_at_call 30;(with_reducible refine (Hs.out _ kk).mono ?_);rintro e w1 ⟨rfl,hb1⟩;replace kk:=below_call kk hb1 kk.size;replace X:=X.keep hb1;replace ca:=cell_keep hb1 ca;clear hb1);refine hK.out _ _ trivial (fun hHeld2=>?_);clear hK K hHeld;have hHeld:=hHeld2;clear hHeld2;(try simp only [Act.put,sta_,scz_,scs_]))
  (refine call_op (i:=6) rfl (by kernel_rfl) (by rfl) (fun K hK=>?_);go_simp;(go_at_call 27;(with_reducible refine (Hc.out _ _ kk ca).mono ?_);rintro e w3 ⟨rfl,hb3⟩;replace kk:=below_call kk hb3 kk.size;replace X:=X.keep hb3;clear ca hb3);refine hK.out _ _ trivial (fun hHeld2=>?_);clear hK K hHeld;have hHeld:=hHeld2;clear hHeld2;(try simp only [Act.put,sta_,scz_,scs_]))
  (refine take_op (i:=7) (v:=?_) rfl (by kernel_rfl) (by kernel_rfl) (by kernel_rfl) (fun _ _ _ h=>h) (by rfl) ?_ hHeld ?_;rotate_left;(· (intro wS hSw;(try dsimp only at hSw);go_simp;first|done|with_reducible rfl));simp only [Act.put,sta_,scz_,scs_]);(refine take_op (i:=8) (v:=?_) rfl (by kernel_rfl) (by kernel_rfl) (by kernel_rfl) (fun _ _ _ h=>h) (by rfl) ?_ hHeld ?_;rotate_left;(· (intro wS hSw;(try dsimp only at hSw);go_simp;first|done|with_reducible rfl));simp only [Act.put,sta_,scz_,scs_])
  (refine wpAnyH_done (by kernel_rfl) ?_ _)
  clear hHeld Hs Hc
  have hX3:=X.lt
  have Xc:=X.cell;have Xf:=X.frozen
  go_wp2_with (go_at_call 31;(with_reducible refine (Hg.out _ kk).mono ?_);rintro r w5 ⟨v5,rfl,h5i,hb5⟩;have hz5:=hb5.size;(try simp at hz5);obtain ⟨k5,n5,s5,A5,m5,c5,rfl⟩:=h5i.form;clear Xc Xf;replace X:=X.keep hb5;have Xc:=X.cell;have Xf:=X.frozen;have H5:=Lib.hid h5i;clear h5i)
  all_goals (refine bodyPost_ret (v:=.tuple #[.agg #[.int .i64 k5,.int .u64 n5,.string s5,.slice A5 m5 c5],.int .i64 (e:Int)]) (by simp [results,Tryd.results12,go_sem, *] <;> rfl) rfl ?_)
  all_goals exact ⟨_,rfl,(hin_set4 (H5.out.under (below_one _)) (g:=w.heap.size) (by omega) _ _ _ _).mono (fun b hb=>by omega),blw⟩
end Go.Proofs.YtlolnakeancenaaDoor
