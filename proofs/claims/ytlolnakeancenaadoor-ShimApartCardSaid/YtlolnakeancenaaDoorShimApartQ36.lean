/- The walk of msg.Check. The walks of an item's parts: next, number. The walk of ballot.Take at any item. attr.Take, TakeOld and the document's at any item, in one word each; a right one's item is taken as it. What an item's parts are read as: plain. The walk of shim.last. The walks of shim.down (of a right item), up, hangs. -/
import Derived.Test.YtlolnakeancenaaDoorShimApartQ33
import Derived.Test.YtlolnakeancenaaDoorShimApartQ34
import Derived.Test.YtlolnakeancenaaDoorShimApartQ11
import Derived.Test.YtlolnakeancenaaDoorShimApartQ0
import Derived.Test.YtlolnakeancenaaDoorShimApartQ12
import Derived.Test.YtlolnakeancenaaDoorShimApartQ14
import Derived.Test.YtlolnakeancenaaDoorShimApartQ10
import Derived.Test.YtlolnakeancenaaDoorShimApartQ35
import Derived.Test.YtlolnakeancenaaDoorShimApartQ25
import Derived.Test.YtlolnakeancenaaDoorShimApartQ16
import Derived.Test.YtlolnakeancenaaDoorShimApartQ19
import Derived.WalkKit
import Derived.WalkSpells
import Derived.WalkLawsBesides
import Derived.Deep.RegionHeld3
import Derived.Deep.DrawnRows
import Derived.Deep.DeepCutAuto
import Derived.Deep.DeepFit
import Derived.Lib.Hide
import Derived.BigQuiet
import Derived.Deep.QuietTactic
namespace Go.Proofs.YtlolnakeancenaaDoor
open Go.RowKit
set_option linter.unusedVariables false
set_option linter.unusedSimpArgs false
set_option maxRecDepth 20000
attribute [local go_sem ↓] Go.wp_at_zero Go.wp_at_succ
attribute [local go_sem] World.cell?_alloc_some frozen_alloc_some
attribute [local go_sem ↓ high] loadVar_msg storeVar_msg msg_store_new
/-- Is a message right? -/
def mok (a:MsgT):Bool:=decide (1≤a.k∧a.k<10)&&(msame a (plainM a)&&mright a)
def mErr (b:Bool):Int:=if b then 0 else 4
theorem plain_ids {w:World} {a:MsgT} (h:IdsAt w a.A a.m a.l):IdsAt w (plainM a).A (plainM a).m (plainM a).l:=by
 unfold plainM plainF
 dsimp only
 split
 ·exact h
 ·exact IdsAt.nil
set_option maxHeartbeats 4000000 in
theorem check10_any (M:MsgT) (w:World) (hK:KindsAt w) (ha:M.Ok w) (hT:Tabs w):Calls Tryd.prog 25 #[M.v] w (Gives w (.int .i64 (mErr (mok M)))):=by
 have hkn:=fun W=>known_any M.k W
 have hpl:=fun (hk:1≤M.k∧M.k<10) W (h:Below w.heap.size w W)=>plain10_any M W hk (hK.keep h)
 have hsm:=fun W (h:Below w.heap.size w W)=>msgsame_any M (plainM M) W (ha.l.keep h) (plain_ids (ha.l.keep h))
 have hri:=fun (hk:1≤M.k∧M.k<10) W (h:Below w.heap.size w W)=>right10_any M W hk (hK.keep h) (ha.keep h) (hT.keep h)
 obtain ⟨RES,hRES⟩:∃x,mErr (mok M)=x:=⟨_,rfl⟩
 rw [hRES]
 unfold mok at hRES
 generalize mright M=r at*
 generalize msame M (plainM M)=s at*
 obtain ⟨PV,hPV⟩:∃v,(plainM M).v=v:=⟨_,rfl⟩
 rw [hPV] at hsm
 simp only [hPV] at hpl
 clear hPV hK ha hT
 obtain ⟨k,i,n,br,bb,tr,tb,st,ck,cc,cq,cy,cx,cr,A,m,cap,sq,tg,ver,l⟩:=M
 simp only [MsgT.v] at hkn hpl hsm hri hRES ⊢
 have Hsm:=Lib.hid hsm
 have X:Blk (w.alloc (.cells #[.int .i64 k,.int .i64 i,.int .i64 n,.int .i64 br,.int .i64 bb,.int .i64 tr,.int .i64 tb,.int .i64 st,.int .i64 ck,.int .i64 cc,.int .i64 cq,.string cy,.string cx,.int .i64 cr,.slice A m cap,.int .i64 sq,.int .i64 tg,.int .i64 ver] 50)).drew w.heap.size 50 #[.int .i64 k,.int .i64 i,.int .i64 n,.int .i64 br,.int .i64 bb,.int .i64 tr,.int .i64 tb,.int .i64 st,.int .i64 ck,.int .i64 cc,.int .i64 cq,.string cy,.string cx,.int .i64 cr,.slice A m cap,.int .i64 sq,.int .i64 tg,.int .i64 ver]:=blk_drewp (Blk.new w _ _)
 have kk:Below w.heap.size w (w.alloc (.cells #[.int .i64 k,.int .i64 i,.int .i64 n,.int .i64 br,.int .i64 bb,.int .i64 tr,.int .i64 tb,.int .i64 st,.int .i64 ck,.int .i64 cc,.int .i64 cq,.string cy,.string cx,.int .i64 cr,.slice A m cap,.int .i64 sq,.int .i64 tg,.int .i64 ver] 50)).drew:=(below_one _).drew
 by_cases hk:1≤k∧k<10
 case neg=>
  rw [decide_eq_false hk] at hkn hRES
  simp only [Bool.false_and] at hRES
  have HRES:=Lib.hid hRES
  clear hRES hpl hri Hsm hsm
  go_enter Tryd.func25,Tryd.ntmps25
  go_upto_region 1 with fail
  (refine wp_region_held_drew (S:=(SM w.heap.size #[.int .i64 k,.int .i64 i,.int .i64 n,.int .i64 br,.int .i64 bb,.int .i64 tr,.int .i64 tb,.int .i64 st,.int .i64 ck,.int .i64 cc,.int .i64 cq,.string cy,.string cx,.int .i64 cr,.slice A m cap,.int .i64 sq,.int .i64 tg,.int .i64 ver])) (by kernel_rfl) ?_ (fun hHeld=>?_);(· exact X.sm))
  (refine take_op (i:=0) (v:=?_) rfl (by kernel_rfl) (by kernel_rfl) (by kernel_rfl) (fun _ _ _ h=>h) (by rfl) ?_ hHeld ?_;rotate_left;(· (intro wS hSw;(try dsimp only at hSw);go_simp;first|done|with_reducible rfl));simp only [Act.put,sta_,scz_,scs_]);(refine take_op (i:=1) (v:=?_) rfl (by kernel_rfl) (by kernel_rfl) (by kernel_rfl) (fun _ _ _ h=>h) (by rfl) ?_ hHeld ?_;rotate_left;(· (intro wS hSw;(try dsimp only at hSw);go_simp;first|done|with_reducible rfl));simp only [Act.put,sta_,scz_,scs_])
  revert hHeld X kk
  generalize World.drew _=w0
  intro X kk hHeld
  (refine call_op (i:=2) rfl (by kernel_rfl) (by rfl) (fun K hK=>?_);go_simp;(go_at_call 42;(with_reducible refine (hkn _).mono ?_);rintro e w1 ⟨rfl,hb1⟩;replace X:=X.keep hb1;replace kk:=below_call kk hb1 kk.size);refine hK.out _ _ X.sm (fun hHeld2=>?_);clear hK K hHeld;have hHeld:=hHeld2;clear hHeld2;(try simp only [Act.put,sta_,scz_,scs_]))
  (refine take_op (i:=3) (v:=?_) rfl (by kernel_rfl) (by kernel_rfl) (by kernel_rfl) (fun _ _ _ h=>h) (by rfl) ?_ hHeld ?_;rotate_left;(· (intro wS hSw;(try dsimp only at hSw);go_simp;first|done|with_reducible rfl));simp only [Act.put,sta_,scz_,scs_]);(refine take_op (i:=4) (v:=?_) rfl (by kernel_rfl) (by kernel_rfl) (by kernel_rfl) (fun _ _ _ h=>h) (by rfl) ?_ hHeld ?_;rotate_left;(· (intro wS hSw;(try dsimp only at hSw);go_simp;first|done|with_reducible rfl));simp only [Act.put,sta_,scz_,scs_])
  (refine skip_op (i:=5) rfl (by kernel_rfl) (by kernel_rfl) (by kernel_rfl) (fun _ _ _ h=>h) (by rfl) hHeld ?_;simp only [Act.put,sta_,scz_,scs_]);(refine skip_op (i:=6) rfl (by kernel_rfl) (by kernel_rfl) (by kernel_rfl) (fun _ _ _ h=>h) (by rfl) hHeld ?_;simp only [Act.put,sta_,scz_,scs_]);(refine skip_op (i:=7) rfl (by kernel_rfl) (by kernel_rfl) (by kernel_rfl) (fun _ _ _ h=>h) (by rfl) hHeld ?_;simp only [Act.put,sta_,scz_,scs_]);(refine skip_op (i:=8) rfl (by kernel_rfl) (by kernel_rfl) (by kernel_rfl) (fun _ _ _ h=>h) (by rfl) hHeld ?_;simp only [Act.put,sta_,scz_,scs_]);(refine skip_op (i:=9) rfl (by kernel_rfl) (by kernel_rfl) (by kernel_rfl) (fun _ _ _ h=>h) (by rfl) hHeld ?_;simp only [Act.put,sta_,scz_,scs_])
  (refine take_op (i:=10) (v:=?_) rfl (by kernel_rfl) (by kernel_rfl) (by kernel_rfl) (fun _ _ _ h=>h) (by rfl) ?_ hHeld ?_;rotate_left;(· (intro wS hSw;(try dsimp only at hSw);go_simp;first|done|with_reducible rfl));simp only [Act.put,sta_,scz_,scs_]);(refine take_op (i:=11) (v:=?_) rfl (by kernel_rfl) (by kernel_rfl) (by kernel_rfl) (fun _ _ _ h=>h) (by rfl) ?_ hHeld ?_;rotate_left;(· (intro wS hSw;(try dsimp only at hSw);go_simp;first|done|with_reducible rfl));simp only [Act.put,sta_,scz_,scs_])
  (refine skip_op (i:=12) rfl (by kernel_rfl) (by kernel_rfl) (by kernel_rfl) (fun _ _ _ h=>h) (by rfl) hHeld ?_;simp only [Act.put,sta_,scz_,scs_]);(refine skip_op (i:=13) rfl (by kernel_rfl) (by kernel_rfl) (by kernel_rfl) (fun _ _ _ h=>h) (by rfl) hHeld ?_;simp only [Act.put,sta_,scz_,scs_]);(refine skip_op (i:=14) rfl (by kernel_rfl) (by kernel_rfl) (by kernel_rfl) (fun _ _ _ h=>h) (by rfl) hHeld ?_;simp only [Act.put,sta_,scz_,scs_])
  (refine take_op (i:=15) (v:=?_) rfl (by kernel_rfl) (by kernel_rfl) (by kernel_rfl) (fun _ _ _ h=>h) (by rfl) ?_ hHeld ?_;rotate_left;(· (intro wS hSw;(try dsimp only at hSw);go_simp;first|done|with_reducible rfl));simp only [Act.put,sta_,scz_,scs_])
  (refine wpAnyH_done (by kernel_rfl) ?_ _)
  clear hHeld
  go_wp2_with fail
  go_ret
  exact ⟨by rw [←HRES.out];rfl,kk⟩
 rw [decide_eq_true hk] at hkn hRES
 have Hpl:=Lib.hid (hpl hk)
 have Hri:=Lib.hid (hri hk)
 have HRES:=Lib.hid hRES
 clear hRES hpl hri hsm
 go_enter Tryd.func25,Tryd.ntmps25
 go_upto_region 1 with fail
 (refine wp_region_held_drew (S:=(SM w.heap.size #[.int .i64 k,.int .i64 i,.int .i64 n,.int .i64 br,.int .i64 bb,.int .i64 tr,.int .i64 tb,.int .i64 st,.int .i64 ck,.int .i64 cc,.int .i64 cq,.string cy,.string cx,.int .i64 cr,.slice A m cap,.int .i64 sq,.int .i64 tg,.int .i64 ver])) (by kernel_rfl) ?_ (fun hHeld=>?_);(· exact X.sm))
 revert hHeld X kk
 generalize World.drew _=w0
 intro X kk hHeld
 cases s
 ·(refine take_op (i:=0) (v:=?_) rfl (by kernel_rfl) (by kernel_rfl) (by kernel_rfl) (fun _ _ _ h=>h) (by rfl) ?_ hHeld ?_;rotate_left;(· (intro wS hSw;(try dsimp only at hSw);go_simp;first|done|with_reducible rfl));simp only [Act.put,sta_,scz_,scs_]);(refine take_op (i:=1) (v:=?_) rfl (by kernel_rfl) (by kernel_rfl) (by kernel_rfl) (fun _ _ _ h=>h) (by rfl) ?_ hHeld ?_;rotate_left;(· (intro wS hSw;(try dsimp only at hSw);go_simp;first|done|with_reducible rfl));simp only [Act.put,sta_,scz_,scs_])
  (refine call_op (i:=2) rfl (by kernel_rfl) (by rfl) (fun K hK=>?_);go_simp;(go_at_call 42;(with_reducible refine (hkn _).mono ?_);rintro e w1 ⟨rfl,hb1⟩;replace X:=X.keep hb1;replace kk:=below_call kk hb1 kk.size);refine hK.out _ _ X.sm (fun hHeld2=>?_);clear hK K hHeld;have hHeld:=hHeld2;clear hHeld2;(try simp only [Act.put,sta_,scz_,scs_]))
  (refine take_op (i:=3) (v:=?_) rfl (by kernel_rfl) (by kernel_rfl) (by kernel_rfl) (fun _ _ _ h=>h) (by rfl) ?_ hHeld ?_;rotate_left;(· (intro wS hSw;(try dsimp only at hSw);go_simp;first|done|with_reducible rfl));simp only [Act.put,sta_,scz_,scs_]);(refine take_op (i:=4) (v:=?_) rfl (by kernel_rfl) (by kernel_rfl) (by kernel_rfl) (fun _ _ _ h=>h) (by rfl) ?_ hHeld ?_;rotate_left;(· (intro wS hSw;(try dsimp only at hSw);go_simp;first|done|with_reducible rfl));simp only [Act.put,sta_,scz_,scs_]);(refine take_op (i:=5) (v:=?_) rfl (by kernel_rfl) (by kernel_rfl) (by kernel_rfl) (fun _ _ _ h=>h) (by rfl) ?_ hHeld ?_;rotate_left;(· (intro wS hSw;(try dsimp only at hSw);go_simp;first|done|with_reducible rfl));simp only [Act.put,sta_,scz_,scs_]);(refine take_op (i:=6) (v:=?_) rfl (by kernel_rfl) (by kernel_rfl) (by kernel_rfl) (fun _ _ _ h=>h) (by rfl) ?_ hHeld ?_;rotate_left;(· (intro wS hSw;(try dsimp only at hSw);go_simp;first|done|with_reducible rfl));simp only [Act.put,sta_,scz_,scs_])
  (refine call_op (i:=7) rfl (by kernel_rfl) (by rfl) (fun K hK=>?_);go_simp;(go_at_call 43;(with_reducible refine (Hpl.out _ kk).mono ?_);rintro e w2 ⟨rfl,hb2⟩;replace X:=X.keep hb2;replace kk:=below_call kk hb2 kk.size);refine hK.out _ _ X.sm (fun hHeld2=>?_);clear hK K hHeld;have hHeld:=hHeld2;clear hHeld2;(try simp only [Act.put,sta_,scz_,scs_]))
  (refine call_op (i:=8) rfl (by kernel_rfl) (by rfl) (fun K hK=>?_);go_simp;(go_at_call 20;(with_reducible refine (Hsm.out _ kk).mono ?_);rintro e w3 ⟨rfl,hb3⟩;replace X:=X.keep hb3;replace kk:=below_call kk hb3 kk.size);refine hK.out _ _ X.sm (fun hHeld2=>?_);clear hK K hHeld;have hHeld:=hHeld2;clear hHeld2;(try simp only [Act.put,sta_,scz_,scs_]))
  (refine take_op (i:=9) (v:=?_) rfl (by kernel_rfl) (by kernel_rfl) (by kernel_rfl) (fun _ _ _ h=>h) (by rfl) ?_ hHeld ?_;rotate_left;(· (intro wS hSw;(try dsimp only at hSw);go_simp;first|done|with_reducible rfl));simp only [Act.put,sta_,scz_,scs_]);(refine take_op (i:=10) (v:=?_) rfl (by kernel_rfl) (by kernel_rfl) (by kernel_rfl) (fun _ _ _ h=>h) (by rfl) ?_ hHeld ?_;rotate_left;(· (intro wS hSw;(try dsimp only at hSw);go_simp;first|done|with_reducible rfl));simp only [Act.put,sta_,scz_,scs_]);(refine take_op (i:=11) (v:=?_) rfl (by kernel_rfl) (by kernel_rfl) (by kernel_rfl) (fun _ _ _ h=>h) (by rfl) ?_ hHeld ?_;rotate_left;(· (intro wS hSw;(try dsimp only at hSw);go_simp;first|done|with_reducible rfl));simp only [Act.put,sta_,scz_,scs_])
  (refine skip_op (i:=12) rfl (by kernel_rfl) (by kernel_rfl) (by kernel_rfl) (fun _ _ _ h=>h) (by rfl) hHeld ?_;simp only [Act.put,sta_,scz_,scs_]);(refine skip_op (i:=13) rfl (by kernel_rfl) (by kernel_rfl) (by kernel_rfl) (fun _ _ _ h=>h) (by rfl) hHeld ?_;simp only [Act.put,sta_,scz_,scs_]);(refine skip_op (i:=14) rfl (by kernel_rfl) (by kernel_rfl) (by kernel_rfl) (fun _ _ _ h=>h) (by rfl) hHeld ?_;simp only [Act.put,sta_,scz_,scs_])
  (refine take_op (i:=15) (v:=?_) rfl (by kernel_rfl) (by kernel_rfl) (by kernel_rfl) (fun _ _ _ h=>h) (by rfl) ?_ hHeld ?_;rotate_left;(· (intro wS hSw;(try dsimp only at hSw);go_simp;first|done|with_reducible rfl));simp only [Act.put,sta_,scz_,scs_])
  (refine wpAnyH_done (by kernel_rfl) ?_ _)
  clear hHeld
  go_wp2_with fail
  go_ret
  exact ⟨by rw [←HRES.out];rfl,kk⟩
 ·(refine take_op (i:=0) (v:=?_) rfl (by kernel_rfl) (by kernel_rfl) (by kernel_rfl) (fun _ _ _ h=>h) (by rfl) ?_ hHeld ?_;rotate_left;(· (intro wS hSw;(try dsimp only at hSw);go_simp;first|done|with_reducible rfl));simp only [Act.put,sta_,scz_,scs_]);(refine take_op (i:=1) (v:=?_) rfl (by kernel_rfl) (by kernel_rfl) (by kernel_rfl) (fun _ _ _ h=>h) (by rfl) ?_ hHeld ?_;rotate_left;(· (intro wS hSw;(try dsimp only at hSw);go_simp;first|done|with_reducible rfl));simp only [Act.put,sta_,scz_,scs_])
  (refine call_op (i:=2) rfl (by kernel_rfl) (by rfl) (fun K hK=>?_);go_simp;(go_at_call 42;(with_reducible refine (hkn _).mono ?_);rintro e w1 ⟨rfl,hb1⟩;replace X:=X.keep hb1;replace kk:=below_call kk hb1 kk.size);refine hK.out _ _ X.sm (fun hHeld2=>?_);clear hK K hHeld;have hHeld:=hHeld2;clear hHeld2;(try simp only [Act.put,sta_,scz_,scs_]))
  (refine take_op (i:=3) (v:=?_) rfl (by kernel_rfl) (by kernel_rfl) (by kernel_rfl) (fun _ _ _ h=>h) (by rfl) ?_ hHeld ?_;rotate_left;(· (intro wS hSw;(try dsimp only at hSw);go_simp;first|done|with_reducible rfl));simp only [Act.put,sta_,scz_,scs_]);(refine take_op (i:=4) (v:=?_) rfl (by kernel_rfl) (by kernel_rfl) (by kernel_rfl) (fun _ _ _ h=>h) (by rfl) ?_ hHeld ?_;rotate_left;(· (intro wS hSw;(try dsimp only at hSw);go_simp;first|done|with_reducible rfl));simp only [Act.put,sta_,scz_,scs_]);(refine take_op (i:=5) (v:=?_) rfl (by kernel_rfl) (by kernel_rfl) (by kernel_rfl) (fun _ _ _ h=>h) (by rfl) ?_ hHeld ?_;rotate_left;(· (intro wS hSw;(try dsimp only at hSw);go_simp;first|done|with_reducible rfl));simp only [Act.put,sta_,scz_,scs_]);(refine take_op (i:=6) (v:=?_) rfl (by kernel_rfl) (by kernel_rfl) (by kernel_rfl) (fun _ _ _ h=>h) (by rfl) ?_ hHeld ?_;rotate_left;(· (intro wS hSw;(try dsimp only at hSw);go_simp;first|done|with_reducible rfl));simp only [Act.put,sta_,scz_,scs_])
  (refine call_op (i:=7) rfl (by kernel_rfl) (by rfl) (fun K hK=>?_);go_simp;(go_at_call 43;(with_reducible refine (Hpl.out _ kk).mono ?_);rintro e w2 ⟨rfl,hb2⟩;replace X:=X.keep hb2;replace kk:=below_call kk hb2 kk.size);refine hK.out _ _ X.sm (fun hHeld2=>?_);clear hK K hHeld;have hHeld:=hHeld2;clear hHeld2;(try simp only [Act.put,sta_,scz_,scs_]))
  (refine call_op (i:=8) rfl (by kernel_rfl) (by rfl) (fun K hK=>?_);go_simp;(go_at_call 20;(with_reducible refine (Hsm.out _ kk).mono ?_);rintro e w3 ⟨rfl,hb3⟩;replace X:=X.keep hb3;replace kk:=below_call kk hb3 kk.size);refine hK.out _ _ X.sm (fun hHeld2=>?_);clear hK K hHeld;have hHeld:=hHeld2;clear hHeld2;(try simp only [Act.put,sta_,scz_,scs_]))
  (refine take_op (i:=9) (v:=?_) rfl (by kernel_rfl) (by kernel_rfl) (by kernel_rfl) (fun _ _ _ h=>h) (by rfl) ?_ hHeld ?_;rotate_left;(· (intro wS hSw;(try dsimp only at hSw);go_simp;first|done|with_reducible rfl));simp only [Act.put,sta_,scz_,scs_]);(refine take_op (i:=10) (v:=?_) rfl (by kernel_rfl) (by kernel_rfl) (by kernel_rfl) (fun _ _ _ h=>h) (by rfl) ?_ hHeld ?_;rotate_left;(· (intro wS hSw;(try dsimp only at hSw);go_simp;first|done|with_reducible rfl));simp only [Act.put,sta_,scz_,scs_]);(refine take_op (i:=11) (v:=?_) rfl (by kernel_rfl) (by kernel_rfl) (by kernel_rfl) (fun _ _ _ h=>h) (by rfl) ?_ hHeld ?_;rotate_left;(· (intro wS hSw;(try dsimp only at hSw);go_simp;first|done|with_reducible rfl));simp only [Act.put,sta_,scz_,scs_]);(refine take_op (i:=12) (v:=?_) rfl (by kernel_rfl) (by kernel_rfl) (by kernel_rfl) (fun _ _ _ h=>h) (by rfl) ?_ hHeld ?_;rotate_left;(· (intro wS hSw;(try dsimp only at hSw);go_simp;first|done|with_reducible rfl));simp only [Act.put,sta_,scz_,scs_])
  (refine call_op (i:=13) rfl (by kernel_rfl) (by rfl) (fun K hK=>?_);go_simp;(go_at_call 44;(with_reducible refine (Hri.out _ kk).mono ?_);rintro e w4 ⟨rfl,hb4⟩;replace X:=X.keep hb4;replace kk:=below_call kk hb4 kk.size);refine hK.out _ _ X.sm (fun hHeld2=>?_);clear hK K hHeld;have hHeld:=hHeld2;clear hHeld2;(try simp only [Act.put,sta_,scz_,scs_]))
  (refine take_op (i:=14) (v:=?_) rfl (by kernel_rfl) (by kernel_rfl) (by kernel_rfl) (fun _ _ _ h=>h) (by rfl) ?_ hHeld ?_;rotate_left;(· (intro wS hSw;(try dsimp only at hSw);go_simp;first|done|with_reducible rfl));simp only [Act.put,sta_,scz_,scs_]);(refine take_op (i:=15) (v:=?_) rfl (by kernel_rfl) (by kernel_rfl) (by kernel_rfl) (fun _ _ _ h=>h) (by rfl) ?_ hHeld ?_;rotate_left;(· (intro wS hSw;(try dsimp only at hSw);go_simp;first|done|with_reducible rfl));simp only [Act.put,sta_,scz_,scs_])
  (refine wpAnyH_done (by kernel_rfl) ?_ _)
  clear hHeld
  cases r
  ·go_wp2_with fail
   go_ret
   exact ⟨by rw [←HRES.out];rfl,kk⟩
  ·go_wp2_with fail
   go_ret
   exact ⟨by rw [←HRES.out];rfl,kk⟩
end Go.Proofs.YtlolnakeancenaaDoor
namespace Go.Proofs.YtlolnakeancenaaDoor
open Go.RowKit
set_option linter.unusedVariables false
set_option linter.unusedSimpArgs false
set_option maxRecDepth 20000
attribute [local go_sem ↓] Go.wp_at_zero Go.wp_at_succ
attribute [local go_sem] World.cell?_alloc_some frozen_alloc_some
attribute [local go_sem] lt2 lt3 lt4 lt5
attribute [local simp] lt2 lt3 lt4 lt5
/-- What an item's parts are read as. -/
def tEnd:Tree:=.mk (-1) 0 ByteArray.empty []
def pt (L:List Tree) (i:Nat):Tree:=L[i]?.getD tEnd
def pnum (L:List Tree) (i:Nat):Int:=((clamp (tN (pt L i)):Nat):Int)
/-- What lies beside block g is as it was. -/
def Beside (g:Nat) (w w':World):Prop:=∀(k:Nat) (t:TypeId) (cs:Array Value),k≠g→Blk w k t cs→Blk w' k t cs
/-- The parts that are left lie at block g. -/
def PartsAt (w0 w:World) (g:Nat) (L:List Tree):Prop:=∃A c,Blk w g 105 #[.slice A L.length c]∧Items w0 A L.length c L
theorem PartsAt.keep {w0 w w':World} {g:Nat} {L:List Tree} (h:PartsAt w0 w g L) (hb:Below w.heap.size w w'):PartsAt w0 w' g L:=by
 obtain ⟨A,c,h1,h2⟩:=h
 exact ⟨A,c,h1.keep hb,h2⟩
theorem PartsAt.far {w0 w:World} {g:Nat} {L:List Tree} (h:PartsAt w0 w g L) {p:Addr} (hp:g≠p.block) (u:Value):PartsAt w0 (w.setCell p u) g L:=by
 obtain ⟨A,c,h1,h2⟩:=h
 exact ⟨A,c,h1.far hp u,h2⟩
theorem Items.tail {w:World} {A:Option Addr} {m c:Nat} {L:List Tree} (h:Items w A (m+1) c L):Items w (if c=1 then A else A.map (·.add 4)) m (c - 1) L.tail:=by
 obtain ⟨h1,h2,h3,vs,h4,h5⟩:=h
 refine ⟨by rw [List.length_tail];omega,by omega,by omega,fun i=>vs (i+1),fun i hi=>?_,fun i t hi=>?_⟩
 ·obtain ⟨ad,e,hc⟩:=h4 (i+1) (by omega)
  refine ⟨ad.add 4,?_,fun j u hu=>?_⟩
  ·rw [if_neg (by omega),e];rfl
  ·rw [add_of_add,show 4+(4*i+j)=4*(i+1)+j by omega];exact hc j u hu
 ·rw [List.getElem?_tail] at hi
  exact h5 (i+1) t hi
theorem holds_end (w:World):Holds w tEnd (.agg #[.int .i64 (-1),.int .u64 0,.string ByteArray.empty,.slice none 0 0]):=
 .mk (-1) 0 ByteArray.empty [] none 0 0 (fun _=>.int .i64 0) (by decide) (by decide) (by decide) rfl (Nat.le_refl _) (Nat.zero_le _) (fun i hi=>absurd hi (by omega)) (fun i t hi=>by simp at hi)
theorem below_btw {B:Nat} {a b c:World} (h:Below B a b) (hb:Below b.heap.size b c) (hB:B≤b.heap.size):Below B a c:=below_call h hb hB
set_option maxHeartbeats 2000000 in
theorem partnext_any (w0 w:World) (g:Nat) (L:List Tree) (kk:Below w0.heap.size w0 w) (hg:w0.heap.size≤g) (hP:PartsAt w0 w g L):
  Calls Tryd.prog 61 #[.pointer (some ⟨g,0,none⟩)] w (fun e w'=>∃v,e= .returned v∧Holds w0 (L.headD tEnd) v∧PartsAt w0 w' g L.tail∧Beside g w w'∧Below w0.heap.size w0 w'):=by
 obtain ⟨A,c,hb,hI⟩:=hP
 have hlt:=hb.lt
 have hne:g≠w.heap.size:=by omega
 have hne1:g≠w.heap.size+1:=by omega
 have pc:=hb.cell
 have pf:=hb.frozen
 have hkz:=kk.size
 cases L with
 |nil=>
  simp only [List.length_nil] at pc
  go_enter Tryd.func61,Tryd.ntmps61
  go_wp2_with fail
  refine bodyPost_ret (v:=.agg #[.int .i64 (-1),.int .u64 0,.string ByteArray.empty,.slice none 0 0]) (by simp [results,Tryd.results61,go_sem, *] <;> rfl) rfl ?_
  refine (fun (h1:Below w.heap.size w _)=>⟨_,rfl,holds_end _,⟨A,c,hb.keep h1,hI⟩,fun k t cs _ h=>h.keep h1,below_btw kk h1 hkz⟩) ?_
  exact blw
 |cons t L=>
  obtain ⟨eb,eo,rfl,hrow⟩:=hI.rows (by simp)
  obtain ⟨k,n,s,A0,m0,c0,hv,q0,q1,q2,q3, -⟩:=hrow 0 t rfl
  simp only [Nat.mul_zero,Nat.zero_add,Nat.add_zero] at q0 q1 q2 q3
  replace q0:=cell_keep kk q0
  replace q1:=cell_keep kk q1
  replace q2:=cell_keep kk q2
  replace q3:=cell_keep kk q3
  have hc1:=hI.2.1
  have hcm:=hI.2.2.1
  unfold maxLen at hcm
  simp only [List.length_cons] at pc hI hc1
  have ht:Items w0 (if c=1 then some ⟨eb,eo,none⟩ else some ⟨eb,eo+4,none⟩) L.length (c - 1) L:=hI.tail
  have hz:(((L.length+1:Nat):Int)==0)=false:=by simp;omega
  have hz1:(0:Int)<((L.length+1:Nat):Int):=by omega
  have hz2:(1:Int)≤((L.length+1:Nat):Int):=by omega
  have hz3:(1:Int)≤(c:Int):=by omega
  have hz4:((L.length+1:Nat):Int)≤(c:Int):=by omega
  clear hrow hI
  have HT:=Lib.hid ht
  have HV:=Lib.hid hv
  clear ht hv
  go_enter Tryd.func61,Tryd.ntmps61
  go_upto_region 4 with fail
  have h1:Below w.heap.size w ((w.alloc (.cells #[.int .i64 0,.int .u64 0,.string ⟨#[]⟩,.slice none 0 0] 25)).alloc (.cells #[.int .i64 k,.int .u64 (n:Int),.string s,.slice A0 m0 c0] 25)):=blw
  have X0:Blk ((w.alloc (.cells #[.int .i64 0,.int .u64 0,.string ⟨#[]⟩,.slice none 0 0] 25)).alloc (.cells #[.int .i64 k,.int .u64 (n:Int),.string s,.slice A0 m0 c0] 25)) w.heap.size 25 #[.int .i64 0,.int .u64 0,.string ⟨#[]⟩,.slice none 0 0]:=(Blk.new w _ _).alloc _
  have X1:Blk ((w.alloc (.cells #[.int .i64 0,.int .u64 0,.string ⟨#[]⟩,.slice none 0 0] 25)).alloc (.cells #[.int .i64 k,.int .u64 (n:Int),.string s,.slice A0 m0 c0] 25)) (w.heap.size+1) 25 #[.int .i64 k,.int .u64 (n:Int),.string s,.slice A0 m0 c0]:=by
   have h:=Blk.new (w.alloc (.cells #[.int .i64 0,.int .u64 0,.string ⟨#[]⟩,.slice none 0 0] 25)) 25 #[.int .i64 k,.int .u64 (n:Int),.string s,.slice A0 m0 c0]
   simpa using h
  have G:=hb.keep h1
  simp only [List.length_cons] at G
  clear q0 q1 q2 q3 pc pf
  have HB:=Lib.hid hb
  clear hb
  revert h1 X0 X1 G
  generalize World.alloc (World.alloc w _) _=W
  intro h1 X0 X1 G
  have pc:=G.cell
  have pf:=G.frozen
  go_upto_region 5 with fail
  generalize (if c=1 then some (⟨eb,eo,none⟩:Addr) else some ⟨eb,eo+4,none⟩)=B2 at*
  have G2:=G.set_ 0 (.slice B2 L.length (c - 1))
  have Y0:=X0.far (p:=⟨g,0,none⟩) (Ne.symm hne) (.slice B2 L.length (c - 1))
  have Y1:=X1.far (p:=⟨g,0,none⟩) (Ne.symm hne1) (.slice B2 L.length (c - 1))
  have k2:Below w0.heap.size w0 (W.setCell ⟨g,0,none⟩ (.slice B2 L.length (c - 1))):=(below_call kk h1 hkz).setCell (p:=⟨g,0,none⟩) hg _
  have hB:Beside g w (W.setCell ⟨g,0,none⟩ (.slice B2 L.length (c - 1))):=fun b t cs hb h=>(h.keep h1).far (p:=⟨g,0,none⟩) hb _
  clear G X0 X1 pc pf h1
  revert G2 Y0 Y1 k2 hB
  generalize World.setCell W _ _=V
  intro G2 Y0 Y1 k2 hB
  have c1:=Y1.cell
  have c0':=Y0.cell
  have f0:=Y0.frozen
  go_wp2_with fail
  refine bodyPost_ret (v:=.agg #[.int .i64 k,.int .u64 (n:Int),.string s,.slice A0 m0 c0]) (by simp [results,Tryd.results61,go_sem, *] <;> rfl) rfl ?_
  refine ⟨_,rfl,HV.out,⟨_,_,G2.far4 hne _ _ _ _,HT.out⟩,fun b t cs hb h=>(hB b t cs hb h).far4 (by have:=h.lt;omega) _ _ _ _,?_⟩
  exact (((k2.setCell (p:=⟨w.heap.size,0,none⟩) hkz _).setCell (p:=⟨w.heap.size,1,none⟩) hkz _).setCell (p:=⟨w.heap.size,2,none⟩) hkz _).setCell (p:=⟨w.heap.size,3,none⟩) hkz _
theorem head_drop (L:List Tree) (j:Nat):(L.drop j).headD tEnd=pt L j:=by
 unfold pt
 rw [List.headD_eq_head?_getD,List.head?_drop]
theorem tail_drop (L:List Tree) (j:Nat):(L.drop j).tail=L.drop (j+1):=by rw [List.tail_drop]
theorem partsnext_any (w0 w:World) (g:Nat) (L:List Tree) (j:Nat) (kk:Below w0.heap.size w0 w) (hg:w0.heap.size≤g) (hP:PartsAt w0 w g (L.drop j)):
  Calls Tryd.prog 61 #[.pointer (some ⟨g,0,none⟩)] w (fun e w'=>∃v,e= .returned v∧Holds w0 (pt L j) v∧PartsAt w0 w' g (L.drop (j+1))∧Beside g w w'∧Below w0.heap.size w0 w'):=by
 have h:=partnext_any w0 w g (L.drop j) kk hg hP
 rw [head_drop,tail_drop] at h
 exact h
theorem field_item1 (k n:Int) (s:ByteArray) (A:Option Addr) (m c:Nat) (w:World):(Go.Instr.field 25 (.agg #[.int .i64 k,.int .u64 n,.string s,.slice A m c]) 1).run Tryd.prog w= .ok (.int .u64 n) w:=by kernel_rfl
attribute [local go_sem] field_item1
set_option maxHeartbeats 2000000 in
theorem partnum_any (w0 w:World) (g:Nat) (L:List Tree) (j:Nat) (kk:Below w0.heap.size w0 w) (hg:w0.heap.size≤g) (hP:PartsAt w0 w g (L.drop j)):
  Calls Tryd.prog 59 #[.pointer (some ⟨g,0,none⟩)] w (fun e w'=>e= .returned (.int .i64 (pnum L j))∧PartsAt w0 w' g (L.drop (j+1))∧Beside g w w'∧Below w0.heap.size w0 w'):=by
 have hn:=partsnext_any w0 w g L j kk hg hP
 obtain ⟨k,n,s,l,hp⟩:∃k n s l,pt L j= .mk k n s l:=by
  cases h:pt L j with|mk k n s l=>exact ⟨k,n,s,l,rfl⟩
 unfold pnum
 rw [hp] at hn ⊢
 have hw:IntKind.i64.wrap (min (n:Int) 4611686018427387904)=(clamp n:Int):=by rw [clamp_int,clamp_wrap]
 have HW:=Lib.hid hw
 clear hw hp hP kk hg
 go_enter Tryd.func59,Tryd.ntmps59
 go_wp2_with (go_at_call 61;(with_reducible refine hn.mono ?_);rintro e w1 ⟨v,rfl,hv,hP1,hB1,hk1⟩;obtain ⟨A,m,c,rfl, -, -, -, -, -, -, -⟩:=hv.open_)
 go_ret
 exact ⟨by show Ending.returned (Value.int .i64 (min (n:Int) 4611686018427387904))=_;rw [clamp_int];rfl,hP1,hB1,hk1⟩
end Go.Proofs.YtlolnakeancenaaDoor
namespace Go.Proofs.YtlolnakeancenaaDoor
open Go.RowKit
set_option linter.unusedVariables false
set_option linter.unusedSimpArgs false
set_option maxRecDepth 20000
attribute [local go_sem ↓] Go.wp_at_zero Go.wp_at_succ
attribute [local go_sem] World.cell?_alloc_some frozen_alloc_some
attribute [local go_sem] lt2 lt3 lt4 lt5
attribute [local simp] lt2 lt3 lt4 lt5
/-- A ballot that was taken, none as the zero one. -/
noncomputable def btake:Tree→Int × Int × Bool
 | .mk k n s [t0,t1]=>if (rightB (clamp (tN t0)) (clamp (tN t1))&&tsame (.mk k n s [t0,t1]) (btree (clamp (tN t0)) (clamp (tN t1))))=true then (clamp (tN t0),clamp (tN t1),true) else (0,0,false)
 |_=>(0,0,false)
theorem btake_none {k:Int} {n:Nat} {s:ByteArray} {l:List Tree} (h:l.length≠2):btake (.mk k n s l)=(0,0,false):=by
 match l,h with
 | [],_=>rfl
 | [_],_=>rfl
 | [_,_],h=>exact absurd rfl h
 |_ :: _ :: _ :: _,_=>rfl
set_option maxHeartbeats 4000000 in
theorem baltake_many (k:Int) (n:Nat) (s:ByteArray) (A:Option Addr) (m c:Nat) (w:World) (hm:m≠2):
  Calls Tryd.prog 60 #[.agg #[.int .i64 k,.int .u64 (n:Int),.string s,.slice A m c]] w (Gives w (.tuple #[.agg #[.int .i64 0,.int .i64 0],.bool false])):=by
 have g1:((m:Int) != 2)=true:=by simp;omega
 go_enter Tryd.func60,Tryd.ntmps60
 go_wp2_with fail
 refine bodyPost_ret (v:=.tuple #[.agg #[.int .i64 0,.int .i64 0],.bool false]) (by simp [results,Tryd.results60,go_sem, *] <;> rfl) rfl ?_
 exact ⟨rfl,blw⟩
set_option maxHeartbeats 4000000 in
theorem baltake_good (k:Int) (n:Nat) (s:ByteArray) (A:Option Addr) (c:Nat) (t0 t1:Tree) (w:World) (hv:Holds w (.mk k n s [t0,t1]) (.agg #[.int .i64 k,.int .u64 (n:Int),.string s,.slice A 2 c])):
  Calls Tryd.prog 60 #[.agg #[.int .i64 k,.int .u64 (n:Int),.string s,.slice A 2 c]] w (Gives w (.tuple #[.agg #[.int .i64 (btake (.mk k n s [t0,t1])).1,.int .i64 (btake (.mk k n s [t0,t1])).2.1],.bool (btake (.mk k n s [t0,t1])).2.2])):=by
 obtain ⟨eb,eo,rfl,hrow⟩:=hv.items.rows (by simp)
 obtain ⟨k0,n0,s0,A0,m0,c0,h0, -,p0, -, -,hn0⟩:=hrow 0 t0 rfl
 obtain ⟨k1,n1,s1,A1,m1,c1,h1, -,p1, -, -,hn1⟩:=hrow 1 t1 rfl
 simp only [Nat.reduceMul,Nat.add_zero,Nat.add_assoc,Nat.reduceAdd] at p0 p1
 have hplain:btake (.mk k n s [t0,t1])=if (rightB (clamp n0) (clamp n1)&&tsame (.mk k n s [t0,t1]) (btree (clamp n0) (clamp n1)))=true then ((clamp n0:Int),(clamp n1:Int),true) else (0,0,false):=by rw [←hn0,←hn1];rfl
 rw [hplain]
 have hri:=fun W=>right_any (clamp n0) (clamp n1) W
 have hbi:=fun W=>balitem_any (clamp n0) (clamp n1) W
 have hsm:=fun x W (hb:Below w.heap.size w W) (hx:Holds W (btree (clamp n0) (clamp n1)) x)=>codecsame_any (.mk k n s [t0,t1]) (btree (clamp n0) (clamp n1)) _ x W (hv.keep hb) hx
 obtain ⟨R,hR⟩:∃R,tsame (.mk k n s [t0,t1]) (btree (clamp n0) (clamp n1))=R:=⟨_,rfl⟩
 rw [hR] at hsm ⊢
 obtain ⟨r,hr⟩:∃r,rightB (clamp n0) (clamp n1)=r:=⟨_,rfl⟩
 rw [hr] at hri ⊢
 unfold listV at hbi
 obtain ⟨RES,hRES⟩:∃x,(if (r&&R)=true then ((clamp n0:Int),(clamp n1:Int),true) else (0,0,false))=x:=⟨_,rfl⟩
 rw [hRES]
 have HRES:=Lib.hid hRES
 have Hri:=Lib.hid hri
 have Hbi:=Lib.hid hbi
 have Hsm:=Lib.hid hsm
 clear hri hbi hsm hR hr hplain hrow hv h0 h1 hRES hn0 hn1
 have X0:Blk ((w.alloc (.cells #[.int .i64 k,.int .u64 (n:Int),.string s,.slice (some ⟨eb,eo,none⟩) 2 c] 25)).alloc (.cells #[.int .i64 0,.int .i64 0] 43)) w.heap.size 25 #[.int .i64 k,.int .u64 (n:Int),.string s,.slice (some ⟨eb,eo,none⟩) 2 c]:=(Blk.new w _ _).alloc _
 have R0:Blk ((w.alloc (.cells #[.int .i64 k,.int .u64 (n:Int),.string s,.slice (some ⟨eb,eo,none⟩) 2 c] 25)).alloc (.cells #[.int .i64 0,.int .i64 0] 43)) (w.heap.size+1) 43 #[.int .i64 0,.int .i64 0]:=Blk.newAt (by simp)
 have kk:Below w.heap.size w ((w.alloc (.cells #[.int .i64 k,.int .u64 (n:Int),.string s,.slice (some ⟨eb,eo,none⟩) 2 c] 25)).alloc (.cells #[.int .i64 0,.int .i64 0] 43)):=blw
 have x0:=X0.cell
 go_enter Tryd.func60,Tryd.ntmps60
 go_upto_region 3 with fail
 replace X0:=X0.drew
 replace R0:=R0.drew
 replace kk:=kk.drew
 clear x0
 (refine wp_region_held_drew (S:=(S12 w.heap.size #[.int .i64 k,.int .u64 (n:Int),.string s,.slice (some ⟨eb,eo,none⟩) 2 c] ⟨eb,eo+1,none⟩ ⟨eb,eo+5,none⟩ (.int .u64 (n0:Int)) (.int .u64 (n1:Int)))) (by kernel_rfl) ?_ (fun hHeld=>?_);(· exact ⟨X0.cell,cell_keep kk p0,cell_keep kk p1⟩))
 revert hHeld X0 R0 kk
 generalize World.drew _=w0
 intro X0 R0 kk hHeld
 (refine take_op (i:=0) (v:=?_) rfl (by kernel_rfl) (by kernel_rfl) (by kernel_rfl) (fun _ _ _ h=>h) (by rfl) ?_ hHeld ?_;rotate_left;(· (intro wS hSw;(try dsimp only at hSw);go_simp;first|done|with_reducible rfl));simp only [Act.put,sta_,scz_,scs_]);(refine take_op (i:=1) (v:=?_) rfl (by kernel_rfl) (by kernel_rfl) (by kernel_rfl) (fun _ _ _ h=>h) (by rfl) ?_ hHeld ?_;rotate_left;(· (intro wS hSw;(try dsimp only at hSw);go_simp;first|done|with_reducible rfl));simp only [Act.put,sta_,scz_,scs_]);(refine take_op (i:=2) (v:=?_) rfl (by kernel_rfl) (by kernel_rfl) (by kernel_rfl) (fun _ _ _ h=>h) (by rfl) ?_ hHeld ?_;rotate_left;(· (intro wS hSw;(try dsimp only at hSw);go_simp;first|done|with_reducible rfl));simp only [Act.put,sta_,scz_,scs_]);(refine take_op (i:=3) (v:=?_) rfl (by kernel_rfl) (by kernel_rfl) (by kernel_rfl) (fun _ _ _ h=>h) (by rfl) ?_ hHeld ?_;rotate_left;(· (intro wS hSw;(try dsimp only at hSw);go_simp;first|done|with_reducible rfl));simp only [Act.put,sta_,scz_,scs_]);(refine take_op (i:=4) (v:=?_) rfl (by kernel_rfl) (by kernel_rfl) (by kernel_rfl) (fun _ _ _ h=>h) (by rfl) ?_ hHeld ?_;rotate_left;(· (intro wS hSw;(try dsimp only at hSw);go_simp;first|done|with_reducible rfl));simp only [Act.put,sta_,scz_,scs_]);(refine take_op (i:=5) (v:=?_) rfl (by kernel_rfl) (by kernel_rfl) (by kernel_rfl) (fun _ _ _ h=>h) (by rfl) ?_ hHeld ?_;rotate_left;(· (intro wS hSw;(try dsimp only at hSw);go_simp;first|done|with_reducible rfl));simp only [Act.put,sta_,scz_,scs_]);(refine take_op (i:=6) (v:=?_) rfl (by kernel_rfl) (by kernel_rfl) (by kernel_rfl) (fun _ _ _ h=>h) (by rfl) ?_ hHeld ?_;rotate_left;(· (intro wS hSw;(try dsimp only at hSw);go_simp;first|done|with_reducible rfl));simp only [Act.put,sta_,scz_,scs_]);(refine take_op (i:=7) (v:=?_) rfl (by kernel_rfl) (by kernel_rfl) (by kernel_rfl) (fun _ _ _ h=>h) (by rfl) ?_ hHeld ?_;rotate_left;(· (intro wS hSw;(try dsimp only at hSw);go_simp;first|done|with_reducible rfl));simp only [Act.put,sta_,scz_,scs_]);(refine take_op (i:=8) (v:=?_) rfl (by kernel_rfl) (by kernel_rfl) (by kernel_rfl) (fun _ _ _ h=>h) (by rfl) ?_ hHeld ?_;rotate_left;(· (intro wS hSw;(try dsimp only at hSw);go_simp;first|done|with_reducible rfl));simp only [Act.put,sta_,scz_,scs_]);(refine take_op (i:=9) (v:=?_) rfl (by kernel_rfl) (by kernel_rfl) (by kernel_rfl) (fun _ _ _ h=>h) (by rfl) ?_ hHeld ?_;rotate_left;(· (intro wS hSw;(try dsimp only at hSw);go_simp;first|done|with_reducible rfl));simp only [Act.put,sta_,scz_,scs_]);(refine take_op (i:=10) (v:=?_) rfl (by kernel_rfl) (by kernel_rfl) (by kernel_rfl) (fun _ _ _ h=>h) (by rfl) ?_ hHeld ?_;rotate_left;(· (intro wS hSw;(try dsimp only at hSw);go_simp;first|done|with_reducible rfl));simp only [Act.put,sta_,scz_,scs_]);(refine take_op (i:=11) (v:=?_) rfl (by kernel_rfl) (by kernel_rfl) (by kernel_rfl) (fun _ _ _ h=>h) (by rfl) ?_ hHeld ?_;rotate_left;(· (intro wS hSw;(try dsimp only at hSw);go_simp;first|done|with_reducible rfl));simp only [Act.put,sta_,scz_,scs_]);(refine take_op (i:=12) (v:=?_) rfl (by kernel_rfl) (by kernel_rfl) (by kernel_rfl) (fun _ _ _ h=>h) (by rfl) ?_ hHeld ?_;rotate_left;(· (intro wS hSw;(try dsimp only at hSw);go_simp;first|done|with_reducible rfl));simp only [Act.put,sta_,scz_,scs_]);(refine take_op (i:=13) (v:=?_) rfl (by kernel_rfl) (by kernel_rfl) (by kernel_rfl) (fun _ _ _ h=>h) (by rfl) ?_ hHeld ?_;rotate_left;(· (intro wS hSw;(try dsimp only at hSw);go_simp;first|done|with_reducible rfl));simp only [Act.put,sta_,scz_,scs_]);(refine take_op (i:=14) (v:=?_) rfl (by kernel_rfl) (by kernel_rfl) (by kernel_rfl) (fun _ _ _ h=>h) (by rfl) ?_ hHeld ?_;rotate_left;(· (intro wS hSw;(try dsimp only at hSw);go_simp;first|done|with_reducible rfl));simp only [Act.put,sta_,scz_,scs_])
 simp only [clamp_int,clamp_wrap] at*
 have B0:Blk (w0.alloc (.cells #[.int .i64 0,.int .i64 0] 43)) w0.heap.size 43 #[.int .i64 0,.int .i64 0]:=Blk.new w0 _ _
 have zb:w.heap.size+2≤w0.heap.size:=R0.lt
 replace X0:=X0.alloc (.cells #[.int .i64 0,.int .i64 0] 43)
 replace R0:=R0.alloc (.cells #[.int .i64 0,.int .i64 0] 43)
 replace kk:=kk.alloc kk.size (.cells #[.int .i64 0,.int .i64 0] 43)
 (refine call_op (i:=15) rfl (by kernel_rfl) (by rfl) (fun K hK=>?_);go_simp;skip;refine hK.out _ _ ⟨X0.cell,cell_keep kk p0,cell_keep kk p1⟩ (fun hHeld2=>?_);clear hK K hHeld;have hHeld:=hHeld2;clear hHeld2;(try simp only [Act.put,sta_,scz_,scs_]))
 revert hHeld B0 zb X0 R0 kk
 generalize World.alloc w0 _=w1
 generalize w0.heap.size=gb
 intro B0 zb X0 R0 kk hHeld
 have b0:=B0.cell
 have bf:=B0.frozen
 have B1:Blk ((w1.setCell ⟨gb,0,none⟩ (.int .i64 (clamp n0:Int))).setCell ⟨gb,1,none⟩ (.int .i64 (clamp n1:Int))) gb 43 #[.int .i64 (clamp n0:Int),.int .i64 (clamp n1:Int)]:=by
  have:=(B0.set_ 0 (.int .i64 (clamp n0:Int))).set_ 1 (.int .i64 (clamp n1:Int))
  simpa using this
 replace X0:=(X0.far (p:=⟨gb,0,none⟩) (by simp;omega) (.int .i64 (clamp n0:Int))).far (p:=⟨gb,1,none⟩) (by simp;omega) (.int .i64 (clamp n1:Int))
 replace R0:=(R0.far (p:=⟨gb,0,none⟩) (by simp;omega) (.int .i64 (clamp n0:Int))).far (p:=⟨gb,1,none⟩) (by simp;omega) (.int .i64 (clamp n1:Int))
 replace kk:=(kk.setCell (p:=⟨gb,0,none⟩) (by simp;omega) (.int .i64 (clamp n0:Int))).setCell (p:=⟨gb,1,none⟩) (by simp;omega) (.int .i64 (clamp n1:Int))
 (refine call_op (i:=16) rfl (by kernel_rfl) (by rfl) (fun K hK=>?_);go_simp;skip;refine hK.out _ _ ⟨X0.cell,cell_keep kk p0,cell_keep kk p1⟩ (fun hHeld2=>?_);clear hK K hHeld;have hHeld:=hHeld2;clear hHeld2;(try simp only [Act.put,sta_,scz_,scs_]))
 clear b0 bf B0
 (refine wpAnyH_done (by kernel_rfl) ?_ _)
 revert X0 R0 kk B1
 generalize World.setCell (World.setCell _ ⟨gb,0,none⟩ _) ⟨gb,1,none⟩ _=w2
 intro B1 X0 R0 kk
 clear hHeld p0 p1
 generalize (clamp n0:Int)=x0 at*
 generalize (clamp n1:Int)=x1 at*
 go_upto_region 4 with fail
 replace X0:=X0.drew
 replace R0:=R0.drew
 replace B1:=B1.drew
 replace kk:=kk.drew
 (refine wp_region_held_drew (S:=(S11 w.heap.size gb #[.int .i64 k,.int .u64 (n:Int),.string s,.slice (some ⟨eb,eo,none⟩) 2 c] #[.int .i64 x0,.int .i64 x1])) (by kernel_rfl) ?_ (fun hHeld=>?_);(· exact ⟨X0.cell,B1.cell⟩))
 revert hHeld X0 R0 kk B1
 generalize World.drew _=w3
 intro X0 R0 B1 kk hHeld
 (refine take_op (i:=0) (v:=?_) rfl (by kernel_rfl) (by kernel_rfl) (by kernel_rfl) (fun _ _ _ h=>h) (by rfl) ?_ hHeld ?_;rotate_left;(· (intro wS hSw;(try dsimp only at hSw);go_simp;first|done|with_reducible rfl));simp only [Act.put,sta_,scz_,scs_])
 (refine call_op (i:=1) rfl (by kernel_rfl) (by rfl) (fun K hK=>?_);go_simp;(go_at_call 68;(with_reducible refine (Hri.out _).mono ?_);rintro e w4 ⟨rfl,hb4⟩;replace X0:=X0.keep hb4;replace R0:=R0.keep hb4;replace B1:=B1.keep hb4;replace kk:=below_call kk hb4 kk.size);refine hK.out _ _ ⟨X0.cell,B1.cell⟩ (fun hHeld2=>?_);clear hK K hHeld;have hHeld:=hHeld2;clear hHeld2;(try simp only [Act.put,sta_,scz_,scs_]))
 cases r
 ·(refine take_op (i:=2) (v:=?_) rfl (by kernel_rfl) (by kernel_rfl) (by kernel_rfl) (fun _ _ _ h=>h) (by rfl) ?_ hHeld ?_;rotate_left;(· (intro wS hSw;(try dsimp only at hSw);go_simp;first|done|with_reducible rfl));simp only [Act.put,sta_,scz_,scs_]);(refine take_op (i:=3) (v:=?_) rfl (by kernel_rfl) (by kernel_rfl) (by kernel_rfl) (fun _ _ _ h=>h) (by rfl) ?_ hHeld ?_;rotate_left;(· (intro wS hSw;(try dsimp only at hSw);go_simp;first|done|with_reducible rfl));simp only [Act.put,sta_,scz_,scs_])
  (refine skip_op (i:=4) rfl (by kernel_rfl) (by kernel_rfl) (by kernel_rfl) (fun _ _ _ h=>h) (by rfl) hHeld ?_;simp only [Act.put,sta_,scz_,scs_]);(refine skip_op (i:=5) rfl (by kernel_rfl) (by kernel_rfl) (by kernel_rfl) (fun _ _ _ h=>h) (by rfl) hHeld ?_;simp only [Act.put,sta_,scz_,scs_]);(refine skip_op (i:=6) rfl (by kernel_rfl) (by kernel_rfl) (by kernel_rfl) (fun _ _ _ h=>h) (by rfl) hHeld ?_;simp only [Act.put,sta_,scz_,scs_]);(refine skip_op (i:=7) rfl (by kernel_rfl) (by kernel_rfl) (by kernel_rfl) (fun _ _ _ h=>h) (by rfl) hHeld ?_;simp only [Act.put,sta_,scz_,scs_]);(refine skip_op (i:=8) rfl (by kernel_rfl) (by kernel_rfl) (by kernel_rfl) (fun _ _ _ h=>h) (by rfl) hHeld ?_;simp only [Act.put,sta_,scz_,scs_])
  (refine take_op (i:=9) (v:=?_) rfl (by kernel_rfl) (by kernel_rfl) (by kernel_rfl) (fun _ _ _ h=>h) (by rfl) ?_ hHeld ?_;rotate_left;(· (intro wS hSw;(try dsimp only at hSw);go_simp;first|done|with_reducible rfl));simp only [Act.put,sta_,scz_,scs_])
  (refine wpAnyH_done (by kernel_rfl) ?_ _)
  have Rc:=R0.cell
  have Rf:=R0.frozen
  clear hHeld
  go_wp2_with fail
  refine bodyPost_ret (v:=.tuple #[.agg #[.int .i64 0,.int .i64 0],.bool false]) (by simp [results,Tryd.results60,go_sem, *] <;> rfl) rfl ?_
  obtain rfl:=HRES.out
  exact ⟨rfl,blw⟩
 (refine take_op (i:=2) (v:=?_) rfl (by kernel_rfl) (by kernel_rfl) (by kernel_rfl) (fun _ _ _ h=>h) (by rfl) ?_ hHeld ?_;rotate_left;(· (intro wS hSw;(try dsimp only at hSw);go_simp;first|done|with_reducible rfl));simp only [Act.put,sta_,scz_,scs_]);(refine take_op (i:=3) (v:=?_) rfl (by kernel_rfl) (by kernel_rfl) (by kernel_rfl) (fun _ _ _ h=>h) (by rfl) ?_ hHeld ?_;rotate_left;(· (intro wS hSw;(try dsimp only at hSw);go_simp;first|done|with_reducible rfl));simp only [Act.put,sta_,scz_,scs_]);(refine take_op (i:=4) (v:=?_) rfl (by kernel_rfl) (by kernel_rfl) (by kernel_rfl) (fun _ _ _ h=>h) (by rfl) ?_ hHeld ?_;rotate_left;(· (intro wS hSw;(try dsimp only at hSw);go_simp;first|done|with_reducible rfl));simp only [Act.put,sta_,scz_,scs_]);(refine take_op (i:=5) (v:=?_) rfl (by kernel_rfl) (by kernel_rfl) (by kernel_rfl) (fun _ _ _ h=>h) (by rfl) ?_ hHeld ?_;rotate_left;(· (intro wS hSw;(try dsimp only at hSw);go_simp;first|done|with_reducible rfl));simp only [Act.put,sta_,scz_,scs_])
 (refine call_op (i:=6) rfl (by kernel_rfl) (by rfl) (fun K hK=>?_);go_simp;(go_at_call 56;(with_reducible refine (Hbi.out _).mono ?_);rintro e w5 ⟨A5,c5,rfl,hi5,hb5⟩;replace X0:=X0.keep hb5;replace R0:=R0.keep hb5;replace B1:=B1.keep hb5;replace kk:=below_call kk hb5 kk.size);refine hK.out _ _ ⟨X0.cell,B1.cell⟩ (fun hHeld2=>?_);clear hK K hHeld;have hHeld:=hHeld2;clear hHeld2;(try simp only [Act.put,sta_,scz_,scs_]))
 (refine call_op (i:=7) rfl (by kernel_rfl) (by rfl) (fun K hK=>?_);go_simp;(go_at_call 15;(with_reducible refine (Hsm.out _ _ kk hi5.holds).mono ?_);rintro e w6 ⟨rfl,hb6⟩;replace X0:=X0.keep hb6;replace R0:=R0.keep hb6;replace B1:=B1.keep hb6;replace kk:=below_call kk hb6 kk.size);refine hK.out _ _ ⟨X0.cell,B1.cell⟩ (fun hHeld2=>?_);clear hK K hHeld;have hHeld:=hHeld2;clear hHeld2;(try simp only [Act.put,sta_,scz_,scs_]))
 (refine take_op (i:=8) (v:=?_) rfl (by kernel_rfl) (by kernel_rfl) (by kernel_rfl) (fun _ _ _ h=>h) (by rfl) ?_ hHeld ?_;rotate_left;(· (intro wS hSw;(try dsimp only at hSw);go_simp;first|done|with_reducible rfl));simp only [Act.put,sta_,scz_,scs_]);(refine take_op (i:=9) (v:=?_) rfl (by kernel_rfl) (by kernel_rfl) (by kernel_rfl) (fun _ _ _ h=>h) (by rfl) ?_ hHeld ?_;rotate_left;(· (intro wS hSw;(try dsimp only at hSw);go_simp;first|done|with_reducible rfl));simp only [Act.put,sta_,scz_,scs_])
 (refine wpAnyH_done (by kernel_rfl) ?_ _)
 have Rc:=R0.cell
 have Rf:=R0.frozen
 have Bc:=B1.cell
 clear hHeld
 cases R
 ·go_wp2_with fail
  refine bodyPost_ret (v:=.tuple #[.agg #[.int .i64 0,.int .i64 0],.bool false]) (by simp [results,Tryd.results60,go_sem, *] <;> rfl) rfl ?_
  obtain rfl:=HRES.out
  exact ⟨rfl,blw⟩
 ·go_wp2_with fail
  refine bodyPost_ret (v:=.tuple #[.agg #[.int .i64 x0,.int .i64 x1],.bool true]) (by simp [results,Tryd.results60,go_sem, *] <;> rfl) rfl ?_
  obtain rfl:=HRES.out
  exact ⟨rfl,blw⟩
theorem baltake_any (t:Tree) (v:Value) (w:World) (hv:Holds w t v):Calls Tryd.prog 60 #[v] w (Gives w (.tuple #[.agg #[.int .i64 (btake t).1,.int .i64 (btake t).2.1],.bool (btake t).2.2])):=by
 obtain ⟨k,n,s,l⟩:=t
 obtain ⟨A,m,c,rfl, -, -, -,hm, -, -, -⟩:=hv.open_
 by_cases h:l.length=2
 ·match l,h with
  | [t0,t1],_=>subst hm;exact baltake_good k n s A c t0 t1 w hv
 ·rw [btake_none h]
  exact baltake_many k n s A m c w (by omega)
end Go.Proofs.YtlolnakeancenaaDoor
namespace Go.Proofs.YtlolnakeancenaaDoor
open Go.RowKit
set_option linter.unusedVariables false
set_option linter.unusedSimpArgs false
set_option maxRecDepth 20000
attribute [local go_sem ↓] Go.wp_at_zero Go.wp_at_succ
attribute [local go_sem] World.cell?_alloc_some frozen_alloc_some
theorem atake_none {k:Int} {n:Nat} {s:ByteArray} {l:List Tree} (h:l.length≠3):atake (.mk k n s l)=none:=by
 match l,h with
 | [],_=>rfl
 | [_],_=>rfl
 | [_,_],_=>rfl
 | [_,_,_],h=>exact absurd rfl h
 |_ :: _ :: _ :: _ :: _,_=>rfl
theorem otake_none {k:Int} {n:Nat} {s:ByteArray} {l:List Tree} (h:l.length≠2):otake (.mk k n s l)=none:=by
 match l,h with
 | [],_=>rfl
 | [_],_=>rfl
 | [_,_],h=>exact absurd rfl h
 |_ :: _ :: _ :: _,_=>rfl
theorem tkA_none {w:World} {e:Ending} {w':World} (h:Gives w (.tuple #[.agg #[.slice none 0 0,.int .i64 0,.int .i64 0],.bool false]) e w'):TkA w none e w':=
 ⟨none,0,h.1,IdsAt.nil,⟨Nat.le_refl _,fun ad h=>by cases h⟩,h.2⟩
theorem attrtake_any (t:Tree) (v:Value) (w:World) (hv:Holds w t v):Calls Tryd.prog 63 #[v] w (TkA w (atake t)):=by
 obtain ⟨k,n,s,l⟩:=t
 obtain ⟨A,m,c,rfl, -, -, -,hm, -, -, -⟩:=hv.open_
 by_cases h:l.length=3
 ·match l,h with
  | [t0,t1,t2],_=>subst hm;exact attrtake_good k n s A c t0 t1 t2 w hv
 ·rw [atake_none h]
  exact (attrtake_many k n s A m c w (by omega)).mono fun e w' h=>tkA_none h
theorem attrtakeold_any (t:Tree) (v:Value) (w:World) (hv:Holds w t v):Calls Tryd.prog 66 #[v] w (TkA w (otake t)):=by
 obtain ⟨k,n,s,l⟩:=t
 obtain ⟨A,m,c,rfl, -, -, -,hm, -, -, -⟩:=hv.open_
 by_cases h:l.length=2
 ·match l,h with
  | [t0,t1],_=>subst hm;exact attrtakeold_good k n s A c t0 t1 w hv
 ·rw [otake_none h]
  exact (attrtakeold_many k n s A m c w (by omega)).mono fun e w' h=>tkA_none h
theorem clampZ {a:Int} (h0:0≤a) (h1:a≤1099511627776):((clamp (tN (ntree a)):Nat):Int)=a:=by
 show ((clamp (u64n a):Nat):Int)=a
 rw [u64n_of h0 (by omega)];unfold clamp;omega
theorem acheck_bounds {l:List IdP} {q t:Int} (h:acheck ⟨l,q,t⟩=0):idsOk l=true∧0≤q∧q≤1099511627776∧0≤t∧t≤1099511627776:=by
 obtain ⟨h1,h2⟩:=acheck_iff.1 h
 simp only at h1 h2
 refine ⟨h2,?_⟩
 rcases h1 with ⟨a,b,c⟩|⟨a,b⟩ <;> omega
theorem atake_item {l:List IdP} {q t:Int} (h:acheck ⟨l,q,t⟩=0):atake (atree l q t)=some ⟨l,q,t⟩:=by
 obtain ⟨h2,h3,h4,h5,h6⟩:=acheck_bounds h
 show aTk (itake (ltree (itrees l))).isSome ((itake (ltree (itrees l))).getD []) (clamp (tN (ntree q))) (clamp (tN (ntree t))) (atree l q t) (atree ((itake (ltree (itrees l))).getD []) (clamp (tN (ntree q))) (clamp (tN (ntree t))))=_
 rw [itake_item l h2,clampZ h3 h4,clampZ h5 h6]
 unfold aTk
 rw [if_pos]
 ·rfl
 ·simp only [Option.getD_some,Option.isSome_some,tsame_self,h];rfl
theorem otake_item {l:List IdP} {q:Int} (h:acheck ⟨l,q,1⟩=0):otake (otree l q)=some ⟨l,q,1⟩:=by
 obtain ⟨h2,h3,h4,_,_⟩:=acheck_bounds h
 show aTk (itake (ltree (itrees l))).isSome ((itake (ltree (itrees l))).getD []) (clamp (tN (ntree q))) 1 (otree l q) (otree ((itake (ltree (itrees l))).getD []) (clamp (tN (ntree q))))=_
 rw [itake_item l h2,clampZ h3 h4]
 unfold aTk
 rw [if_pos]
 ·rfl
 ·simp only [Option.getD_some,Option.isSome_some,tsame_self,h];rfl
/-- A message without its pointers. -/
def MsgT.at (M:MsgT) (A:Option Addr) (m c:Nat):MsgT:={ M with A:=A,m:=m,cap:=c }
def MsgT.norm (M:MsgT):MsgT:=M.at none 0 0
noncomputable def mreadF (f0 f1 f2 f3 f4 f5:Bool) (k st:Int) (L:List Tree) (jc:Nat):MsgT:=
 ⟨k,if f0 then pnum L 1 else 0,if f0 then pnum L 2 else 0,if f1 then (btake (pt L 3)).1 else 0,if f1 then (btake (pt L 3)).2.1 else 0,if f2 then (btake (pt L 5)).1 else 0,if f2 then (btake (pt L 5)).2.1 else 0,st,
  if f3 then (ctake (pt L jc)).k else 0,if f3 then (ctake (pt L jc)).c else 0,if f3 then (ctake (pt L jc)).q else 0,if f3 then (ctake (pt L jc)).y else ⟨#[]⟩,if f3 then (ctake (pt L jc)).x else ⟨#[]⟩,if f3 then (ctake (pt L jc)).r else 0,
  none,0,0,if f4 then ((atake (pt L (if f3 then jc+1 else jc))).getD azero).q else 0,if f4 then ((atake (pt L (if f3 then jc+1 else jc))).getD azero).t else 0,if f5 then pnum L 1 else 0,if f4 then ((atake (pt L (if f3 then jc+1 else jc))).getD azero).l else []⟩
def mzero (k:Int):MsgT:=⟨k,0,0,0,0,0,0,0,0,0,0,⟨#[]⟩,⟨#[]⟩,0,none,0,0,0,0,0,[]⟩
noncomputable def mreadK (k st:Int) (L:List Tree):MsgT:=mreadF (kId k) (kBal k) (kSt k) (kCmd k st) (kAt k st) (kVer k) k st L (if kSt k then 6 else if kBal k then 4 else 3)
noncomputable def mread (L:List Tree):MsgT:=
 if 1≤pnum L 0∧pnum L 0<10 then mreadK (pnum L 0) (if kSt (pnum L 0) then pnum L 4 else 0) L else mzero (pnum L 0)
attribute [local go_sem] lt2 lt3 lt4 lt5
attribute [local simp] lt2 lt3 lt4 lt5
/-- An item, and whether it is one. -/
def Turned2 (w:World) (r:Tree × Bool) (e:Ending) (w':World):Prop:=∃v,e= .returned (.tuple #[v,.bool r.2])∧HoldsIn w' (fun b=>w.heap.size≤b) r.1 v∧Below w.heap.size w w'
/-- A list with another last part. -/
def Lasts (w:World) (S0:Nat→Prop) (r:Tree × Bool) (e:Ending) (w':World):Prop:=∃v,e= .returned (.tuple #[v,.bool r.2])∧HoldsIn w' (fun b=>S0 b∨w.heap.size≤b) r.1 v∧Below w.heap.size w w'
structure LsS (w:World) (gy:Nat) (CX CY:Array Value) (ru:Tree) (y:Value) (A0:Option Addr) (m:Nat) (vs:Nat→Value) (W:World):Prop where
 kk:Below w.heap.size w W
 X:Blk W w.heap.size 25 CX
 Z:Blk W (w.heap.size+1) 25 #[.int .i64 0,.int .u64 0,.string ⟨#[]⟩,.slice none 0 0]
 Y:Blk W gy 25 CY
 h:HoldsIn W (fun b=>w.heap.size+1<b) ru y
 src:Src W 4 A0 m (flat4 vs m)
 ne:w.heap.size+1<gy
theorem LsS.keep {w:World} {gy:Nat} {CX CY:Array Value} {ru:Tree} {y:Value} {A0:Option Addr} {m:Nat} {vs:Nat→Value} {W w1:World} (S:LsS w gy CX CY ru y A0 m vs W) (hb:Below W.heap.size W w1):LsS w gy CX CY ru y A0 m vs w1:=
 ⟨below_call S.kk hb S.kk.size,S.X.keep hb,S.Z.keep hb,S.Y.keep hb,S.h.under hb,S.src.keep hb,S.ne⟩
theorem Holds.four_form {w:World} {t:Tree} {v:Value} (h:Holds w t v):∃(k n:Int) (s:ByteArray) (A:Option Addr) (m c:Nat),v= .agg #[.int .i64 k,.int .u64 n,.string s,.slice A m c]:=by
 obtain ⟨k,n,s,l⟩:=t
 obtain ⟨A,m,c,rfl,_⟩:=h.open_
 exact ⟨_,_,_,_,_,_,rfl⟩
set_option maxHeartbeats 8000000 in
theorem last_down (k:Int) (n:Nat) (s:ByteArray) (l:List Tree) (v:Value) (w:World) (m:Nat) (u ru:Tree) (rb:Bool) (hl:l.length=m+1) (hm:m≤100000000) (hu:l[m]? =some u) (S0:Nat→Prop) (hv:HoldsIn w S0 (.mk k n s l) v)
  (hturn:∀W y,Below w.heap.size w W→Holds W u y→Calls Tryd.prog 40 #[y] W (Turned2 W (ru,rb))):
  Calls Tryd.prog 39 #[v,.func (.func 40) #[] #[]] w (Lasts w S0 (ltree (l.dropLast++ [ru]),rb)):=by
 obtain ⟨A,m0,c,rfl, -, -, -,hm0,hmc,hcm, -⟩:=hv.holds.open_
 rw [hl] at hm0
 subst hm0
 have hit:=hv.holds.items
 obtain ⟨eb,eo,rfl,hrow⟩:=hit.rows (by omega)
 obtain ⟨ke,ne,se,Ae,me,ce,hve,q0,q1,q2,q3, -⟩:=hrow m u hu
 have hlb:eb<w.heap.size:=World.block_lt_of_cell? _ _ q0
 obtain ⟨vs,hsrc,hvs⟩:=hv.src
 have hlo:=flat4_length (vs:=vs) (m:=m) fun i hi=>(hvs i l[i] (List.getElem?_eq_getElem (by omega))).four.1
 obtain ⟨j1,hi,hz0,hz1,hz2⟩:=info_item
 clear hit hrow hv
 have kk:Below w.heap.size w ((w.alloc (.cells #[.int .i64 k,.int .u64 (n:Int),.string s,.slice (some ⟨eb,eo,none⟩) (m+1) c] 25)).alloc (.cells #[.int .i64 0,.int .u64 0,.string ⟨#[]⟩,.slice none 0 0] 25)):=blw
 have X:Blk ((w.alloc (.cells #[.int .i64 k,.int .u64 (n:Int),.string s,.slice (some ⟨eb,eo,none⟩) (m+1) c] 25)).alloc (.cells #[.int .i64 0,.int .u64 0,.string ⟨#[]⟩,.slice none 0 0] 25)) w.heap.size 25 #[.int .i64 k,.int .u64 (n:Int),.string s,.slice (some ⟨eb,eo,none⟩) (m+1) c]:=(Blk.new w _ _).alloc _
 have Z:Blk ((w.alloc (.cells #[.int .i64 k,.int .u64 (n:Int),.string s,.slice (some ⟨eb,eo,none⟩) (m+1) c] 25)).alloc (.cells #[.int .i64 0,.int .u64 0,.string ⟨#[]⟩,.slice none 0 0] 25)) (w.heap.size+1) 25 #[.int .i64 0,.int .u64 0,.string ⟨#[]⟩,.slice none 0 0]:=Blk.newAt (by simp)
 rw [show eo+4*m=eo+m*4 by omega] at q0
 rw [show eo+(4*m+1)=eo+m*4+1 by omega] at q1
 rw [show eo+(4*m+2)=eo+m*4+2 by omega] at q2
 rw [show eo+(4*m+3)=eo+m*4+3 by omega] at q3
 replace q0:=cell_keep kk q0
 replace q1:=cell_keep kk q1
 replace q2:=cell_keep kk q2
 replace q3:=cell_keep kk q3
 have hnz:(((m:Int)+1)==0)=false:=by simp;omega
 have hm1:((m:Int)+1 - 1)=(m:Int):=by omega
 have i0:(0:Int)≤(m:Int):=by omega
 have i1:(m:Int)<(m:Int)+1:=by omega
 have hcc:((m:Int)+1)≤(c:Int):=by omega
 have hcc2:(m:Int)≤(c:Int):=by omega
 have hwm:IntKind.i64.wrap (m:Int)=(m:Int):=by simp [IntKind.wrap,IntKind.bits,IntKind.signed];omega
 have hmx:max (m:Int) 0=(m:Int):=by omega
 have Hturn:=Lib.hid hturn
 have Hvs:=Lib.hid hvs
 have Hve:=Lib.hid hve
 have Hl:=Lib.hid hl
 clear hturn hvs hve hl hu
 go_enter Tryd.func39,Tryd.ntmps39
 have Xc:=X.cell
 go_upto_region 5 with (go_at_call 40;(with_reducible refine (Hturn.out _ _ kk (Hve.out.keep kk)).mono ?_);rintro e w1 ⟨y1,rfl,hy,hb⟩;obtain ⟨k1,n1,s1,A1,m1,c1,rfl⟩:=hy.form)
 have hzl:=Z.lt
 have hba:=below_one (w:=w1) (.cells #[.int .i64 k1,.int .u64 n1,.string s1,.slice A1 m1 c1] 25)
 have k1':=below_call kk hb kk.size
 have S:LsS w w1.heap.size #[.int .i64 k,.int .u64 (n:Int),.string s,.slice (some ⟨eb,eo,none⟩) (m+1) c] #[.int .i64 k1,.int .u64 n1,.string s1,.slice A1 m1 c1] ru (.agg #[.int .i64 k1,.int .u64 n1,.string s1,.slice A1 m1 c1]) (some ⟨eb,eo,none⟩) (m+1) vs (w1.alloc (.cells #[.int .i64 k1,.int .u64 n1,.string s1,.slice A1 m1 c1] 25)):=
  ⟨below_call k1' hba k1'.size,(X.keep hb).keep hba,(Z.keep hb).keep hba,Blk.new w1 _ _,(hy.under hba).mono (fun b hb'=>Nat.lt_of_lt_of_le Z.lt hb'),hsrc.keep (below_call k1' hba k1'.size),Nat.lt_of_lt_of_le hzl hb.size⟩
 clear hba k1' hzl X Z Xc kk hb hy hsrc q0 q1 q2 q3
 replace S:=S.keep (Below.refl _ _).drew
 (refine wp_region_held_drew (S:=(fun wx=>(∀i,wx.cell? ⟨w.heap.size,i,none⟩=#[.int .i64 k,.int .u64 (n:Int),.string s,.slice (some ⟨eb,eo,none⟩) (m+1) c][i]?)∧∀i,wx.cell? ⟨w1.heap.size,i,none⟩=#[.int .i64 k1,.int .u64 n1,.string s1,.slice A1 m1 c1][i]?)) (by kernel_rfl) ?_ (fun hHeld=>?_);(· exact ⟨S.X.cell,S.Y.cell⟩))
 revert hHeld
 revert S
 generalize World.drew _=W
 generalize w1.heap.size=gy
 intro S hHeld
 (refine take_op (i:=0) (v:=?_) rfl (by kernel_rfl) (by kernel_rfl) (by kernel_rfl) (fun _ _ _ h=>h) (by rfl) ?_ hHeld ?_;rotate_left;(· (intro wS hSw;(try dsimp only at hSw);go_simp;first|done|with_reducible rfl));simp only [Act.put,sta_,scz_,scs_]);(refine take_op (i:=1) (v:=?_) rfl (by kernel_rfl) (by kernel_rfl) (by kernel_rfl) (fun _ _ _ h=>h) (by rfl) ?_ hHeld ?_;rotate_left;(· (intro wS hSw;(try dsimp only at hSw);go_simp;first|done|with_reducible rfl));simp only [Act.put,sta_,scz_,scs_]);(refine take_op (i:=2) (v:=?_) rfl (by kernel_rfl) (by kernel_rfl) (by kernel_rfl) (fun _ _ _ h=>h) (by rfl) ?_ hHeld ?_;rotate_left;(· (intro wS hSw;(try dsimp only at hSw);go_simp;first|done|with_reducible rfl));simp only [Act.put,sta_,scz_,scs_]);(refine take_op (i:=3) (v:=?_) rfl (by kernel_rfl) (by kernel_rfl) (by kernel_rfl) (fun _ _ _ h=>h) (by rfl) ?_ hHeld ?_;rotate_left;(· (intro wS hSw;(try dsimp only at hSw);go_simp;first|done|with_reducible rfl));simp only [Act.put,sta_,scz_,scs_]);(refine take_op (i:=4) (v:=?_) rfl (by kernel_rfl) (by kernel_rfl) (by kernel_rfl) (fun _ _ _ h=>h) (by rfl) ?_ hHeld ?_;rotate_left;(· (intro wS hSw;(try dsimp only at hSw);go_simp;first|done|with_reducible rfl));simp only [Act.put,sta_,scz_,scs_]);(refine take_op (i:=5) (v:=?_) rfl (by kernel_rfl) (by kernel_rfl) (by kernel_rfl) (fun _ _ _ h=>h) (by rfl) ?_ hHeld ?_;rotate_left;(· (intro wS hSw;(try dsimp only at hSw);go_simp;first|done|with_reducible rfl));simp only [Act.put,sta_,scz_,scs_]);(refine take_op (i:=6) (v:=?_) rfl (by kernel_rfl) (by kernel_rfl) (by kernel_rfl) (fun _ _ _ h=>h) (by rfl) ?_ hHeld ?_;rotate_left;(· (intro wS hSw;(try dsimp only at hSw);go_simp;first|done|with_reducible rfl));simp only [Act.put,sta_,scz_,scs_]);(refine take_op (i:=7) (v:=?_) rfl (by kernel_rfl) (by kernel_rfl) (by kernel_rfl) (fun _ _ _ h=>h) (by rfl) ?_ hHeld ?_;rotate_left;(· (intro wS hSw;(try dsimp only at hSw);go_simp;first|done|with_reducible rfl));simp only [Act.put,sta_,scz_,scs_]);(refine take_op (i:=11) (v:=?_) rfl (by kernel_rfl) (by kernel_rfl) (by kernel_rfl) (fun _ _ _ h=>h) (by rfl) ?_ hHeld ?_;rotate_left;(· (intro wS hSw;(try dsimp only at hSw);go_simp;first|done|with_reducible rfl));simp only [Act.put,sta_,scz_,scs_])
 have hba:=below_one (w:=W) (.cells #[.int .i64 k1,.int .u64 n1,.string s1,.slice A1 m1 c1] 25)
 (refine call_op (i:=8) rfl (by kernel_rfl) (by rfl) (fun K hK=>?_);go_simp;skip;refine hK.out _ _ ⟨(S.keep hba).X.cell,(S.keep hba).Y.cell⟩ (fun hHeld2=>?_);clear hK K hHeld;have hHeld:=hHeld2;clear hHeld2;(try simp only [Act.put,sta_,scz_,scs_]))
 have G:=Blk.new W 25 #[.int .i64 k1,.int .u64 n1,.string s1,.slice A1 m1 c1]
 replace S:=S.keep hba
 clear hba
 revert hHeld
 revert S
 revert G
 generalize World.alloc W _=W2
 generalize W.heap.size=gs
 intro G S hHeld
 have hold:∀(j:Nat) (x:Value),(flat4 vs m)[j]? =some x→W2.cell? ((⟨eb,eo,none⟩:Addr).add j)=some x:=fun j x hx=>by
  obtain ⟨ad,e,h⟩:=S.src.2.1 j x (by rw [flat4_snoc];rw [List.getElem?_append_left];exact hx;rcases Nat.lt_or_ge j (flat4 vs m).length with h|h;exact h;rw [List.getElem?_eq_none h] at hx;cases hx)
  injection e with e
  rw [e];exact h
 have hnew:∀(j:Nat) (x:Value),(Value.agg #[.int .i64 k1,.int .u64 n1,.string s1,.slice A1 m1 c1]).cells.toList[j]? =some x→W2.cell? ((⟨gs,0,none⟩:Addr).add j)=some x:=fun j x hx=>by
  rw [Addr.add_lit,Nat.zero_add,G.cell]
  simpa [Value.cells] using hx
 (refine call_op (i:=9) rfl (by kernel_rfl) (by rfl) (fun K hK=>?_);(refine wp_grow _ (.tmp 32) (.tmp 34) 23 rfl 25 j1 _ 4 56 Tryd.underlying23 hi hz0 hz1 hz2 rfl (by omega) ⟨eb,eo,none⟩ m m (flat4 vs m) rfl hlo hold ⟨gs,0,none⟩ 1 1 (Value.agg #[.int .i64 k1,.int .u64 n1,.string s1,.slice A1 m1 c1]).cells.toList rfl rfl hnew (by omega) (by unfold maxLen;omega) (by omega) ?_;intro v9 w9 hown9 hg9);refine hK.out _ _ ⟨(S.keep (below_gr0 hg9)).X.cell,(S.keep (below_gr0 hg9)).Y.cell⟩ (fun hHeld2=>?_);clear hK K hHeld;have hHeld:=hHeld2;clear hHeld2;(try simp only [Act.put,sta_,scz_,scs_]))
 have h1c:∀x∈flat4 vs m++(Value.agg #[.int .i64 k1,.int .u64 n1,.string s1,.slice A1 m1 c1]).cells.toList,x.oneCell'=true:=fun x hx=>by
  rcases List.mem_append.1 hx with h|h
  ·exact flat4_one (fun i hi=>((Hvs.out i (l[i]'(by have:=Hl.out;omega)) (List.getElem?_eq_getElem (by have:=Hl.out;omega))).four).2) x h
  ·exact S.h.four.2 x h
 obtain ⟨g9,c9,rfl, -, -⟩:=hown9.form (by omega)
 have hzW:w.heap.size+1<w9.heap.size:=(S.keep (below_gr0 hg9)).Z.lt
 have hs9:=src_row hown9 h1c
 replace S:=S.keep (below_gr0 hg9)
 clear hold hnew hown9 hg9 G h1c
 (refine call_op (i:=10) rfl (by kernel_rfl) (by rfl) (fun K hK=>?_);go_simp;(go_at_call 55;(with_reducible refine (codeclist_src _ _ _ _ _ hs9 (by omega)).mono ?_);rintro e wA ⟨A9,d9,rfl,ownA,hb⟩;replace S:=S.keep hb;clear hs9);refine hK.out _ _ ⟨S.X.cell,S.Y.cell⟩ (fun hHeld2=>?_);clear hK K hHeld;have hHeld:=hHeld2;clear hHeld2;(try simp only [Act.put,sta_,scz_,scs_]))
 have hin:HoldsIn wA (fun b=>(S0 b∧b<w.heap.size)∨w.heap.size+1<b) (ltree (l.dropLast++ [ru])) (listV A9 (m+1) d9):=by
  rw [←flat4_last] at ownA
  refine hin_row (by simp [Hl.out]) ownA (fun b hb'=>.inr (by have h3:=hzW;omega)) fun i t ht=>?_
  rcases last_get Hl.out ht with ⟨h1,h2⟩|⟨rfl,rfl⟩
  ·simp only [h1,if_true]
   exact (((Hvs.out i t h2).there).mono (fun b hb'=>.inl hb')).under S.kk
  ·simp only [Nat.lt_irrefl,if_false]
   exact S.h.mono (fun b hb'=>.inr hb')
 clear ownA hb
 have cZ:=S.Z.cell
 have fZ:=S.Z.frozen
 (refine call_op (i:=12) rfl (by kernel_rfl) (by rfl) (fun K hK=>?_);go_simp;skip;refine hK.out _ _ ⟨(S.X.far4 (by omega) _ _ _ _).cell,(S.Y.far4 (by have:=S.ne;omega) _ _ _ _).cell⟩ (fun hHeld2=>?_);clear hK K hHeld;have hHeld:=hHeld2;clear hHeld2;(try simp only [Act.put,sta_,scz_,scs_]))
 (refine take_op (i:=13) (v:=?_) rfl (by kernel_rfl) (by kernel_rfl) (by kernel_rfl) (fun _ _ _ h=>h) (by rfl) ?_ hHeld ?_;rotate_left;(· (intro wS hSw;(try dsimp only at hSw);go_simp;first|done|with_reducible rfl));simp only [Act.put,sta_,scz_,scs_])
 (refine wpAnyH_done (by kernel_rfl) ?_ _)
 clear hHeld cZ fZ
 have Z4:=S.Z.set4 (.int .i64 2) (.int .u64 0) (.string ByteArray.empty) (.slice A9 (m+1) d9)
 have k4:Below w.heap.size w _:=(((S.kk.setCell (p:=⟨w.heap.size+1,0,none⟩) (by simp) (.int .i64 2)).setCell (p:=⟨w.heap.size+1,1,none⟩) (by simp) (.int .u64 0)).setCell (p:=⟨w.heap.size+1,2,none⟩) (by simp) (.string ByteArray.empty)).setCell (p:=⟨w.heap.size+1,3,none⟩) (by simp) (.slice A9 (m+1) d9)
 have hin4:=hin_set4 hin (g:=w.heap.size+1) (fun h=>by omega) (.int .i64 2) (.int .u64 0) (.string ByteArray.empty) (.slice A9 (m+1) d9)
 clear S hin
 have cZ4:=Z4.cell
 go_wp2_with fail
 refine bodyPost_ret (v:=.tuple #[listV A9 (m+1) d9,.bool rb]) (by simp [results,Tryd.results39,go_sem, *] <;> rfl) rfl ?_
 exact ⟨_,rfl,hin4.mono (fun b hb'=>hb'.imp And.left (fun h=>by omega)),k4⟩
set_option maxHeartbeats 8000000 in
theorem last_up (k:Int) (n:Nat) (s:ByteArray) (l:List Tree) (v:Value) (w:World) (m:Nat) (u ru:Tree) (rb:Bool) (hl:l.length=m+1) (hm:m≤100000000) (hu:l[m]? =some u) (S0:Nat→Prop) (hv:HoldsIn w S0 (.mk k n s l) v)
  (hturn:∀W y,Below w.heap.size w W→Holds W u y→Calls Tryd.prog 41 #[y] W (Turned2 W (ru,rb))):
  Calls Tryd.prog 39 #[v,.func (.func 41) #[] #[]] w (Lasts w S0 (ltree (l.dropLast++ [ru]),rb)):=by
 obtain ⟨A,m0,c,rfl, -, -, -,hm0,hmc,hcm, -⟩:=hv.holds.open_
 rw [hl] at hm0
 subst hm0
 have hit:=hv.holds.items
 obtain ⟨eb,eo,rfl,hrow⟩:=hit.rows (by omega)
 obtain ⟨ke,ne,se,Ae,me,ce,hve,q0,q1,q2,q3, -⟩:=hrow m u hu
 have hlb:eb<w.heap.size:=World.block_lt_of_cell? _ _ q0
 obtain ⟨vs,hsrc,hvs⟩:=hv.src
 have hlo:=flat4_length (vs:=vs) (m:=m) fun i hi=>(hvs i l[i] (List.getElem?_eq_getElem (by omega))).four.1
 obtain ⟨j1,hi,hz0,hz1,hz2⟩:=info_item
 clear hit hrow hv
 have kk:Below w.heap.size w ((w.alloc (.cells #[.int .i64 k,.int .u64 (n:Int),.string s,.slice (some ⟨eb,eo,none⟩) (m+1) c] 25)).alloc (.cells #[.int .i64 0,.int .u64 0,.string ⟨#[]⟩,.slice none 0 0] 25)):=blw
 have X:Blk ((w.alloc (.cells #[.int .i64 k,.int .u64 (n:Int),.string s,.slice (some ⟨eb,eo,none⟩) (m+1) c] 25)).alloc (.cells #[.int .i64 0,.int .u64 0,.string ⟨#[]⟩,.slice none 0 0] 25)) w.heap.size 25 #[.int .i64 k,.int .u64 (n:Int),.string s,.slice (some ⟨eb,eo,none⟩) (m+1) c]:=(Blk.new w _ _).alloc _
 have Z:Blk ((w.alloc (.cells #[.int .i64 k,.int .u64 (n:Int),.string s,.slice (some ⟨eb,eo,none⟩) (m+1) c] 25)).alloc (.cells #[.int .i64 0,.int .u64 0,.string ⟨#[]⟩,.slice none 0 0] 25)) (w.heap.size+1) 25 #[.int .i64 0,.int .u64 0,.string ⟨#[]⟩,.slice none 0 0]:=Blk.newAt (by simp)
 rw [show eo+4*m=eo+m*4 by omega] at q0
 rw [show eo+(4*m+1)=eo+m*4+1 by omega] at q1
 rw [show eo+(4*m+2)=eo+m*4+2 by omega] at q2
 rw [show eo+(4*m+3)=eo+m*4+3 by omega] at q3
 replace q0:=cell_keep kk q0
 replace q1:=cell_keep kk q1
 replace q2:=cell_keep kk q2
 replace q3:=cell_keep kk q3
 have hnz:(((m:Int)+1)==0)=false:=by simp;omega
 have hm1:((m:Int)+1 - 1)=(m:Int):=by omega
 have i0:(0:Int)≤(m:Int):=by omega
 have i1:(m:Int)<(m:Int)+1:=by omega
 have hcc:((m:Int)+1)≤(c:Int):=by omega
 have hcc2:(m:Int)≤(c:Int):=by omega
 have hwm:IntKind.i64.wrap (m:Int)=(m:Int):=by simp [IntKind.wrap,IntKind.bits,IntKind.signed];omega
 have hmx:max (m:Int) 0=(m:Int):=by omega
 have Hturn:=Lib.hid hturn
 have Hvs:=Lib.hid hvs
 have Hve:=Lib.hid hve
 have Hl:=Lib.hid hl
 clear hturn hvs hve hl hu
 go_enter Tryd.func39,Tryd.ntmps39
 have Xc:=X.cell
 go_upto_region 5 with (go_at_call 41;(with_reducible refine (Hturn.out _ _ kk (Hve.out.keep kk)).mono ?_);rintro e w1 ⟨y1,rfl,hy,hb⟩;obtain ⟨k1,n1,s1,A1,m1,c1,rfl⟩:=hy.form)
 have hzl:=Z.lt
 have hba:=below_one (w:=w1) (.cells #[.int .i64 k1,.int .u64 n1,.string s1,.slice A1 m1 c1] 25)
 have k1':=below_call kk hb kk.size
 have S:LsS w w1.heap.size #[.int .i64 k,.int .u64 (n:Int),.string s,.slice (some ⟨eb,eo,none⟩) (m+1) c] #[.int .i64 k1,.int .u64 n1,.string s1,.slice A1 m1 c1] ru (.agg #[.int .i64 k1,.int .u64 n1,.string s1,.slice A1 m1 c1]) (some ⟨eb,eo,none⟩) (m+1) vs (w1.alloc (.cells #[.int .i64 k1,.int .u64 n1,.string s1,.slice A1 m1 c1] 25)):=
  ⟨below_call k1' hba k1'.size,(X.keep hb).keep hba,(Z.keep hb).keep hba,Blk.new w1 _ _,(hy.under hba).mono (fun b hb'=>Nat.lt_of_lt_of_le Z.lt hb'),hsrc.keep (below_call k1' hba k1'.size),Nat.lt_of_lt_of_le hzl hb.size⟩
 clear hba k1' hzl X Z Xc kk hb hy hsrc q0 q1 q2 q3
 replace S:=S.keep (Below.refl _ _).drew
 (refine wp_region_held_drew (S:=(fun wx=>(∀i,wx.cell? ⟨w.heap.size,i,none⟩=#[.int .i64 k,.int .u64 (n:Int),.string s,.slice (some ⟨eb,eo,none⟩) (m+1) c][i]?)∧∀i,wx.cell? ⟨w1.heap.size,i,none⟩=#[.int .i64 k1,.int .u64 n1,.string s1,.slice A1 m1 c1][i]?)) (by kernel_rfl) ?_ (fun hHeld=>?_);(· exact ⟨S.X.cell,S.Y.cell⟩))
 revert hHeld
 revert S
 generalize World.drew _=W
 generalize w1.heap.size=gy
 intro S hHeld
 (refine take_op (i:=0) (v:=?_) rfl (by kernel_rfl) (by kernel_rfl) (by kernel_rfl) (fun _ _ _ h=>h) (by rfl) ?_ hHeld ?_;rotate_left;(· (intro wS hSw;(try dsimp only at hSw);go_simp;first|done|with_reducible rfl));simp only [Act.put,sta_,scz_,scs_]);(refine take_op (i:=1) (v:=?_) rfl (by kernel_rfl) (by kernel_rfl) (by kernel_rfl) (fun _ _ _ h=>h) (by rfl) ?_ hHeld ?_;rotate_left;(· (intro wS hSw;(try dsimp only at hSw);go_simp;first|done|with_reducible rfl));simp only [Act.put,sta_,scz_,scs_]);(refine take_op (i:=2) (v:=?_) rfl (by kernel_rfl) (by kernel_rfl) (by kernel_rfl) (fun _ _ _ h=>h) (by rfl) ?_ hHeld ?_;rotate_left;(· (intro wS hSw;(try dsimp only at hSw);go_simp;first|done|with_reducible rfl));simp only [Act.put,sta_,scz_,scs_]);(refine take_op (i:=3) (v:=?_) rfl (by kernel_rfl) (by kernel_rfl) (by kernel_rfl) (fun _ _ _ h=>h) (by rfl) ?_ hHeld ?_;rotate_left;(· (intro wS hSw;(try dsimp only at hSw);go_simp;first|done|with_reducible rfl));simp only [Act.put,sta_,scz_,scs_]);(refine take_op (i:=4) (v:=?_) rfl (by kernel_rfl) (by kernel_rfl) (by kernel_rfl) (fun _ _ _ h=>h) (by rfl) ?_ hHeld ?_;rotate_left;(· (intro wS hSw;(try dsimp only at hSw);go_simp;first|done|with_reducible rfl));simp only [Act.put,sta_,scz_,scs_]);(refine take_op (i:=5) (v:=?_) rfl (by kernel_rfl) (by kernel_rfl) (by kernel_rfl) (fun _ _ _ h=>h) (by rfl) ?_ hHeld ?_;rotate_left;(· (intro wS hSw;(try dsimp only at hSw);go_simp;first|done|with_reducible rfl));simp only [Act.put,sta_,scz_,scs_]);(refine take_op (i:=6) (v:=?_) rfl (by kernel_rfl) (by kernel_rfl) (by kernel_rfl) (fun _ _ _ h=>h) (by rfl) ?_ hHeld ?_;rotate_left;(· (intro wS hSw;(try dsimp only at hSw);go_simp;first|done|with_reducible rfl));simp only [Act.put,sta_,scz_,scs_]);(refine take_op (i:=7) (v:=?_) rfl (by kernel_rfl) (by kernel_rfl) (by kernel_rfl) (fun _ _ _ h=>h) (by rfl) ?_ hHeld ?_;rotate_left;(· (intro wS hSw;(try dsimp only at hSw);go_simp;first|done|with_reducible rfl));simp only [Act.put,sta_,scz_,scs_]);(refine take_op (i:=11) (v:=?_) rfl (by kernel_rfl) (by kernel_rfl) (by kernel_rfl) (fun _ _ _ h=>h) (by rfl) ?_ hHeld ?_;rotate_left;(· (intro wS hSw;(try dsimp only at hSw);go_simp;first|done|with_reducible rfl));simp only [Act.put,sta_,scz_,scs_])
 have hba:=below_one (w:=W) (.cells #[.int .i64 k1,.int .u64 n1,.string s1,.slice A1 m1 c1] 25)
 (refine call_op (i:=8) rfl (by kernel_rfl) (by rfl) (fun K hK=>?_);go_simp;skip;refine hK.out _ _ ⟨(S.keep hba).X.cell,(S.keep hba).Y.cell⟩ (fun hHeld2=>?_);clear hK K hHeld;have hHeld:=hHeld2;clear hHeld2;(try simp only [Act.put,sta_,scz_,scs_]))
 have G:=Blk.new W 25 #[.int .i64 k1,.int .u64 n1,.string s1,.slice A1 m1 c1]
 replace S:=S.keep hba
 clear hba
 revert hHeld
 revert S
 revert G
 generalize World.alloc W _=W2
 generalize W.heap.size=gs
 intro G S hHeld
 have hold:∀(j:Nat) (x:Value),(flat4 vs m)[j]? =some x→W2.cell? ((⟨eb,eo,none⟩:Addr).add j)=some x:=fun j x hx=>by
  obtain ⟨ad,e,h⟩:=S.src.2.1 j x (by rw [flat4_snoc];rw [List.getElem?_append_left];exact hx;rcases Nat.lt_or_ge j (flat4 vs m).length with h|h;exact h;rw [List.getElem?_eq_none h] at hx;cases hx)
  injection e with e
  rw [e];exact h
 have hnew:∀(j:Nat) (x:Value),(Value.agg #[.int .i64 k1,.int .u64 n1,.string s1,.slice A1 m1 c1]).cells.toList[j]? =some x→W2.cell? ((⟨gs,0,none⟩:Addr).add j)=some x:=fun j x hx=>by
  rw [Addr.add_lit,Nat.zero_add,G.cell]
  simpa [Value.cells] using hx
 (refine call_op (i:=9) rfl (by kernel_rfl) (by rfl) (fun K hK=>?_);(refine wp_grow _ (.tmp 32) (.tmp 34) 23 rfl 25 j1 _ 4 56 Tryd.underlying23 hi hz0 hz1 hz2 rfl (by omega) ⟨eb,eo,none⟩ m m (flat4 vs m) rfl hlo hold ⟨gs,0,none⟩ 1 1 (Value.agg #[.int .i64 k1,.int .u64 n1,.string s1,.slice A1 m1 c1]).cells.toList rfl rfl hnew (by omega) (by unfold maxLen;omega) (by omega) ?_;intro v9 w9 hown9 hg9);refine hK.out _ _ ⟨(S.keep (below_gr0 hg9)).X.cell,(S.keep (below_gr0 hg9)).Y.cell⟩ (fun hHeld2=>?_);clear hK K hHeld;have hHeld:=hHeld2;clear hHeld2;(try simp only [Act.put,sta_,scz_,scs_]))
 have h1c:∀x∈flat4 vs m++(Value.agg #[.int .i64 k1,.int .u64 n1,.string s1,.slice A1 m1 c1]).cells.toList,x.oneCell'=true:=fun x hx=>by
  rcases List.mem_append.1 hx with h|h
  ·exact flat4_one (fun i hi=>((Hvs.out i (l[i]'(by have:=Hl.out;omega)) (List.getElem?_eq_getElem (by have:=Hl.out;omega))).four).2) x h
  ·exact S.h.four.2 x h
 obtain ⟨g9,c9,rfl, -, -⟩:=hown9.form (by omega)
 have hzW:w.heap.size+1<w9.heap.size:=(S.keep (below_gr0 hg9)).Z.lt
 have hs9:=src_row hown9 h1c
 replace S:=S.keep (below_gr0 hg9)
 clear hold hnew hown9 hg9 G h1c
 (refine call_op (i:=10) rfl (by kernel_rfl) (by rfl) (fun K hK=>?_);go_simp;(go_at_call 55;(with_reducible refine (codeclist_src _ _ _ _ _ hs9 (by omega)).mono ?_);rintro e wA ⟨A9,d9,rfl,ownA,hb⟩;replace S:=S.keep hb;clear hs9);refine hK.out _ _ ⟨S.X.cell,S.Y.cell⟩ (fun hHeld2=>?_);clear hK K hHeld;have hHeld:=hHeld2;clear hHeld2;(try simp only [Act.put,sta_,scz_,scs_]))
 have hin:HoldsIn wA (fun b=>(S0 b∧b<w.heap.size)∨w.heap.size+1<b) (ltree (l.dropLast++ [ru])) (listV A9 (m+1) d9):=by
  rw [←flat4_last] at ownA
  refine hin_row (by simp [Hl.out]) ownA (fun b hb'=>.inr (by have h3:=hzW;omega)) fun i t ht=>?_
  rcases last_get Hl.out ht with ⟨h1,h2⟩|⟨rfl,rfl⟩
  ·simp only [h1,if_true]
   exact (((Hvs.out i t h2).there).mono (fun b hb'=>.inl hb')).under S.kk
  ·simp only [Nat.lt_irrefl,if_false]
   exact S.h.mono (fun b hb'=>.inr hb')
 clear ownA hb
 have cZ:=S.Z.cell
 have fZ:=S.Z.frozen
 (refine call_op (i:=12) rfl (by kernel_rfl) (by rfl) (fun K hK=>?_);go_simp;skip;refine hK.out _ _ ⟨(S.X.far4 (by omega) _ _ _ _).cell,(S.Y.far4 (by have:=S.ne;omega) _ _ _ _).cell⟩ (fun hHeld2=>?_);clear hK K hHeld;have hHeld:=hHeld2;clear hHeld2;(try simp only [Act.put,sta_,scz_,scs_]))
 (refine take_op (i:=13) (v:=?_) rfl (by kernel_rfl) (by kernel_rfl) (by kernel_rfl) (fun _ _ _ h=>h) (by rfl) ?_ hHeld ?_;rotate_left;(· (intro wS hSw;(try dsimp only at hSw);go_simp;first|done|with_reducible rfl));simp only [Act.put,sta_,scz_,scs_])
 (refine wpAnyH_done (by kernel_rfl) ?_ _)
 clear hHeld cZ fZ
 have Z4:=S.Z.set4 (.int .i64 2) (.int .u64 0) (.string ByteArray.empty) (.slice A9 (m+1) d9)
 have k4:Below w.heap.size w _:=(((S.kk.setCell (p:=⟨w.heap.size+1,0,none⟩) (by simp) (.int .i64 2)).setCell (p:=⟨w.heap.size+1,1,none⟩) (by simp) (.int .u64 0)).setCell (p:=⟨w.heap.size+1,2,none⟩) (by simp) (.string ByteArray.empty)).setCell (p:=⟨w.heap.size+1,3,none⟩) (by simp) (.slice A9 (m+1) d9)
 have hin4:=hin_set4 hin (g:=w.heap.size+1) (fun h=>by omega) (.int .i64 2) (.int .u64 0) (.string ByteArray.empty) (.slice A9 (m+1) d9)
 clear S hin
 have cZ4:=Z4.cell
 go_wp2_with fail
 refine bodyPost_ret (v:=.tuple #[listV A9 (m+1) d9,.bool rb]) (by simp [results,Tryd.results39,go_sem, *] <;> rfl) rfl ?_
 exact ⟨_,rfl,hin4.mono (fun b hb'=>hb'.imp And.left (fun h=>by omega)),k4⟩
end Go.Proofs.YtlolnakeancenaaDoor
namespace Go.Proofs.YtlolnakeancenaaDoor
open Go.RowKit
set_option linter.unusedVariables false
set_option linter.unusedSimpArgs false
set_option maxRecDepth 20000
attribute [local go_sem ↓] Go.wp_at_zero Go.wp_at_succ
attribute [local go_sem] World.cell?_alloc_some frozen_alloc_some
attribute [local go_sem] lt2 lt3 lt4 lt5
attribute [local simp] lt2 lt3 lt4 lt5
theorem oldE_zero {l:List IdP} {q:Int} (h:acheck ⟨l,q,1⟩=0):oldE ⟨l,q,1⟩=0:=by
 unfold oldE
 rw [if_neg (fun h2=>h2 h),if_neg (by simp)]
set_option maxHeartbeats 4000000 in
theorem down_good (l:List IdP) (q:Int) (hck:acheck ⟨l,q,1⟩=0) (y:Value) (w:World) (hv:Holds w (atree l q 1) y):Calls Tryd.prog 40 #[y] w (Turned2 w (otree l q,true)):=by
 have htk:=fun W (h:Below w.heap.size w W)=>attrtake_any (atree l q 1) y W (hv.keep h)
 rw [atake_item hck] at htk
 have hlen:l.length≤4096:=(idsOk_iff.1 (acheck_iff.1 hck).2).2.2
 have hol:=fun W A c (h1:IdsAt W A l.length l)=>attrold_any A l.length c q 1 l W h1 (by omega)
 rw [oldE_zero hck] at hol
 obtain ⟨k,n,s,A,m,c,rfl⟩:=hv.four_form
 have Htk:=Lib.hid htk
 have Hol:=Lib.hid hol
 clear htk hol hck hv
 have kk:Below w.heap.size w ((w.alloc (.cells #[.int .i64 k,.int .u64 n,.string s,.slice A m c] 25)).alloc (.cells #[.int .i64 0,.int .u64 0,.string ⟨#[]⟩,.slice none 0 0] 25)):=blw
 have Z:Blk ((w.alloc (.cells #[.int .i64 k,.int .u64 n,.string s,.slice A m c] 25)).alloc (.cells #[.int .i64 0,.int .u64 0,.string ⟨#[]⟩,.slice none 0 0] 25)) (w.heap.size+1) 25 #[.int .i64 0,.int .u64 0,.string ⟨#[]⟩,.slice none 0 0]:=Blk.newAt (by simp)
 go_enter Tryd.func40,Tryd.ntmps40
 go_upto_region 2 with (go_at_call 63;(with_reducible refine (Htk.out _ kk).mono ?_);rintro e w1 ⟨A1,c1,rfl,hI,hIc,hb⟩;simp only [Option.getD_some,Option.isSome_some])
 have hba:=below_one (w:=w1) (.cells #[.slice A1 l.length c1,.int .i64 q,.int .i64 1] 48)
 have k1:=below_call kk hb kk.size
 have k2:=below_call k1 hba k1.size
 have Z2:=(Z.keep hb).keep hba
 have I2:IdsAt _ A1 l.length l:=IdsAt.keep hI hba
 have Y:=Blk.new w1 48 #[.slice A1 l.length c1,.int .i64 q,.int .i64 1]
 clear hI hIc hb hba k1 Z kk Htk
 revert k2
 revert Z2
 revert I2
 revert Y
 generalize World.alloc w1 _=W
 generalize w1.heap.size=g1
 intro Y I2 Z2 k2
 have Yc:=Y.cell
 have I2h:=Lib.hid I2
 clear I2
 go_upto_region 3 with (go_at_call 65;(with_reducible refine (Hol.out _ _ _ I2h.out).mono ?_);rintro e w2 ⟨k4,n4,s4,A4,m4,c4,rfl,hin,hb⟩)
 have hin:=hin (by first|trivial|rfl)
 have zz:=Z2.lt
 have hba:=below_one (w:=w2) (.cells #[.int .i64 k4,.int .u64 n4,.string s4,.slice A4 m4 c4] 25)
 have k3:=below_call k2 hb k2.size
 have k4':=below_call k3 hba k3.size
 have Z3:=(Z2.keep hb).keep hba
 have hin3:HoldsIn _ (fun x=>w.heap.size+1<x) _ _:=(hin.under hba).mono (fun x hx=>Nat.lt_of_lt_of_le zz hx)
 have Y3:=Blk.new w2 25 #[.int .i64 k4,.int .u64 n4,.string s4,.slice A4 m4 c4]
 have ne3:w.heap.size+1<w2.heap.size:=Nat.lt_of_lt_of_le zz hb.size
 clear hin hb hba k3 Z2 k2 Y Yc Hol I2h zz
 revert k4'
 revert Z3
 revert hin3
 revert Y3
 revert ne3
 generalize World.alloc w2 _=W3
 generalize w2.heap.size=g2
 intro ne3 Y3 hin3 Z3 k4'
 have Yc:=Y3.cell
 have Zc:=Z3.cell
 have Zf:=Z3.frozen
 have Z4c:=(Z3.set4 (.int .i64 k4) (.int .u64 n4) (.string s4) (.slice A4 m4 c4)).cell
 go_wp2_with fail
 refine bodyPost_ret (v:=.tuple #[.agg #[.int .i64 k4,.int .u64 n4,.string s4,.slice A4 m4 c4],.bool true]) (by simp [results,Tryd.results40,go_sem, *] <;> rfl) rfl ?_
 exact ⟨_,rfl,(hin_set4 hin3 (g:=w.heap.size+1) (fun h=>by omega) _ _ _ _).mono (fun x hx=>by omega),blw⟩
theorem otake_len {u:Tree}:((otake u).getD azero).l.length≤4096:=by
 cases h:otake u with
 |none=>exact Nat.zero_le _
 |some a=>
  unfold otake at h
  split at h
  ·unfold aTk at h
   split at h
   ·next h2=>
    injection h with h
    subst h
    simp only [Bool.and_eq_true,decide_eq_true_eq] at h2
    exact (idsOk_iff.1 (acheck_iff.1 h2.1.2).2).2.2
   ·cases h
  ·cases h
set_option maxHeartbeats 4000000 in
theorem up_any (u:Tree) (y:Value) (w:World) (hv:Holds w u y):Calls Tryd.prog 41 #[y] w (Turned2 w (atree ((otake u).getD azero).l ((otake u).getD azero).q ((otake u).getD azero).t,(otake u).isSome)):=by
 have htk:=fun W (h:Below w.heap.size w W)=>attrtakeold_any u y W (hv.keep h)
 have hlen:= @otake_len u
 unfold TkA at htk
 generalize (otake u).isSome=b at*
 generalize (otake u).getD azero=a at*
 obtain ⟨l,q,t⟩:=a
 have hit:=fun W A c (h1:IdsAt W A l.length l)=>attritem_any A l.length c q t l W h1 (by dsimp only at hlen;omega)
 obtain ⟨k,n,s,A,m,c,rfl⟩:=hv.four_form
 have Htk:=Lib.hid htk
 have Hit:=Lib.hid hit
 clear htk hit hv hlen
 have kk:Below w.heap.size w ((w.alloc (.cells #[.int .i64 k,.int .u64 n,.string s,.slice A m c] 25)).alloc (.cells #[.int .i64 0,.int .u64 0,.string ⟨#[]⟩,.slice none 0 0] 25)):=blw
 have Z:Blk ((w.alloc (.cells #[.int .i64 k,.int .u64 n,.string s,.slice A m c] 25)).alloc (.cells #[.int .i64 0,.int .u64 0,.string ⟨#[]⟩,.slice none 0 0] 25)) (w.heap.size+1) 25 #[.int .i64 0,.int .u64 0,.string ⟨#[]⟩,.slice none 0 0]:=Blk.newAt (by simp)
 go_enter Tryd.func41,Tryd.ntmps41
 go_upto_region 2 with (go_at_call 66;(with_reducible refine (Htk.out _ kk).mono ?_);rintro e w1 ⟨A1,c1,rfl,hI,hIc,hb⟩)
 have hba:=below_one (w:=w1) (.cells #[.slice A1 l.length c1,.int .i64 q,.int .i64 t] 48)
 have k1:=below_call kk hb kk.size
 have k2:=below_call k1 hba k1.size
 have Z2:=(Z.keep hb).keep hba
 have I2:IdsAt _ A1 l.length l:=IdsAt.keep hI hba
 have Y:=Blk.new w1 48 #[.slice A1 l.length c1,.int .i64 q,.int .i64 t]
 clear hI hIc hb hba k1 Z kk Htk
 revert k2
 revert Z2
 revert I2
 revert Y
 generalize World.alloc w1 _=W
 generalize w1.heap.size=g1
 intro Y I2 Z2 k2
 have Yc:=Y.cell
 have zz:=Z2.lt
 have I2h:=Lib.hid I2
 clear I2
 go_wp2_with (go_at_call 58;(with_reducible refine (Hit.out _ _ _ I2h.out).mono ?_);rintro e w2 ⟨A4,c4,rfl,hin,hb⟩;replace Z2:=Z2.keep hb;have k3:=below_call k2 hb k2.size;have hin3:=hin.mono (S':=fun x=>w.heap.size+1<x) (fun x hx=>Nat.lt_of_lt_of_le zz hx);have Zc:=Z2.cell;have Zf:=Z2.frozen;have Z4c:=(Z2.set4 (.int .i64 2) (.int .u64 0) (.string ByteArray.empty) (.slice A4 3 c4)).cell;clear hin)
 refine bodyPost_ret (v:=.tuple #[listV A4 3 c4,.bool b]) (by simp [results,Tryd.results41,go_sem, *] <;> rfl) rfl ?_
 exact ⟨_,rfl,(hin_set4 hin3 (g:=w.heap.size+1) (fun h=>by omega) _ _ _ _).mono (fun x hx=>by omega),blw⟩
def hangsM (k st:Int):Bool:=k==1||k==2||k==3||k==5||(k==7&&st != 0)
theorem hangs_kAt (k st:Int):hangsM k st=kAt k st:=by
 unfold hangsM kAt kAt0
 by_cases h7:k=7
 ·subst h7
  cases h:(st==0) <;> simp [h,bne]
 ·have:(k==7)=false:=by simp [h7]
  rw [this]
  simp
set_option maxHeartbeats 4000000 in
theorem hangs_any (M:MsgT) (w:World):Calls Tryd.prog 38 #[M.v] w (Gives w (.bool (hangsM M.k M.st))):=by
 obtain ⟨R,hR⟩:∃R,hangsM M.k M.st=R:=⟨_,rfl⟩
 rw [hR]
 obtain ⟨k,i,n,br,bb,tr,tb,st,ck,cc,cq,cy,cx,cr,A,m,cap,sq,tg,ver,l⟩:=M
 unfold hangsM at hR
 simp only [MsgT.v] at hR ⊢
 by_cases h1:k=1
 ·subst h1;simp at hR;subst hR
  go_enter Tryd.func38,Tryd.ntmps38
  go_wp2_with fail
  go_ret
  exact ⟨rfl,blw⟩
 have e1:(k==1)=false:=by simp [h1]
 by_cases h2:k=2
 ·subst h2;simp at hR;subst hR
  go_enter Tryd.func38,Tryd.ntmps38
  go_wp2_with fail
  go_ret
  exact ⟨rfl,blw⟩
 have e2:(k==2)=false:=by simp [h2]
 by_cases h3:k=3
 ·subst h3;simp at hR;subst hR
  go_enter Tryd.func38,Tryd.ntmps38
  go_wp2_with fail
  go_ret
  exact ⟨rfl,blw⟩
 have e3:(k==3)=false:=by simp [h3]
 by_cases h5:k=5
 ·subst h5;simp at hR;subst hR
  go_enter Tryd.func38,Tryd.ntmps38
  go_wp2_with fail
  go_ret
  exact ⟨rfl,blw⟩
 have e5:(k==5)=false:=by simp [h5]
 rw [e1,e2,e3,e5] at hR
 simp only [Bool.false_or] at hR
 by_cases h7:k=7
 ·subst h7;simp at hR;subst hR
  go_enter Tryd.func38,Tryd.ntmps38
  go_wp2_with fail
  go_ret
  exact ⟨rfl,blw⟩
 ·have e7:(k==7)=false:=by simp [h7]
  rw [e7] at hR
  simp at hR;subst hR
  go_enter Tryd.func38,Tryd.ntmps38
  go_wp2_with fail
  go_ret
  exact ⟨rfl,blw⟩
end Go.Proofs.YtlolnakeancenaaDoor
