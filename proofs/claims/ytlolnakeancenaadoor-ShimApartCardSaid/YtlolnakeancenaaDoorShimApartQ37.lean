/- The walk of msg.item. -/
import Derived.Test.YtlolnakeancenaaDoorShimApartQ26
import Derived.Test.YtlolnakeancenaaDoorShimApartQ27
import Derived.Test.YtlolnakeancenaaDoorShimApartQ28
import Derived.Test.YtlolnakeancenaaDoorShimApartQ29
import Derived.Test.YtlolnakeancenaaDoorShimApartQ30
import Derived.Test.YtlolnakeancenaaDoorShimApartQ31
import Derived.Test.YtlolnakeancenaaDoorShimApartQ32
import Derived.WalkKit
import Derived.WalkSpells
import Derived.WalkLawsBesides
import Derived.Deep.RegionHeld3
import Derived.Deep.DrawnRows
import Derived.Deep.DeepCutAuto
import Derived.Deep.DeepFit
import Derived.Lib.Hide
import Derived.BigQuiet
import Derived.Deep.QuietTactic
namespace Go.Proofs.YtlolnakeancenaaDoor
open Go.RowKit
set_option linter.unusedVariables false
set_option linter.unusedSimpArgs false
set_option maxRecDepth 20000
attribute [local go_sem ↓] Go.wp_at_zero Go.wp_at_succ
attribute [local go_sem] World.cell?_alloc_some frozen_alloc_some
attribute [local go_sem] lt2 lt3 lt4 lt5
attribute [local simp] lt2 lt3 lt4 lt5
attribute [local go_sem ↓ high] loadVar_msg storeVar_msg msg_store_new
set_option maxHeartbeats 32000000 in
theorem item10_any (M:MsgT) (w:World) (hk:1≤M.k∧M.k<10) (hcc:kCmd M.k M.st=true→ccheck M.ck M.cc M.cq M.cy M.cx M.cr=0) (hm:M.m≤1000000) (hK:KindsAt w) (ha:M.Ok w):
  Calls Tryd.prog 35 #[M.v] w (fun e w'=>∃A m c,e= .returned (listV A m c)∧HoldsIn w' (fun b=>w.heap.size≤b) (ltree (mparts M)) (listV A m c)∧Below w.heap.size w w'):=by
 obtain ⟨i1,hi,hz0,hz1,hz2⟩:=info_item
 have hof:=fun W (h:Below w.heap.size w W)=>of_any M W hk (hK.keep h)
 have hfl:=flags_of (st:=M.st) hk
 have hn:=fun v W=>item101_any v W
 have hb:=fun a b W=>balitem_any a b W
 have hc:=fun (h:kCmd M.k M.st=true) W=>cmditem_right M.ck M.cc M.cq M.cy M.cx M.cr ha.cy ha.cx (hcc h) W
 have hat:=fun W (h:Below w.heap.size w W)=>attritem_any M.A M.m M.cap M.sq M.tg M.l W (ha.l.keep h) hm
 show Calls _ _ _ _ (ItemPost w (mparts M))
 unfold mparts
 obtain ⟨k,i,n,br,bb,tr,tb,st,ck,cc,cq,cy,cx,cr,A,m,cap,sq,tg,ver,l⟩:=M
 simp only [MsgT.v] at hof hfl hc hat hcc ⊢
 generalize kId k=f0 at*
 generalize kBal k=f1 at*
 generalize kSt k=f2 at*
 generalize kCmd k st=f3 at*
 generalize kAt k st=f4 at*
 generalize kVer k=f5 at*
 obtain ⟨RES,hRES⟩:∃l':List Tree,mpartsF f0 f1 f2 f3 f4 f5 ⟨k,i,n,br,bb,tr,tb,st,ck,cc,cq,cy,cx,cr,A,m,cap,sq,tg,ver,l⟩=l':=⟨_,rfl⟩
 rw [hRES]
 have HRES:=Lib.hid hRES
 have Hof:=Lib.hid hof
 have Hfl:=Lib.hid hfl
 unfold numV at hn
 unfold listV at hb hc hat
 have Hn:=Lib.hid hn
 have Hb:=Lib.hid hb
 have Hc:=Lib.hid hc
 have Ha:=Lib.hid hat
 clear hRES hof hfl hn hb hc hat hk hK
 have X:Blk ((w.alloc (.cells #[.int .i64 k,.int .i64 i,.int .i64 n,.int .i64 br,.int .i64 bb,.int .i64 tr,.int .i64 tb,.int .i64 st,.int .i64 ck,.int .i64 cc,.int .i64 cq,.string cy,.string cx,.int .i64 cr,.slice A m cap,.int .i64 sq,.int .i64 tg,.int .i64 ver] 50)).alloc (.cells #[.int .i64 0,.int .u64 0,.string ⟨#[]⟩,.slice none 0 0] 25)) w.heap.size 50 #[.int .i64 k,.int .i64 i,.int .i64 n,.int .i64 br,.int .i64 bb,.int .i64 tr,.int .i64 tb,.int .i64 st,.int .i64 ck,.int .i64 cc,.int .i64 cq,.string cy,.string cx,.int .i64 cr,.slice A m cap,.int .i64 sq,.int .i64 tg,.int .i64 ver]:=(Blk.new w _ _).alloc _
 have R:Blk ((w.alloc (.cells #[.int .i64 k,.int .i64 i,.int .i64 n,.int .i64 br,.int .i64 bb,.int .i64 tr,.int .i64 tb,.int .i64 st,.int .i64 ck,.int .i64 cc,.int .i64 cq,.string cy,.string cx,.int .i64 cr,.slice A m cap,.int .i64 sq,.int .i64 tg,.int .i64 ver] 50)).alloc (.cells #[.int .i64 0,.int .u64 0,.string ⟨#[]⟩,.slice none 0 0] 25)) (w.heap.size+1) 25 #[.int .i64 0,.int .u64 0,.string ⟨#[]⟩,.slice none 0 0]:=Blk.newAt (by simp)
 have kk:Below w.heap.size w ((w.alloc (.cells #[.int .i64 k,.int .i64 i,.int .i64 n,.int .i64 br,.int .i64 bb,.int .i64 tr,.int .i64 tb,.int .i64 st,.int .i64 ck,.int .i64 cc,.int .i64 cq,.string cy,.string cx,.int .i64 cr,.slice A m cap,.int .i64 sq,.int .i64 tg,.int .i64 ver] 50)).alloc (.cells #[.int .i64 0,.int .u64 0,.string ⟨#[]⟩,.slice none 0 0] 25)):=blw
 go_enter Tryd.func35,Tryd.ntmps35
 go_upto_region 2 with fail
 refine wp_noPan ?_
 generalize hQQ:Exit.then _ _=QQ
 have FIN:∀(W:World) (gh gx gs:Nat) (Ar:Option Addr) (dr:Nat),Below w.heap.size w W→Blk W w.heap.size 50 #[.int .i64 k,.int .i64 i,.int .i64 n,.int .i64 br,.int .i64 bb,.int .i64 tr,.int .i64 tb,.int .i64 st,.int .i64 ck,.int .i64 cc,.int .i64 cq,.string cy,.string cx,.int .i64 cr,.slice A m cap,.int .i64 sq,.int .i64 tg,.int .i64 ver]→Blk W (w.heap.size+1) 25 #[.int .i64 0,.int .u64 0,.string ⟨#[]⟩,.slice none 0 0]→Blk W gh 99 #[.bool f0,.bool f1,.bool f2,.bool f3,.bool f4,.bool f5]→Blk W gx 25 #[.int .i64 2,.int .u64 0,.string ByteArray.empty,.slice Ar 1 dr]→RowX W (w.heap.size+2) gx (.slice Ar 1 dr) 1 [ntree k] [numV (u64n k)]→w.heap.size+2≤gh→w.heap.size+2≤gx→gh≠gx→Value.ownBlock (.slice Ar 1 dr)≠some gh→w.heap.size+2≤W.heap.size→
   QQ .normal { tmps:=#[.agg #[.int .i64 k,.int .i64 i,.int .i64 n,.int .i64 br,.int .i64 bb,.int .i64 tr,.int .i64 tb,.int .i64 st,.int .i64 ck,.int .i64 cc,.int .i64 cq,.string cy,.string cx,.int .i64 cr,.slice A m cap,.int .i64 sq,.int .i64 tg,.int .i64 ver],.pointer (some ⟨w.heap.size,0,none⟩),.pointer (some ⟨w.heap.size+1,0,none⟩),.func (.func 52) #[] #[],.pointer (some ⟨gh,0,none⟩),.pointer (some ⟨gx,0,none⟩),.agg #[.int .i64 k,.int .i64 i,.int .i64 n,.int .i64 br,.int .i64 bb,.int .i64 tr,.int .i64 tb,.int .i64 st,.int .i64 ck,.int .i64 cc,.int .i64 cq,.string cy,.string cx,.int .i64 cr,.slice A m cap,.int .i64 sq,.int .i64 tg,.int .i64 ver],.agg #[.bool f0,.bool f1,.bool f2,.bool f3,.bool f4,.bool f5],.func (.func 52) #[] #[],.pointer (some ⟨w.heap.size,0,none⟩),.int .i64 k,.agg #[.int .i64 0,.int .u64 (u64n k:Int),.string ByteArray.empty,.slice none 0 0],.slice (some ⟨gs,0,none⟩) 1 1,.agg #[.int .i64 2,.int .u64 0,.string ByteArray.empty,.slice Ar 1 dr],undef,undef,undef,undef,undef,undef,undef,undef,undef,undef,undef,undef,undef,undef,undef,undef,undef,undef,undef,undef,undef,undef,undef,undef,undef,undef,undef,undef,undef,undef,undef,undef,undef,undef,undef,undef,undef,undef,undef,undef,undef,undef,undef,undef,undef,undef,undef,undef,undef,undef,undef,undef,undef,undef,undef,undef,undef,undef,undef,undef,undef,undef,undef,undef,undef,undef,undef,undef,undef,undef,undef,undef,undef],defers:=[] } W:=by
  intro W gh gx gs Ar dr kk X R Hh G P hgh hgx hne hnh hz
  have hS:St w W gh gx _ _ _ 1 _ _:=⟨kk,X,R,Hh,G,P,hz,hgh,hgx,hne,hnh⟩
  clear kk X R Hh G P hgh hgx hne hnh hz
  subst hQQ
  rename_i K hK
  rcases Hfl.out with ⟨rfl,rfl,rfl,rfl,rfl,rfl⟩|⟨rfl,rfl,rfl,rfl,rfl,rfl⟩|⟨rfl,rfl,rfl,rfl,rfl,rfl⟩|⟨rfl,rfl,rfl,rfl,rfl,rfl⟩|⟨rfl,rfl,rfl,rfl,rfl,rfl⟩|⟨rfl,rfl,rfl,rfl,rfl,rfl⟩|⟨rfl,rfl,rfl,rfl,rfl,rfl⟩
  ·exact hK _ _ (itemcase1 hcc hm ha HRES.out hS)
  ·exact hK _ _ (itemcase2 hcc hm ha HRES.out hS)
  ·exact hK _ _ (itemcase3 hcc hm ha HRES.out hS)
  ·exact hK _ _ (itemcase4 hcc hm ha HRES.out hS)
  ·exact hK _ _ (itemcase5 hcc hm ha HRES.out hS)
  ·exact hK _ _ (itemcase6 hcc hm ha HRES.out hS)
  ·exact hK _ _ (itemcase7 hcc hm ha HRES.out hS)
 replace X:=blk_drewp X
 replace R:=blk_drewp R
 replace kk:=kk.drew
 (refine wp_region_held_drew (S:=(SM w.heap.size #[.int .i64 k,.int .i64 i,.int .i64 n,.int .i64 br,.int .i64 bb,.int .i64 tr,.int .i64 tb,.int .i64 st,.int .i64 ck,.int .i64 cc,.int .i64 cq,.string cy,.string cx,.int .i64 cr,.slice A m cap,.int .i64 sq,.int .i64 tg,.int .i64 ver])) (by kernel_rfl) ?_ (fun hHeld=>?_);(· exact X.sm))
 revert hHeld X R kk
 generalize World.drew _=wd
 intro X R kk hHeld
 have hz:w.heap.size+2≤wd.heap.size:=R.lt
 (refine take_op (i:=0) (v:=?_) rfl (by kernel_rfl) (by kernel_rfl) (by kernel_rfl) (fun _ _ _ h=>h) (by rfl) ?_ hHeld ?_;rotate_left;(· (intro wS hSw;(try dsimp only at hSw);go_simp;first|done|with_reducible rfl));simp only [Act.put,sta_,scz_,scs_]);(refine take_op (i:=2) (v:=?_) rfl (by kernel_rfl) (by kernel_rfl) (by kernel_rfl) (fun _ _ _ h=>h) (by rfl) ?_ hHeld ?_;rotate_left;(· (intro wS hSw;(try dsimp only at hSw);go_simp;first|done|with_reducible rfl));simp only [Act.put,sta_,scz_,scs_]);(refine take_op (i:=3) (v:=?_) rfl (by kernel_rfl) (by kernel_rfl) (by kernel_rfl) (fun _ _ _ h=>h) (by rfl) ?_ hHeld ?_;rotate_left;(· (intro wS hSw;(try dsimp only at hSw);go_simp;first|done|with_reducible rfl));simp only [Act.put,sta_,scz_,scs_]);(refine take_op (i:=4) (v:=?_) rfl (by kernel_rfl) (by kernel_rfl) (by kernel_rfl) (fun _ _ _ h=>h) (by rfl) ?_ hHeld ?_;rotate_left;(· (intro wS hSw;(try dsimp only at hSw);go_simp;first|done|with_reducible rfl));simp only [Act.put,sta_,scz_,scs_])
 revert hHeld
 revert hz
 revert kk
 revert R
 revert X
 revert wd
 apply join
 ·intro hJ
  have HJ411:=Lib.hid hJ
  clear hJ
  apply join
  ·intro hJ
   have HJ410:=Lib.hid hJ
   clear hJ
   apply join
   ·intro hJ
    have HJ401:=Lib.hid hJ
    clear hJ
    apply join
    ·intro hJ
     have HJ311:=Lib.hid hJ
     clear hJ
     apply join
     ·intro hJ
      have HJ400:=Lib.hid hJ
      clear hJ
      apply join
      ·intro hJ
       have HJ310:=Lib.hid hJ
       clear hJ
       apply join
       ·intro hJ
        have HJ301:=Lib.hid hJ
        clear hJ
        apply join
        ·intro hJ
         have HJ211:=Lib.hid hJ
         clear hJ
         apply join
         ·intro hJ
          have HJ300:=Lib.hid hJ
          clear hJ
          apply join
          ·intro hJ
           have HJ210:=Lib.hid hJ
           clear hJ
           apply join
           ·intro hJ
            have HJ201:=Lib.hid hJ
            clear hJ
            apply join
            ·intro hJ
             have HJ111:=Lib.hid hJ
             clear hJ
             apply join
             ·intro hJ
              have HJ200:=Lib.hid hJ
              clear hJ
              apply join
              ·intro hJ
               have HJ110:=Lib.hid hJ
               clear hJ
               apply join
               ·intro hJ
                have HJ101:=Lib.hid hJ
                clear hJ
                apply join
                ·intro hJ
                 have HJ011:=Lib.hid hJ
                 clear hJ
                 apply join
                 ·intro hJ
                  have HJ100:=Lib.hid hJ
                  clear hJ
                  apply join
                  ·intro hJ
                   have HJ010:=Lib.hid hJ
                   clear hJ
                   apply join
                   ·intro hJ
                    have HJ001:=Lib.hid hJ
                    clear hJ
                    intro wd X R kk hz hHeld
                    refine three_op (i:=1) (j:=8) (k:=9) rfl rfl rfl (by kernel_rfl) (by rfl) (by rfl) (by rfl) ?_ ?_ ?_
                    ·(intro K hK;go_simp;(go_at_call 54;(with_reducible refine (Hof.out _ kk).mono ?_);rintro e w2 ⟨rfl,hb1⟩;replace X:=X.keep hb1;replace R:=R.keep hb1;replace kk:=below_call kk hb1 kk.size;replace hz:=Nat.le_trans hz hb1.size;clear hb1);refine hK.out _ _ (X.sm) (fun hHeld2=>?_);clear hK K hHeld;have hHeld:=hHeld2;clear hHeld2;(try simp only [Act.put,sta_,scz_,scs_]))
                     refine anyH_listed (L':=#[true,true,true,true,true,false,false,false,false,false,false,false]) (by kernel_rfl) ?_
                     revert hHeld
                     revert hz
                     revert kk
                     revert R
                     revert X
                     revert w2
                     exact HJ100.out
                    ·(intro K hK;go_simp;skip;refine hK.out _ _ ((X.alloc (.cells #[.bool false,.bool false,.bool false,.bool false,.bool false,.bool false] 99)).sm) (fun hHeld2=>?_);clear hK K hHeld;have hHeld:=hHeld2;clear hHeld2;(try simp only [Act.put,sta_,scz_,scs_]))
                     have Hh:=Blk.new wd 99 #[.bool false,.bool false,.bool false,.bool false,.bool false,.bool false]
                     have hgh:=hz
                     have hba:=below_one (w:=wd) (.cells #[.bool false,.bool false,.bool false,.bool false,.bool false,.bool false] 99)
                     replace X:=X.keep hba
                     replace R:=R.keep hba
                     replace kk:=below_call kk hba kk.size
                     replace hz:=Nat.le_trans hz hba.size
                     clear hba
                     revert hHeld Hh hgh X R kk hz
                     generalize World.alloc wd _=w3
                     generalize wd.heap.size=gh
                     intro hHeld Hh hgh X R kk hz
                     refine anyH_listed (L':=#[true,false,true,true,true,false,false,false,true,false,false,false]) (by kernel_rfl) ?_
                     revert hHeld
                     revert hz
                     revert kk
                     revert hgh
                     revert Hh
                     revert R
                     revert X
                     revert gh
                     revert w3
                     exact HJ010.out
                    ·(intro K hK;go_simp;skip;refine hK.out _ _ ((X.alloc (.cells #[.int .i64 0,.int .u64 0,.string ⟨#[]⟩,.slice none 0 0] 25)).sm) (fun hHeld2=>?_);clear hK K hHeld;have hHeld:=hHeld2;clear hHeld2;(try simp only [Act.put,sta_,scz_,scs_]))
                     have G:=Blk.new wd 25 #[.int .i64 0,.int .u64 0,.string ⟨#[]⟩,.slice none 0 0]
                     have hgx:=hz
                     have hba:=below_one (w:=wd) (.cells #[.int .i64 0,.int .u64 0,.string ⟨#[]⟩,.slice none 0 0] 25)
                     replace X:=X.keep hba
                     replace R:=R.keep hba
                     replace kk:=below_call kk hba kk.size
                     replace hz:=Nat.le_trans hz hba.size
                     clear hba
                     revert hHeld G hgx X R kk hz
                     generalize World.alloc wd _=w4
                     generalize wd.heap.size=gx
                     intro hHeld G hgx X R kk hz
                     refine anyH_listed (L':=#[true,false,true,true,true,false,false,false,false,true,false,false]) (by kernel_rfl) ?_
                     revert hHeld
                     revert hz
                     revert kk
                     revert hgx
                     revert G
                     revert R
                     revert X
                     revert gx
                     revert w4
                     exact HJ001.out
                   ·intro wl gx X R G hgx kk hz hHeld
                    refine two_op (i:=1) (j:=8) rfl rfl (by kernel_rfl) (by rfl) (by rfl) ?_ ?_
                    ·(intro K hK;go_simp;(go_at_call 54;(with_reducible refine (Hof.out _ kk).mono ?_);rintro e w5 ⟨rfl,hb4⟩;replace X:=X.keep hb4;replace R:=R.keep hb4;replace G:=G.keep hb4;replace kk:=below_call kk hb4 kk.size;replace hz:=Nat.le_trans hz hb4.size;clear hb4);refine hK.out _ _ (X.sm) (fun hHeld2=>?_);clear hK K hHeld;have hHeld:=hHeld2;clear hHeld2;(try simp only [Act.put,sta_,scz_,scs_]))
                     refine anyH_listed (L':=#[true,true,true,true,true,false,false,false,false,true,false,false]) (by kernel_rfl) ?_
                     revert hHeld
                     revert hz
                     revert kk
                     revert hgx
                     revert G
                     revert R
                     revert X
                     revert gx
                     revert w5
                     exact HJ101.out
                    ·(intro K hK;go_simp;skip;refine hK.out _ _ ((X.alloc (.cells #[.bool false,.bool false,.bool false,.bool false,.bool false,.bool false] 99)).sm) (fun hHeld2=>?_);clear hK K hHeld;have hHeld:=hHeld2;clear hHeld2;(try simp only [Act.put,sta_,scz_,scs_]))
                     have Hh:=Blk.new wl 99 #[.bool false,.bool false,.bool false,.bool false,.bool false,.bool false]
                     have hgh:=hz
                     have hne:wl.heap.size≠gx:=by have:=G.lt;omega
                     have hba:=below_one (w:=wl) (.cells #[.bool false,.bool false,.bool false,.bool false,.bool false,.bool false] 99)
                     replace X:=X.keep hba
                     replace R:=R.keep hba
                     replace G:=G.keep hba
                     replace kk:=below_call kk hba kk.size
                     replace hz:=Nat.le_trans hz hba.size
                     clear hba
                     revert hHeld Hh hgh hne X R G kk hz
                     generalize World.alloc wl _=w6
                     generalize wl.heap.size=gh
                     intro hHeld Hh hgh hne X R G kk hz
                     refine anyH_listed (L':=#[true,false,true,true,true,false,false,false,true,true,false,false]) (by kernel_rfl) ?_
                     revert hHeld
                     revert hz
                     revert kk
                     revert hne
                     revert hgx
                     revert G
                     revert hgh
                     revert Hh
                     revert R
                     revert X
                     revert gx
                     revert gh
                     revert w6
                     exact HJ011.out
                  ·intro wl gh X R Hh hgh kk hz hHeld
                   refine two_op (i:=1) (j:=9) rfl rfl (by kernel_rfl) (by rfl) (by rfl) ?_ ?_
                   ·(intro K hK;go_simp;(go_at_call 54;(with_reducible refine (Hof.out _ kk).mono ?_);rintro e w7 ⟨rfl,hb6⟩;replace X:=X.keep hb6;replace R:=R.keep hb6;replace Hh:=Hh.keep hb6;replace kk:=below_call kk hb6 kk.size;replace hz:=Nat.le_trans hz hb6.size;clear hb6);refine hK.out _ _ (X.sm) (fun hHeld2=>?_);clear hK K hHeld;have hHeld:=hHeld2;clear hHeld2;(try simp only [Act.put,sta_,scz_,scs_]))
                    refine anyH_listed (L':=#[true,true,true,true,true,false,false,false,true,false,false,false]) (by kernel_rfl) ?_
                    revert hHeld
                    revert hz
                    revert kk
                    revert hgh
                    revert Hh
                    revert R
                    revert X
                    revert gh
                    revert w7
                    exact HJ110.out
                   ·(intro K hK;go_simp;skip;refine hK.out _ _ ((X.alloc (.cells #[.int .i64 0,.int .u64 0,.string ⟨#[]⟩,.slice none 0 0] 25)).sm) (fun hHeld2=>?_);clear hK K hHeld;have hHeld:=hHeld2;clear hHeld2;(try simp only [Act.put,sta_,scz_,scs_]))
                    have G:=Blk.new wl 25 #[.int .i64 0,.int .u64 0,.string ⟨#[]⟩,.slice none 0 0]
                    have hgx:=hz
                    have hne:gh≠wl.heap.size:=by have:=Hh.lt;omega
                    have hba:=below_one (w:=wl) (.cells #[.int .i64 0,.int .u64 0,.string ⟨#[]⟩,.slice none 0 0] 25)
                    replace X:=X.keep hba
                    replace R:=R.keep hba
                    replace Hh:=Hh.keep hba
                    replace kk:=below_call kk hba kk.size
                    replace hz:=Nat.le_trans hz hba.size
                    clear hba
                    revert hHeld G hgx hne X R Hh kk hz
                    generalize World.alloc wl _=w8
                    generalize wl.heap.size=gx
                    intro hHeld G hgx hne X R Hh kk hz
                    refine anyH_listed (L':=#[true,false,true,true,true,false,false,false,true,true,false,false]) (by kernel_rfl) ?_
                    revert hHeld
                    revert hz
                    revert kk
                    revert hne
                    revert hgx
                    revert G
                    revert hgh
                    revert Hh
                    revert R
                    revert X
                    revert gx
                    revert gh
                    revert w8
                    exact HJ011.out
                 ·intro wl X R kk hz hHeld
                  refine three_op (i:=5) (j:=8) (k:=9) rfl rfl rfl (by kernel_rfl) (by rfl) (by rfl) (by rfl) ?_ ?_ ?_
                  ·(intro K hK;go_simp;(go_at_call 52;(with_reducible refine (Hn.out k _).mono ?_);rintro e w9 ⟨rfl,hb8⟩;replace X:=X.keep hb8;replace R:=R.keep hb8;replace kk:=below_call kk hb8 kk.size;replace hz:=Nat.le_trans hz hb8.size;clear hb8);refine hK.out _ _ (X.sm) (fun hHeld2=>?_);clear hK K hHeld;have hHeld:=hHeld2;clear hHeld2;(try simp only [Act.put,sta_,scz_,scs_]))
                   refine anyH_listed (L':=#[true,true,true,true,true,true,false,false,false,false,false,false]) (by kernel_rfl) ?_
                   revert hHeld
                   revert hz
                   revert kk
                   revert R
                   revert X
                   revert w9
                   exact HJ200.out
                  ·(intro K hK;go_simp;skip;refine hK.out _ _ ((X.alloc (.cells #[.bool false,.bool false,.bool false,.bool false,.bool false,.bool false] 99)).sm) (fun hHeld2=>?_);clear hK K hHeld;have hHeld:=hHeld2;clear hHeld2;(try simp only [Act.put,sta_,scz_,scs_]))
                   have Hh:=Blk.new wl 99 #[.bool false,.bool false,.bool false,.bool false,.bool false,.bool false]
                   have hgh:=hz
                   have hba:=below_one (w:=wl) (.cells #[.bool false,.bool false,.bool false,.bool false,.bool false,.bool false] 99)
                   replace X:=X.keep hba
                   replace R:=R.keep hba
                   replace kk:=below_call kk hba kk.size
                   replace hz:=Nat.le_trans hz hba.size
                   clear hba
                   revert hHeld Hh hgh X R kk hz
                   generalize World.alloc wl _=w10
                   generalize wl.heap.size=gh
                   intro hHeld Hh hgh X R kk hz
                   refine anyH_listed (L':=#[true,true,true,true,true,false,false,false,true,false,false,false]) (by kernel_rfl) ?_
                   revert hHeld
                   revert hz
                   revert kk
                   revert hgh
                   revert Hh
                   revert R
                   revert X
                   revert gh
                   revert w10
                   exact HJ110.out
                  ·(intro K hK;go_simp;skip;refine hK.out _ _ ((X.alloc (.cells #[.int .i64 0,.int .u64 0,.string ⟨#[]⟩,.slice none 0 0] 25)).sm) (fun hHeld2=>?_);clear hK K hHeld;have hHeld:=hHeld2;clear hHeld2;(try simp only [Act.put,sta_,scz_,scs_]))
                   have G:=Blk.new wl 25 #[.int .i64 0,.int .u64 0,.string ⟨#[]⟩,.slice none 0 0]
                   have hgx:=hz
                   have hba:=below_one (w:=wl) (.cells #[.int .i64 0,.int .u64 0,.string ⟨#[]⟩,.slice none 0 0] 25)
                   replace X:=X.keep hba
                   replace R:=R.keep hba
                   replace kk:=below_call kk hba kk.size
                   replace hz:=Nat.le_trans hz hba.size
                   clear hba
                   revert hHeld G hgx X R kk hz
                   generalize World.alloc wl _=w11
                   generalize wl.heap.size=gx
                   intro hHeld G hgx X R kk hz
                   refine anyH_listed (L':=#[true,true,true,true,true,false,false,false,false,true,false,false]) (by kernel_rfl) ?_
                   revert hHeld
                   revert hz
                   revert kk
                   revert hgx
                   revert G
                   revert R
                   revert X
                   revert gx
                   revert w11
                   exact HJ101.out
                ·intro wl gh gx X R Hh hgh G hgx hne kk hz hHeld
                 (refine call_op (i:=1) rfl (by kernel_rfl) (by rfl) (fun K hK=>?_);go_simp;(go_at_call 54;(with_reducible refine (Hof.out _ kk).mono ?_);rintro e w12 ⟨rfl,hb11⟩;replace X:=X.keep hb11;replace R:=R.keep hb11;replace Hh:=Hh.keep hb11;replace G:=G.keep hb11;replace kk:=below_call kk hb11 kk.size;replace hz:=Nat.le_trans hz hb11.size;clear hb11);refine hK.out _ _ (X.sm) (fun hHeld2=>?_);clear hK K hHeld;have hHeld:=hHeld2;clear hHeld2;(try simp only [Act.put,sta_,scz_,scs_]))
                 refine anyH_listed (L':=#[true,true,true,true,true,false,false,false,true,true,false,false]) (by kernel_rfl) ?_
                 revert hHeld
                 revert hz
                 revert kk
                 revert hne
                 revert hgx
                 revert G
                 revert hgh
                 revert Hh
                 revert R
                 revert X
                 revert gx
                 revert gh
                 revert w12
                 exact HJ111.out
               ·intro wl gx X R G hgx kk hz hHeld
                refine two_op (i:=5) (j:=8) rfl rfl (by kernel_rfl) (by rfl) (by rfl) ?_ ?_
                ·(intro K hK;go_simp;(go_at_call 52;(with_reducible refine (Hn.out k _).mono ?_);rintro e w13 ⟨rfl,hb12⟩;replace X:=X.keep hb12;replace R:=R.keep hb12;replace G:=G.keep hb12;replace kk:=below_call kk hb12 kk.size;replace hz:=Nat.le_trans hz hb12.size;clear hb12);refine hK.out _ _ (X.sm) (fun hHeld2=>?_);clear hK K hHeld;have hHeld:=hHeld2;clear hHeld2;(try simp only [Act.put,sta_,scz_,scs_]))
                 refine anyH_listed (L':=#[true,true,true,true,true,true,false,false,false,true,false,false]) (by kernel_rfl) ?_
                 revert hHeld
                 revert hz
                 revert kk
                 revert hgx
                 revert G
                 revert R
                 revert X
                 revert gx
                 revert w13
                 exact HJ201.out
                ·(intro K hK;go_simp;skip;refine hK.out _ _ ((X.alloc (.cells #[.bool false,.bool false,.bool false,.bool false,.bool false,.bool false] 99)).sm) (fun hHeld2=>?_);clear hK K hHeld;have hHeld:=hHeld2;clear hHeld2;(try simp only [Act.put,sta_,scz_,scs_]))
                 have Hh:=Blk.new wl 99 #[.bool false,.bool false,.bool false,.bool false,.bool false,.bool false]
                 have hgh:=hz
                 have hne:wl.heap.size≠gx:=by have:=G.lt;omega
                 have hba:=below_one (w:=wl) (.cells #[.bool false,.bool false,.bool false,.bool false,.bool false,.bool false] 99)
                 replace X:=X.keep hba
                 replace R:=R.keep hba
                 replace G:=G.keep hba
                 replace kk:=below_call kk hba kk.size
                 replace hz:=Nat.le_trans hz hba.size
                 clear hba
                 revert hHeld Hh hgh hne X R G kk hz
                 generalize World.alloc wl _=w14
                 generalize wl.heap.size=gh
                 intro hHeld Hh hgh hne X R G kk hz
                 refine anyH_listed (L':=#[true,true,true,true,true,false,false,false,true,true,false,false]) (by kernel_rfl) ?_
                 revert hHeld
                 revert hz
                 revert kk
                 revert hne
                 revert hgx
                 revert G
                 revert hgh
                 revert Hh
                 revert R
                 revert X
                 revert gx
                 revert gh
                 revert w14
                 exact HJ111.out
              ·intro wl gh X R Hh hgh kk hz hHeld
               refine two_op (i:=5) (j:=9) rfl rfl (by kernel_rfl) (by rfl) (by rfl) ?_ ?_
               ·(intro K hK;go_simp;(go_at_call 52;(with_reducible refine (Hn.out k _).mono ?_);rintro e w15 ⟨rfl,hb14⟩;replace X:=X.keep hb14;replace R:=R.keep hb14;replace Hh:=Hh.keep hb14;replace kk:=below_call kk hb14 kk.size;replace hz:=Nat.le_trans hz hb14.size;clear hb14);refine hK.out _ _ (X.sm) (fun hHeld2=>?_);clear hK K hHeld;have hHeld:=hHeld2;clear hHeld2;(try simp only [Act.put,sta_,scz_,scs_]))
                refine anyH_listed (L':=#[true,true,true,true,true,true,false,false,true,false,false,false]) (by kernel_rfl) ?_
                revert hHeld
                revert hz
                revert kk
                revert hgh
                revert Hh
                revert R
                revert X
                revert gh
                revert w15
                exact HJ210.out
               ·(intro K hK;go_simp;skip;refine hK.out _ _ ((X.alloc (.cells #[.int .i64 0,.int .u64 0,.string ⟨#[]⟩,.slice none 0 0] 25)).sm) (fun hHeld2=>?_);clear hK K hHeld;have hHeld:=hHeld2;clear hHeld2;(try simp only [Act.put,sta_,scz_,scs_]))
                have G:=Blk.new wl 25 #[.int .i64 0,.int .u64 0,.string ⟨#[]⟩,.slice none 0 0]
                have hgx:=hz
                have hne:gh≠wl.heap.size:=by have:=Hh.lt;omega
                have hba:=below_one (w:=wl) (.cells #[.int .i64 0,.int .u64 0,.string ⟨#[]⟩,.slice none 0 0] 25)
                replace X:=X.keep hba
                replace R:=R.keep hba
                replace Hh:=Hh.keep hba
                replace kk:=below_call kk hba kk.size
                replace hz:=Nat.le_trans hz hba.size
                clear hba
                revert hHeld G hgx hne X R Hh kk hz
                generalize World.alloc wl _=w16
                generalize wl.heap.size=gx
                intro hHeld G hgx hne X R Hh kk hz
                refine anyH_listed (L':=#[true,true,true,true,true,false,false,false,true,true,false,false]) (by kernel_rfl) ?_
                revert hHeld
                revert hz
                revert kk
                revert hne
                revert hgx
                revert G
                revert hgh
                revert Hh
                revert R
                revert X
                revert gx
                revert gh
                revert w16
                exact HJ111.out
             ·intro wl X R kk hz hHeld
              refine three_op (i:=6) (j:=8) (k:=9) rfl rfl rfl (by kernel_rfl) (by rfl) (by rfl) (by rfl) ?_ ?_ ?_
              ·(intro K hK;go_simp;skip;refine hK.out _ _ ((X.alloc (.cells #[.int .i64 0,.int .u64 (u64n k:Int),.string ByteArray.empty,.slice none 0 0] 25)).sm) (fun hHeld2=>?_);clear hK K hHeld;have hHeld:=hHeld2;clear hHeld2;(try simp only [Act.put,sta_,scz_,scs_]))
               have Sr:=src_items (us:=[numV (u64n k)]) (cs:=#[.int .i64 0,.int .u64 (u64n k:Int),.string ByteArray.empty,.slice none 0 0]) wl (by simp [flatL,numV,Value.cells]) (fun u hu=>by simp at hu;subst hu;exact four_num _ (u64n_lt _))
               have hba:=below_one (w:=wl) (.cells #[.int .i64 0,.int .u64 (u64n k:Int),.string ByteArray.empty,.slice none 0 0] 25)
               replace X:=X.keep hba
               replace R:=R.keep hba
               replace kk:=below_call kk hba kk.size
               replace hz:=Nat.le_trans hz hba.size
               clear hba
               revert hHeld Sr X R kk hz
               generalize World.alloc wl _=w17
               generalize wl.heap.size=gs
               intro hHeld Sr X R kk hz
               refine anyH_listed (L':=#[true,true,true,true,true,true,true,false,false,false,false,false]) (by kernel_rfl) ?_
               revert hHeld
               revert hz
               revert kk
               revert Sr
               revert R
               revert X
               revert gs
               revert w17
               exact HJ300.out
              ·(intro K hK;go_simp;skip;refine hK.out _ _ ((X.alloc (.cells #[.bool false,.bool false,.bool false,.bool false,.bool false,.bool false] 99)).sm) (fun hHeld2=>?_);clear hK K hHeld;have hHeld:=hHeld2;clear hHeld2;(try simp only [Act.put,sta_,scz_,scs_]))
               have Hh:=Blk.new wl 99 #[.bool false,.bool false,.bool false,.bool false,.bool false,.bool false]
               have hgh:=hz
               have hba:=below_one (w:=wl) (.cells #[.bool false,.bool false,.bool false,.bool false,.bool false,.bool false] 99)
               replace X:=X.keep hba
               replace R:=R.keep hba
               replace kk:=below_call kk hba kk.size
               replace hz:=Nat.le_trans hz hba.size
               clear hba
               revert hHeld Hh hgh X R kk hz
               generalize World.alloc wl _=w18
               generalize wl.heap.size=gh
               intro hHeld Hh hgh X R kk hz
               refine anyH_listed (L':=#[true,true,true,true,true,true,false,false,true,false,false,false]) (by kernel_rfl) ?_
               revert hHeld
               revert hz
               revert kk
               revert hgh
               revert Hh
               revert R
               revert X
               revert gh
               revert w18
               exact HJ210.out
              ·(intro K hK;go_simp;skip;refine hK.out _ _ ((X.alloc (.cells #[.int .i64 0,.int .u64 0,.string ⟨#[]⟩,.slice none 0 0] 25)).sm) (fun hHeld2=>?_);clear hK K hHeld;have hHeld:=hHeld2;clear hHeld2;(try simp only [Act.put,sta_,scz_,scs_]))
               have G:=Blk.new wl 25 #[.int .i64 0,.int .u64 0,.string ⟨#[]⟩,.slice none 0 0]
               have hgx:=hz
               have hba:=below_one (w:=wl) (.cells #[.int .i64 0,.int .u64 0,.string ⟨#[]⟩,.slice none 0 0] 25)
               replace X:=X.keep hba
               replace R:=R.keep hba
               replace kk:=below_call kk hba kk.size
               replace hz:=Nat.le_trans hz hba.size
               clear hba
               revert hHeld G hgx X R kk hz
               generalize World.alloc wl _=w19
               generalize wl.heap.size=gx
               intro hHeld G hgx X R kk hz
               refine anyH_listed (L':=#[true,true,true,true,true,true,false,false,false,true,false,false]) (by kernel_rfl) ?_
               revert hHeld
               revert hz
               revert kk
               revert hgx
               revert G
               revert R
               revert X
               revert gx
               revert w19
               exact HJ201.out
            ·intro wl gh gx X R Hh hgh G hgx hne kk hz hHeld
             (refine call_op (i:=5) rfl (by kernel_rfl) (by rfl) (fun K hK=>?_);go_simp;(go_at_call 52;(with_reducible refine (Hn.out k _).mono ?_);rintro e w20 ⟨rfl,hb19⟩;replace X:=X.keep hb19;replace R:=R.keep hb19;replace Hh:=Hh.keep hb19;replace G:=G.keep hb19;replace kk:=below_call kk hb19 kk.size;replace hz:=Nat.le_trans hz hb19.size;clear hb19);refine hK.out _ _ (X.sm) (fun hHeld2=>?_);clear hK K hHeld;have hHeld:=hHeld2;clear hHeld2;(try simp only [Act.put,sta_,scz_,scs_]))
             refine anyH_listed (L':=#[true,true,true,true,true,true,false,false,true,true,false,false]) (by kernel_rfl) ?_
             revert hHeld
             revert hz
             revert kk
             revert hne
             revert hgx
             revert G
             revert hgh
             revert Hh
             revert R
             revert X
             revert gx
             revert gh
             revert w20
             exact HJ211.out
           ·intro wl gx X R G hgx kk hz hHeld
            refine two_op (i:=6) (j:=8) rfl rfl (by kernel_rfl) (by rfl) (by rfl) ?_ ?_
            ·(intro K hK;go_simp;skip;refine hK.out _ _ ((X.alloc (.cells #[.int .i64 0,.int .u64 (u64n k:Int),.string ByteArray.empty,.slice none 0 0] 25)).sm) (fun hHeld2=>?_);clear hK K hHeld;have hHeld:=hHeld2;clear hHeld2;(try simp only [Act.put,sta_,scz_,scs_]))
             have Sr:=src_items (us:=[numV (u64n k)]) (cs:=#[.int .i64 0,.int .u64 (u64n k:Int),.string ByteArray.empty,.slice none 0 0]) wl (by simp [flatL,numV,Value.cells]) (fun u hu=>by simp at hu;subst hu;exact four_num _ (u64n_lt _))
             have hba:=below_one (w:=wl) (.cells #[.int .i64 0,.int .u64 (u64n k:Int),.string ByteArray.empty,.slice none 0 0] 25)
             replace X:=X.keep hba
             replace R:=R.keep hba
             replace G:=G.keep hba
             replace kk:=below_call kk hba kk.size
             replace hz:=Nat.le_trans hz hba.size
             clear hba
             revert hHeld Sr X R G kk hz
             generalize World.alloc wl _=w21
             generalize wl.heap.size=gs
             intro hHeld Sr X R G kk hz
             refine anyH_listed (L':=#[true,true,true,true,true,true,true,false,false,true,false,false]) (by kernel_rfl) ?_
             revert hHeld
             revert hz
             revert kk
             revert Sr
             revert hgx
             revert G
             revert R
             revert X
             revert gs
             revert gx
             revert w21
             exact HJ301.out
            ·(intro K hK;go_simp;skip;refine hK.out _ _ ((X.alloc (.cells #[.bool false,.bool false,.bool false,.bool false,.bool false,.bool false] 99)).sm) (fun hHeld2=>?_);clear hK K hHeld;have hHeld:=hHeld2;clear hHeld2;(try simp only [Act.put,sta_,scz_,scs_]))
             have Hh:=Blk.new wl 99 #[.bool false,.bool false,.bool false,.bool false,.bool false,.bool false]
             have hgh:=hz
             have hne:wl.heap.size≠gx:=by have:=G.lt;omega
             have hba:=below_one (w:=wl) (.cells #[.bool false,.bool false,.bool false,.bool false,.bool false,.bool false] 99)
             replace X:=X.keep hba
             replace R:=R.keep hba
             replace G:=G.keep hba
             replace kk:=below_call kk hba kk.size
             replace hz:=Nat.le_trans hz hba.size
             clear hba
             revert hHeld Hh hgh hne X R G kk hz
             generalize World.alloc wl _=w22
             generalize wl.heap.size=gh
             intro hHeld Hh hgh hne X R G kk hz
             refine anyH_listed (L':=#[true,true,true,true,true,true,false,false,true,true,false,false]) (by kernel_rfl) ?_
             revert hHeld
             revert hz
             revert kk
             revert hne
             revert hgx
             revert G
             revert hgh
             revert Hh
             revert R
             revert X
             revert gx
             revert gh
             revert w22
             exact HJ211.out
          ·intro wl gh X R Hh hgh kk hz hHeld
           refine two_op (i:=6) (j:=9) rfl rfl (by kernel_rfl) (by rfl) (by rfl) ?_ ?_
           ·(intro K hK;go_simp;skip;refine hK.out _ _ ((X.alloc (.cells #[.int .i64 0,.int .u64 (u64n k:Int),.string ByteArray.empty,.slice none 0 0] 25)).sm) (fun hHeld2=>?_);clear hK K hHeld;have hHeld:=hHeld2;clear hHeld2;(try simp only [Act.put,sta_,scz_,scs_]))
            have Sr:=src_items (us:=[numV (u64n k)]) (cs:=#[.int .i64 0,.int .u64 (u64n k:Int),.string ByteArray.empty,.slice none 0 0]) wl (by simp [flatL,numV,Value.cells]) (fun u hu=>by simp at hu;subst hu;exact four_num _ (u64n_lt _))
            have hba:=below_one (w:=wl) (.cells #[.int .i64 0,.int .u64 (u64n k:Int),.string ByteArray.empty,.slice none 0 0] 25)
            replace X:=X.keep hba
            replace R:=R.keep hba
            replace Hh:=Hh.keep hba
            replace kk:=below_call kk hba kk.size
            replace hz:=Nat.le_trans hz hba.size
            clear hba
            revert hHeld Sr X R Hh kk hz
            generalize World.alloc wl _=w23
            generalize wl.heap.size=gs
            intro hHeld Sr X R Hh kk hz
            refine anyH_listed (L':=#[true,true,true,true,true,true,true,false,true,false,false,false]) (by kernel_rfl) ?_
            revert hHeld
            revert hz
            revert kk
            revert Sr
            revert hgh
            revert Hh
            revert R
            revert X
            revert gs
            revert gh
            revert w23
            exact HJ310.out
           ·(intro K hK;go_simp;skip;refine hK.out _ _ ((X.alloc (.cells #[.int .i64 0,.int .u64 0,.string ⟨#[]⟩,.slice none 0 0] 25)).sm) (fun hHeld2=>?_);clear hK K hHeld;have hHeld:=hHeld2;clear hHeld2;(try simp only [Act.put,sta_,scz_,scs_]))
            have G:=Blk.new wl 25 #[.int .i64 0,.int .u64 0,.string ⟨#[]⟩,.slice none 0 0]
            have hgx:=hz
            have hne:gh≠wl.heap.size:=by have:=Hh.lt;omega
            have hba:=below_one (w:=wl) (.cells #[.int .i64 0,.int .u64 0,.string ⟨#[]⟩,.slice none 0 0] 25)
            replace X:=X.keep hba
            replace R:=R.keep hba
            replace Hh:=Hh.keep hba
            replace kk:=below_call kk hba kk.size
            replace hz:=Nat.le_trans hz hba.size
            clear hba
            revert hHeld G hgx hne X R Hh kk hz
            generalize World.alloc wl _=w24
            generalize wl.heap.size=gx
            intro hHeld G hgx hne X R Hh kk hz
            refine anyH_listed (L':=#[true,true,true,true,true,true,false,false,true,true,false,false]) (by kernel_rfl) ?_
            revert hHeld
            revert hz
            revert kk
            revert hne
            revert hgx
            revert G
            revert hgh
            revert Hh
            revert R
            revert X
            revert gx
            revert gh
            revert w24
            exact HJ211.out
         ·intro wl gs X R Sr kk hz hHeld
          refine three_op (i:=7) (j:=8) (k:=9) rfl rfl rfl (by kernel_rfl) (by rfl) (by rfl) (by rfl) ?_ ?_ ?_
          ·(intro K hK;go_simp;(go_at_call 55;(with_reducible refine (codeclist_src _ 1 1 _ _ Sr (by decide)).mono ?_);rintro e w25 ⟨A1,c1,rfl,Ow,hb24⟩;(try clear hgl);(try clear hhl);replace Ow:=own_lowr (base':=w.heap.size+2) Ow (by omega);replace X:=X.keep hb24;replace R:=R.keep hb24;replace kk:=below_call kk hb24 kk.size;replace hz:=Nat.le_trans hz hb24.size;clear hb24 Sr);refine hK.out _ _ (X.sm) (fun hHeld2=>?_);clear hK K hHeld;have hHeld:=hHeld2;clear hHeld2;(try simp only [Act.put,sta_,scz_,scs_]))
           refine anyH_listed (L':=#[true,true,true,true,true,true,true,true,false,false,false,false]) (by kernel_rfl) ?_
           revert hHeld
           revert hz
           revert kk
           revert Ow
           revert R
           revert X
           revert c1
           revert A1
           revert gs
           revert w25
           exact HJ400.out
          ·(intro K hK;go_simp;skip;refine hK.out _ _ ((X.alloc (.cells #[.bool false,.bool false,.bool false,.bool false,.bool false,.bool false] 99)).sm) (fun hHeld2=>?_);clear hK K hHeld;have hHeld:=hHeld2;clear hHeld2;(try simp only [Act.put,sta_,scz_,scs_]))
           have Hh:=Blk.new wl 99 #[.bool false,.bool false,.bool false,.bool false,.bool false,.bool false]
           have hgh:=hz
           have hba:=below_one (w:=wl) (.cells #[.bool false,.bool false,.bool false,.bool false,.bool false,.bool false] 99)
           replace X:=X.keep hba
           replace R:=R.keep hba
           replace Sr:=Sr.keep hba
           replace kk:=below_call kk hba kk.size
           replace hz:=Nat.le_trans hz hba.size
           clear hba
           revert hHeld Hh hgh X R Sr kk hz
           generalize World.alloc wl _=w26
           generalize wl.heap.size=gh
           intro hHeld Hh hgh X R Sr kk hz
           refine anyH_listed (L':=#[true,true,true,true,true,true,true,false,true,false,false,false]) (by kernel_rfl) ?_
           revert hHeld
           revert hz
           revert kk
           revert Sr
           revert hgh
           revert Hh
           revert R
           revert X
           revert gs
           revert gh
           revert w26
           exact HJ310.out
          ·(intro K hK;go_simp;skip;refine hK.out _ _ ((X.alloc (.cells #[.int .i64 0,.int .u64 0,.string ⟨#[]⟩,.slice none 0 0] 25)).sm) (fun hHeld2=>?_);clear hK K hHeld;have hHeld:=hHeld2;clear hHeld2;(try simp only [Act.put,sta_,scz_,scs_]))
           have G:=Blk.new wl 25 #[.int .i64 0,.int .u64 0,.string ⟨#[]⟩,.slice none 0 0]
           have hgx:=hz
           have hba:=below_one (w:=wl) (.cells #[.int .i64 0,.int .u64 0,.string ⟨#[]⟩,.slice none 0 0] 25)
           replace X:=X.keep hba
           replace R:=R.keep hba
           replace Sr:=Sr.keep hba
           replace kk:=below_call kk hba kk.size
           replace hz:=Nat.le_trans hz hba.size
           clear hba
           revert hHeld G hgx X R Sr kk hz
           generalize World.alloc wl _=w27
           generalize wl.heap.size=gx
           intro hHeld G hgx X R Sr kk hz
           refine anyH_listed (L':=#[true,true,true,true,true,true,true,false,false,true,false,false]) (by kernel_rfl) ?_
           revert hHeld
           revert hz
           revert kk
           revert Sr
           revert hgx
           revert G
           revert R
           revert X
           revert gs
           revert gx
           revert w27
           exact HJ301.out
        ·intro wl gh gx X R Hh hgh G hgx hne kk hz hHeld
         (refine call_op (i:=6) rfl (by kernel_rfl) (by rfl) (fun K hK=>?_);go_simp;skip;refine hK.out _ _ ((X.alloc (.cells #[.int .i64 0,.int .u64 (u64n k:Int),.string ByteArray.empty,.slice none 0 0] 25)).sm) (fun hHeld2=>?_);clear hK K hHeld;have hHeld:=hHeld2;clear hHeld2;(try simp only [Act.put,sta_,scz_,scs_]))
         have Sr:=src_items (us:=[numV (u64n k)]) (cs:=#[.int .i64 0,.int .u64 (u64n k:Int),.string ByteArray.empty,.slice none 0 0]) wl (by simp [flatL,numV,Value.cells]) (fun u hu=>by simp at hu;subst hu;exact four_num _ (u64n_lt _))
         have hba:=below_one (w:=wl) (.cells #[.int .i64 0,.int .u64 (u64n k:Int),.string ByteArray.empty,.slice none 0 0] 25)
         replace X:=X.keep hba
         replace R:=R.keep hba
         replace Hh:=Hh.keep hba
         replace G:=G.keep hba
         replace kk:=below_call kk hba kk.size
         replace hz:=Nat.le_trans hz hba.size
         clear hba
         revert hHeld Sr X R Hh G kk hz
         generalize World.alloc wl _=w28
         generalize wl.heap.size=gs
         intro hHeld Sr X R Hh G kk hz
         refine anyH_listed (L':=#[true,true,true,true,true,true,true,false,true,true,false,false]) (by kernel_rfl) ?_
         revert hHeld
         revert hz
         revert kk
         revert Sr
         revert hne
         revert hgx
         revert G
         revert hgh
         revert Hh
         revert R
         revert X
         revert gs
         revert gx
         revert gh
         revert w28
         exact HJ311.out
       ·intro wl gx gs X R G hgx Sr kk hz hHeld
        refine two_op (i:=7) (j:=8) rfl rfl (by kernel_rfl) (by rfl) (by rfl) ?_ ?_
        ·(intro K hK;go_simp;(go_at_call 55;(with_reducible refine (codeclist_src _ 1 1 _ _ Sr (by decide)).mono ?_);rintro e w29 ⟨A1,c1,rfl,Ow,hb28⟩;have hgl:=G.lt;have hnx:Value.ownBlock (.slice A1 1 c1)≠some gx:=(fun e=>by have:=(Ow.lt _ e).1;omega);(try clear hgl);(try clear hhl);replace Ow:=own_lowr (base':=w.heap.size+2) Ow (by omega);replace X:=X.keep hb28;replace R:=R.keep hb28;replace G:=G.keep hb28;replace kk:=below_call kk hb28 kk.size;replace hz:=Nat.le_trans hz hb28.size;clear hb28 Sr);refine hK.out _ _ (X.sm) (fun hHeld2=>?_);clear hK K hHeld;have hHeld:=hHeld2;clear hHeld2;(try simp only [Act.put,sta_,scz_,scs_]))
         refine anyH_listed (L':=#[true,true,true,true,true,true,true,true,false,true,false,false]) (by kernel_rfl) ?_
         revert hHeld
         revert hz
         revert kk
         revert hnx
         revert Ow
         revert hgx
         revert G
         revert R
         revert X
         revert c1
         revert A1
         revert gs
         revert gx
         revert w29
         exact HJ401.out
        ·(intro K hK;go_simp;skip;refine hK.out _ _ ((X.alloc (.cells #[.bool false,.bool false,.bool false,.bool false,.bool false,.bool false] 99)).sm) (fun hHeld2=>?_);clear hK K hHeld;have hHeld:=hHeld2;clear hHeld2;(try simp only [Act.put,sta_,scz_,scs_]))
         have Hh:=Blk.new wl 99 #[.bool false,.bool false,.bool false,.bool false,.bool false,.bool false]
         have hgh:=hz
         have hne:wl.heap.size≠gx:=by have:=G.lt;omega
         have hba:=below_one (w:=wl) (.cells #[.bool false,.bool false,.bool false,.bool false,.bool false,.bool false] 99)
         replace X:=X.keep hba
         replace R:=R.keep hba
         replace G:=G.keep hba
         replace Sr:=Sr.keep hba
         replace kk:=below_call kk hba kk.size
         replace hz:=Nat.le_trans hz hba.size
         clear hba
         revert hHeld Hh hgh hne X R G Sr kk hz
         generalize World.alloc wl _=w30
         generalize wl.heap.size=gh
         intro hHeld Hh hgh hne X R G Sr kk hz
         refine anyH_listed (L':=#[true,true,true,true,true,true,true,false,true,true,false,false]) (by kernel_rfl) ?_
         revert hHeld
         revert hz
         revert kk
         revert Sr
         revert hne
         revert hgx
         revert G
         revert hgh
         revert Hh
         revert R
         revert X
         revert gs
         revert gx
         revert gh
         revert w30
         exact HJ311.out
      ·intro wl gh gs X R Hh hgh Sr kk hz hHeld
       refine two_op (i:=7) (j:=9) rfl rfl (by kernel_rfl) (by rfl) (by rfl) ?_ ?_
       ·(intro K hK;go_simp;(go_at_call 55;(with_reducible refine (codeclist_src _ 1 1 _ _ Sr (by decide)).mono ?_);rintro e w31 ⟨A1,c1,rfl,Ow,hb30⟩;have hhl:=Hh.lt;have hnh:Value.ownBlock (.slice A1 1 c1)≠some gh:=(fun e=>by have:=(Ow.lt _ e).1;omega);(try clear hgl);(try clear hhl);replace Ow:=own_lowr (base':=w.heap.size+2) Ow (by omega);replace X:=X.keep hb30;replace R:=R.keep hb30;replace Hh:=Hh.keep hb30;replace kk:=below_call kk hb30 kk.size;replace hz:=Nat.le_trans hz hb30.size;clear hb30 Sr);refine hK.out _ _ (X.sm) (fun hHeld2=>?_);clear hK K hHeld;have hHeld:=hHeld2;clear hHeld2;(try simp only [Act.put,sta_,scz_,scs_]))
        refine anyH_listed (L':=#[true,true,true,true,true,true,true,true,true,false,false,false]) (by kernel_rfl) ?_
        revert hHeld
        revert hz
        revert kk
        revert hnh
        revert Ow
        revert hgh
        revert Hh
        revert R
        revert X
        revert c1
        revert A1
        revert gs
        revert gh
        revert w31
        exact HJ410.out
       ·(intro K hK;go_simp;skip;refine hK.out _ _ ((X.alloc (.cells #[.int .i64 0,.int .u64 0,.string ⟨#[]⟩,.slice none 0 0] 25)).sm) (fun hHeld2=>?_);clear hK K hHeld;have hHeld:=hHeld2;clear hHeld2;(try simp only [Act.put,sta_,scz_,scs_]))
        have G:=Blk.new wl 25 #[.int .i64 0,.int .u64 0,.string ⟨#[]⟩,.slice none 0 0]
        have hgx:=hz
        have hne:gh≠wl.heap.size:=by have:=Hh.lt;omega
        have hba:=below_one (w:=wl) (.cells #[.int .i64 0,.int .u64 0,.string ⟨#[]⟩,.slice none 0 0] 25)
        replace X:=X.keep hba
        replace R:=R.keep hba
        replace Hh:=Hh.keep hba
        replace Sr:=Sr.keep hba
        replace kk:=below_call kk hba kk.size
        replace hz:=Nat.le_trans hz hba.size
        clear hba
        revert hHeld G hgx hne X R Hh Sr kk hz
        generalize World.alloc wl _=w32
        generalize wl.heap.size=gx
        intro hHeld G hgx hne X R Hh Sr kk hz
        refine anyH_listed (L':=#[true,true,true,true,true,true,true,false,true,true,false,false]) (by kernel_rfl) ?_
        revert hHeld
        revert hz
        revert kk
        revert Sr
        revert hne
        revert hgx
        revert G
        revert hgh
        revert Hh
        revert R
        revert X
        revert gs
        revert gx
        revert gh
        revert w32
        exact HJ311.out
     ·intro wl gs A1 c1 X R Ow kk hz hHeld
      refine two_op (i:=8) (j:=9) rfl rfl (by kernel_rfl) (by rfl) (by rfl) ?_ ?_
      ·(intro K hK;go_simp;skip;refine hK.out _ _ ((X.alloc (.cells #[.bool false,.bool false,.bool false,.bool false,.bool false,.bool false] 99)).sm) (fun hHeld2=>?_);clear hK K hHeld;have hHeld:=hHeld2;clear hHeld2;(try simp only [Act.put,sta_,scz_,scs_]))
       have Hh:=Blk.new wl 99 #[.bool false,.bool false,.bool false,.bool false,.bool false,.bool false]
       have hgh:=hz
       have hnh:Value.ownBlock (.slice A1 1 c1)≠some wl.heap.size:=fun e=>absurd (Ow.lt _ e).2 (Nat.lt_irrefl _)
       have hba:=below_one (w:=wl) (.cells #[.bool false,.bool false,.bool false,.bool false,.bool false,.bool false] 99)
       replace X:=X.keep hba
       replace R:=R.keep hba
       replace Ow:=own_below Ow hba
       replace kk:=below_call kk hba kk.size
       replace hz:=Nat.le_trans hz hba.size
       clear hba
       revert hHeld Hh hgh hnh X R Ow kk hz
       generalize World.alloc wl _=w33
       generalize wl.heap.size=gh
       intro hHeld Hh hgh hnh X R Ow kk hz
       refine anyH_listed (L':=#[true,true,true,true,true,true,true,true,true,false,false,false]) (by kernel_rfl) ?_
       revert hHeld
       revert hz
       revert kk
       revert hnh
       revert Ow
       revert hgh
       revert Hh
       revert R
       revert X
       revert c1
       revert A1
       revert gs
       revert gh
       revert w33
       exact HJ410.out
      ·(intro K hK;go_simp;skip;refine hK.out _ _ ((X.alloc (.cells #[.int .i64 0,.int .u64 0,.string ⟨#[]⟩,.slice none 0 0] 25)).sm) (fun hHeld2=>?_);clear hK K hHeld;have hHeld:=hHeld2;clear hHeld2;(try simp only [Act.put,sta_,scz_,scs_]))
       have G:=Blk.new wl 25 #[.int .i64 0,.int .u64 0,.string ⟨#[]⟩,.slice none 0 0]
       have hgx:=hz
       have hnx:Value.ownBlock (.slice A1 1 c1)≠some wl.heap.size:=fun e=>absurd (Ow.lt _ e).2 (Nat.lt_irrefl _)
       have hba:=below_one (w:=wl) (.cells #[.int .i64 0,.int .u64 0,.string ⟨#[]⟩,.slice none 0 0] 25)
       replace X:=X.keep hba
       replace R:=R.keep hba
       replace Ow:=own_below Ow hba
       replace kk:=below_call kk hba kk.size
       replace hz:=Nat.le_trans hz hba.size
       clear hba
       revert hHeld G hgx hnx X R Ow kk hz
       generalize World.alloc wl _=w34
       generalize wl.heap.size=gx
       intro hHeld G hgx hnx X R Ow kk hz
       refine anyH_listed (L':=#[true,true,true,true,true,true,true,true,false,true,false,false]) (by kernel_rfl) ?_
       revert hHeld
       revert hz
       revert kk
       revert hnx
       revert Ow
       revert hgx
       revert G
       revert R
       revert X
       revert c1
       revert A1
       revert gs
       revert gx
       revert w34
       exact HJ401.out
    ·intro wl gh gx gs X R Hh hgh G hgx hne Sr kk hz hHeld
     (refine call_op (i:=7) rfl (by kernel_rfl) (by rfl) (fun K hK=>?_);go_simp;(go_at_call 55;(with_reducible refine (codeclist_src _ 1 1 _ _ Sr (by decide)).mono ?_);rintro e w35 ⟨A1,c1,rfl,Ow,hb34⟩;have hgl:=G.lt;have hnx:Value.ownBlock (.slice A1 1 c1)≠some gx:=(fun e=>by have:=(Ow.lt _ e).1;omega);have hhl:=Hh.lt;have hnh:Value.ownBlock (.slice A1 1 c1)≠some gh:=(fun e=>by have:=(Ow.lt _ e).1;omega);(try clear hgl);(try clear hhl);replace Ow:=own_lowr (base':=w.heap.size+2) Ow (by omega);replace X:=X.keep hb34;replace R:=R.keep hb34;replace Hh:=Hh.keep hb34;replace G:=G.keep hb34;replace kk:=below_call kk hb34 kk.size;replace hz:=Nat.le_trans hz hb34.size;clear hb34 Sr);refine hK.out _ _ (X.sm) (fun hHeld2=>?_);clear hK K hHeld;have hHeld:=hHeld2;clear hHeld2;(try simp only [Act.put,sta_,scz_,scs_]))
     refine anyH_listed (L':=#[true,true,true,true,true,true,true,true,true,true,false,false]) (by kernel_rfl) ?_
     revert hHeld
     revert hz
     revert kk
     revert hnx
     revert hnh
     revert Ow
     revert hne
     revert hgx
     revert G
     revert hgh
     revert Hh
     revert R
     revert X
     revert c1
     revert A1
     revert gs
     revert gx
     revert gh
     revert w35
     exact HJ411.out
   ·intro wl gx gs A1 c1 X R G hgx Ow hnx kk hz hHeld
    (refine call_op (i:=8) rfl (by kernel_rfl) (by rfl) (fun K hK=>?_);go_simp;skip;refine hK.out _ _ ((X.alloc (.cells #[.bool false,.bool false,.bool false,.bool false,.bool false,.bool false] 99)).sm) (fun hHeld2=>?_);clear hK K hHeld;have hHeld:=hHeld2;clear hHeld2;(try simp only [Act.put,sta_,scz_,scs_]))
    have Hh:=Blk.new wl 99 #[.bool false,.bool false,.bool false,.bool false,.bool false,.bool false]
    have hgh:=hz
    have hne:wl.heap.size≠gx:=by have:=G.lt;omega
    have hnh:Value.ownBlock (.slice A1 1 c1)≠some wl.heap.size:=fun e=>absurd (Ow.lt _ e).2 (Nat.lt_irrefl _)
    have hba:=below_one (w:=wl) (.cells #[.bool false,.bool false,.bool false,.bool false,.bool false,.bool false] 99)
    replace X:=X.keep hba
    replace R:=R.keep hba
    replace G:=G.keep hba
    replace Ow:=own_below Ow hba
    replace kk:=below_call kk hba kk.size
    replace hz:=Nat.le_trans hz hba.size
    clear hba
    revert hHeld Hh hgh hne hnh X R G Ow kk hz
    generalize World.alloc wl _=w36
    generalize wl.heap.size=gh
    intro hHeld Hh hgh hne hnh X R G Ow kk hz
    refine anyH_listed (L':=#[true,true,true,true,true,true,true,true,true,true,false,false]) (by kernel_rfl) ?_
    revert hHeld
    revert hz
    revert kk
    revert hnx
    revert hnh
    revert Ow
    revert hne
    revert hgx
    revert G
    revert hgh
    revert Hh
    revert R
    revert X
    revert c1
    revert A1
    revert gs
    revert gx
    revert gh
    revert w36
    exact HJ411.out
  ·intro wl gh gs A1 c1 X R Hh hgh Ow hnh kk hz hHeld
   (refine call_op (i:=9) rfl (by kernel_rfl) (by rfl) (fun K hK=>?_);go_simp;skip;refine hK.out _ _ ((X.alloc (.cells #[.int .i64 0,.int .u64 0,.string ⟨#[]⟩,.slice none 0 0] 25)).sm) (fun hHeld2=>?_);clear hK K hHeld;have hHeld:=hHeld2;clear hHeld2;(try simp only [Act.put,sta_,scz_,scs_]))
   have G:=Blk.new wl 25 #[.int .i64 0,.int .u64 0,.string ⟨#[]⟩,.slice none 0 0]
   have hgx:=hz
   have hne:gh≠wl.heap.size:=by have:=Hh.lt;omega
   have hnx:Value.ownBlock (.slice A1 1 c1)≠some wl.heap.size:=fun e=>absurd (Ow.lt _ e).2 (Nat.lt_irrefl _)
   have hba:=below_one (w:=wl) (.cells #[.int .i64 0,.int .u64 0,.string ⟨#[]⟩,.slice none 0 0] 25)
   replace X:=X.keep hba
   replace R:=R.keep hba
   replace Hh:=Hh.keep hba
   replace Ow:=own_below Ow hba
   replace kk:=below_call kk hba kk.size
   replace hz:=Nat.le_trans hz hba.size
   clear hba
   revert hHeld G hgx hne hnx X R Hh Ow kk hz
   generalize World.alloc wl _=w37
   generalize wl.heap.size=gx
   intro hHeld G hgx hne hnx X R Hh Ow kk hz
   refine anyH_listed (L':=#[true,true,true,true,true,true,true,true,true,true,false,false]) (by kernel_rfl) ?_
   revert hHeld
   revert hz
   revert kk
   revert hnx
   revert hnh
   revert Ow
   revert hne
   revert hgx
   revert G
   revert hgh
   revert Hh
   revert R
   revert X
   revert c1
   revert A1
   revert gs
   revert gx
   revert gh
   revert w37
   exact HJ411.out
 ·intro wl gh gx gs A1 c1 X R Hh hgh G hgx hne Ow hnh hnx kk hz hHeld
  have cH:=Hh.cell
  have fH:=Hh.frozen
  have H':Blk ((((((wl.setCell ⟨gh,0,none⟩ (.bool f0)).setCell ⟨gh,1,none⟩ (.bool f1)).setCell ⟨gh,2,none⟩ (.bool f2)).setCell ⟨gh,3,none⟩ (.bool f3)).setCell ⟨gh,4,none⟩ (.bool f4)).setCell ⟨gh,5,none⟩ (.bool f5)) gh 99 #[.bool f0,.bool f1,.bool f2,.bool f3,.bool f4,.bool f5]:=by
   have:=((((((Hh.set_ 0 (.bool f0)).set_ 1 (.bool f1)).set_ 2 (.bool f2)).set_ 3 (.bool f3)).set_ 4 (.bool f4)).set_ 5 (.bool f5))
   simpa using this
  have X':=((((((X.far (p:=⟨gh,0,none⟩) (by simp;omega) (.bool f0)).far (p:=⟨gh,1,none⟩) (by simp;omega) (.bool f1)).far (p:=⟨gh,2,none⟩) (by simp;omega) (.bool f2)).far (p:=⟨gh,3,none⟩) (by simp;omega) (.bool f3)).far (p:=⟨gh,4,none⟩) (by simp;omega) (.bool f4)).far (p:=⟨gh,5,none⟩) (by simp;omega) (.bool f5))
  have R':=((((((R.far (p:=⟨gh,0,none⟩) (by simp;omega) (.bool f0)).far (p:=⟨gh,1,none⟩) (by simp;omega) (.bool f1)).far (p:=⟨gh,2,none⟩) (by simp;omega) (.bool f2)).far (p:=⟨gh,3,none⟩) (by simp;omega) (.bool f3)).far (p:=⟨gh,4,none⟩) (by simp;omega) (.bool f4)).far (p:=⟨gh,5,none⟩) (by simp;omega) (.bool f5))
  have G':=((((((G.far (p:=⟨gh,0,none⟩) (Ne.symm hne) (.bool f0)).far (p:=⟨gh,1,none⟩) (Ne.symm hne) (.bool f1)).far (p:=⟨gh,2,none⟩) (Ne.symm hne) (.bool f2)).far (p:=⟨gh,3,none⟩) (Ne.symm hne) (.bool f3)).far (p:=⟨gh,4,none⟩) (Ne.symm hne) (.bool f4)).far (p:=⟨gh,5,none⟩) (Ne.symm hne) (.bool f5))
  have k':=((((((kk.setCell (p:=⟨gh,0,none⟩) (by simp;omega) (.bool f0)).setCell (p:=⟨gh,1,none⟩) (by simp;omega) (.bool f1)).setCell (p:=⟨gh,2,none⟩) (by simp;omega) (.bool f2)).setCell (p:=⟨gh,3,none⟩) (by simp;omega) (.bool f3)).setCell (p:=⟨gh,4,none⟩) (by simp;omega) (.bool f4)).setCell (p:=⟨gh,5,none⟩) (by simp;omega) (.bool f5))
  have O':=(ownsRow_setCell_ne (ownsRow_setCell_ne (ownsRow_setCell_ne (ownsRow_setCell_ne (ownsRow_setCell_ne (ownsRow_setCell_ne Ow (p:=⟨gh,0,none⟩) hnh (.bool f0)) (p:=⟨gh,1,none⟩) hnh (.bool f1)) (p:=⟨gh,2,none⟩) hnh (.bool f2)) (p:=⟨gh,3,none⟩) hnh (.bool f3)) (p:=⟨gh,4,none⟩) hnh (.bool f4)) (p:=⟨gh,5,none⟩) hnh (.bool f5))
  have z':w.heap.size+2≤((((((wl.setCell ⟨gh,0,none⟩ (.bool f0)).setCell ⟨gh,1,none⟩ (.bool f1)).setCell ⟨gh,2,none⟩ (.bool f2)).setCell ⟨gh,3,none⟩ (.bool f3)).setCell ⟨gh,4,none⟩ (.bool f4)).setCell ⟨gh,5,none⟩ (.bool f5)).heap.size:=by simpa using hz
  (refine call_op (i:=10) rfl (by kernel_rfl) (by rfl) (fun K hK=>?_);go_simp;skip;refine hK.out _ _ (Blk.sm X') (fun hHeld2=>?_);clear hK K hHeld;have hHeld:=hHeld2;clear hHeld2;(try simp only [Act.put,sta_,scz_,scs_]))
  clear cH fH Hh X R G kk hz Ow
  revert hHeld H' X' R' G' k' O' z'
  generalize ((((((wl.setCell ⟨gh,0,none⟩ (.bool f0)).setCell ⟨gh,1,none⟩ (.bool f1)).setCell ⟨gh,2,none⟩ (.bool f2)).setCell ⟨gh,3,none⟩ (.bool f3)).setCell ⟨gh,4,none⟩ (.bool f4)).setCell ⟨gh,5,none⟩ (.bool f5))=W9
  intro Hh X R G kk Ow hz hHeld
  have cG:=G.cell
  have fG:=G.frozen
  have G':Blk ((((W9.setCell ⟨gx,0,none⟩ (.int .i64 2)).setCell ⟨gx,1,none⟩ (.int .u64 0)).setCell ⟨gx,2,none⟩ (.string ByteArray.empty)).setCell ⟨gx,3,none⟩ (.slice A1 1 c1)) gx 25 #[.int .i64 2,.int .u64 0,.string ByteArray.empty,.slice A1 1 c1]:=by
   have:=G.set4 (.int .i64 2) (.int .u64 0) (.string ByteArray.empty) (.slice A1 1 c1)
   exact this
  (refine call_op (i:=11) rfl (by kernel_rfl) (by rfl) (fun K hK=>?_);go_simp;skip;refine hK.out _ _ (Blk.sm ((((X.far (p:=⟨gx,0,none⟩) (by simp;omega) (.int .i64 2)).far (p:=⟨gx,1,none⟩) (by simp;omega) (.int .u64 0)).far (p:=⟨gx,2,none⟩) (by simp;omega) (.string ByteArray.empty)).far (p:=⟨gx,3,none⟩) (by simp;omega) (.slice A1 1 c1))) (fun hHeld2=>?_);clear hK K hHeld;have hHeld:=hHeld2;clear hHeld2;(try simp only [Act.put,sta_,scz_,scs_]))
  (refine wpAnyH_done (by kernel_rfl) ?_ _)
  exact FIN _ _ _ _ _ _ ((((kk.setCell (p:=⟨gx,0,none⟩) (by simp;omega) (.int .i64 2)).setCell (p:=⟨gx,1,none⟩) (by simp;omega) (.int .u64 0)).setCell (p:=⟨gx,2,none⟩) (by simp;omega) (.string ByteArray.empty)).setCell (p:=⟨gx,3,none⟩) (by simp;omega) (.slice A1 1 c1)) ((((X.far (p:=⟨gx,0,none⟩) (by simp;omega) (.int .i64 2)).far (p:=⟨gx,1,none⟩) (by simp;omega) (.int .u64 0)).far (p:=⟨gx,2,none⟩) (by simp;omega) (.string ByteArray.empty)).far (p:=⟨gx,3,none⟩) (by simp;omega) (.slice A1 1 c1)) ((((R.far (p:=⟨gx,0,none⟩) (by simp;omega) (.int .i64 2)).far (p:=⟨gx,1,none⟩) (by simp;omega) (.int .u64 0)).far (p:=⟨gx,2,none⟩) (by simp;omega) (.string ByteArray.empty)).far (p:=⟨gx,3,none⟩) (by simp;omega) (.slice A1 1 c1)) ((((Hh.far (p:=⟨gx,0,none⟩) hne (.int .i64 2)).far (p:=⟨gx,1,none⟩) hne (.int .u64 0)).far (p:=⟨gx,2,none⟩) hne (.string ByteArray.empty)).far (p:=⟨gx,3,none⟩) hne (.slice A1 1 c1)) G' ⟨(ownsRow_setCell_ne (ownsRow_setCell_ne (ownsRow_setCell_ne (ownsRow_setCell_ne Ow (p:=⟨gx,0,none⟩) hnx (.int .i64 2)) (p:=⟨gx,1,none⟩) hnx (.int .u64 0)) (p:=⟨gx,2,none⟩) hnx (.string ByteArray.empty)) (p:=⟨gx,3,none⟩) hnx (.slice A1 1 c1)),rfl,rfl,hnx,fun i t u ht hu=>by match i with|0=>simp at ht hu;subst ht hu;exact hin_num _ _ (u64n_lt _); |i+1=>simp at ht⟩ hgh hgx hne hnh (by simpa using hz)
end Go.Proofs.YtlolnakeancenaaDoor
