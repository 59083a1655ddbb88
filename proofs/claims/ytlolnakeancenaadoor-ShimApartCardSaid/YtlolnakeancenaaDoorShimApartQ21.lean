/- The walk of msg.plain. -/
import Derived.Test.YtlolnakeancenaaDoorShimApartQ16
import Derived.Test.YtlolnakeancenaaDoorShimApartQ1
import Derived.WalkKit
import Derived.WalkSpells
import Derived.WalkLawsBesides
import Derived.Deep.RegionHeld3
import Derived.Deep.DrawnRows
import Derived.Deep.DeepCutAuto
import Derived.Deep.DeepFit
import Derived.Lib.Hide
import Derived.BigQuiet
import Derived.Deep.QuietTactic
namespace Go.Proofs.YtlolnakeancenaaDoor
open Go.RowKit
set_option linter.unusedVariables false
set_option linter.unusedSimpArgs false
set_option maxRecDepth 20000
attribute [local go_sem ↓] Go.wp_at_zero Go.wp_at_succ
attribute [local go_sem] World.cell?_alloc_some frozen_alloc_some
theorem join {J A:Prop} (h:J→A) (j:J):A:=h j
theorem anyH_listed {P:Program} {md:Region.Mode} {ops:Array Oper} {Q:Exit→Act→World→Prop} {S:World→Prop} {fuel:Nat} {L L':Array Bool} {a:Act} {w:World} (h:L=L') (hh:wpAnyH P md ops Q S fuel L' a w):wpAnyH P md ops Q S fuel L a w:=h ▸ hh
theorem blk_drewp {w:World} {g:Nat} {t:TypeId} {cs:Array Value} (h:Blk w g t cs):Blk w.drew g t cs:=h.keep (Below.refl _ _).drew
/-- A message with what its kind has alone. -/
def plainF (f0 f1 f2 f3 f4 f5:Bool) (a:MsgT):MsgT:=
 ⟨a.k,if f0 then a.i else 0,if f0 then a.n else 0,if f1 then a.br else 0,if f1 then a.bb else 0,if f2 then a.tr else 0,if f2 then a.tb else 0,if f2 then a.st else 0,
  if f3 then a.ck else 0,if f3 then a.cc else 0,if f3 then a.cq else 0,if f3 then a.cy else ⟨#[]⟩,if f3 then a.cx else ⟨#[]⟩,if f3 then a.cr else 0,
  if f4 then a.A else none,if f4 then a.m else 0,if f4 then a.cap else 0,if f4 then a.sq else 0,if f4 then a.tg else 0,if f5 then a.ver else 0,if f4 then a.l else []⟩
def plainM (a:MsgT):MsgT:=plainF (kId a.k) (kBal a.k) (kSt a.k) (kCmd a.k a.st) (kAt a.k a.st) (kVer a.k) a
/-- The seven sets of what a message may have. -/
def flags7 (f0 f1 f2 f3 f4 f5:Bool):Prop:=
 (f0=true∧f1=true∧f2=false∧f3=true∧f4=true∧f5=false)∨(f0=true∧f1=true∧f2=false∧f3=false∧f4=true∧f5=false)∨
 (f0=true∧f1=true∧f2=false∧f3=false∧f4=false∧f5=false)∨(f0=true∧f1=false∧f2=false∧f3=true∧f4=true∧f5=false)∨
 (f0=true∧f1=true∧f2=true∧f3=true∧f4=true∧f5=false)∨(f0=true∧f1=true∧f2=true∧f3=false∧f4=false∧f5=false)∨
 (f0=false∧f1=false∧f2=false∧f3=false∧f4=false∧f5=true)
theorem flags_of {k st:Int} (h:1≤k∧k<10):flags7 (kId k) (kBal k) (kSt k) (kCmd k st) (kAt k st) (kVer k):=by
 have hs:(st==0)=true∨(st==0)=false:=by cases (st==0) <;> simp
 have hk:k=1∨k=2∨k=3∨k=4∨k=5∨k=6∨k=7∨k=8∨k=9:=by omega
 unfold flags7 kCmd kAt
 rcases hk with rfl|rfl|rfl|rfl|rfl|rfl|rfl|rfl|rfl <;> rcases hs with hs|hs <;> rw [hs] <;> decide
structure PlS (w:World) (gh go:Nat) (MC HB cs:Array Value) (W:World):Prop where
 kk:Below w.heap.size w W
 X:Blk W w.heap.size 50 MC
 R:Blk W (w.heap.size+1) 50 #[.int .i64 0,.int .i64 0,.int .i64 0,.int .i64 0,.int .i64 0,.int .i64 0,.int .i64 0,.int .i64 0,.int .i64 0,.int .i64 0,.int .i64 0,.string ⟨#[]⟩,.string ⟨#[]⟩,.int .i64 0,.slice none 0 0,.int .i64 0,.int .i64 0,.int .i64 0]
 Hh:Blk W gh 99 HB
 O:Blk W go 50 cs
 h1:w.heap.size+2≤go
 h2:gh≠go
theorem PlS.keep {w W w1:World} {gh go:Nat} {MC HB cs:Array Value} (S:PlS w gh go MC HB cs W) (hb:Below W.heap.size W w1):PlS w gh go MC HB cs w1:=
 ⟨below_call S.kk hb S.kk.size,S.X.keep hb,S.R.keep hb,S.Hh.keep hb,S.O.keep hb,S.h1,S.h2⟩
theorem PlS.set {w W:World} {gh go:Nat} {MC HB cs:Array Value} (S:PlS w gh go MC HB cs W) (j:Nat) (v:Value):PlS w gh go MC HB (cs.setIfInBounds j v) (W.setCell ⟨go,j,none⟩ v):=
 ⟨S.kk.setCell (p:=⟨go,j,none⟩) (by have:=S.h1;simp;omega) v,S.X.far (p:=⟨go,j,none⟩) (by have:=S.h1;simp;omega) v,S.R.far (p:=⟨go,j,none⟩) (by have:=S.h1;simp;omega) v,S.Hh.far (p:=⟨go,j,none⟩) S.h2 v,S.O.set_ j v,S.h1,S.h2⟩
attribute [local go_sem ↓ high] loadVar_msg storeVar_msg msg_store_new
set_option maxHeartbeats 16000000 in
theorem plain10_any (M:MsgT) (w:World) (hk:1≤M.k∧M.k<10) (hK:KindsAt w):Calls Tryd.prog 43 #[M.v] w (Gives w (plainM M).v):=by
 have hof:=fun W (h:Below w.heap.size w W)=>of_any M W hk (hK.keep h)
 have hfl:=flags_of (st:=M.st) hk
 unfold plainM
 obtain ⟨k,i,n,br,bb,tr,tb,st,ck,cc,cq,cy,cx,cr,A,m,cap,sq,tg,ver,l⟩:=M
 simp only [MsgT.v] at hof hfl ⊢
 generalize kId k=f0 at*
 generalize kBal k=f1 at*
 generalize kSt k=f2 at*
 generalize kCmd k st=f3 at*
 generalize kAt k st=f4 at*
 generalize kVer k=f5 at*
 have Hof:=Lib.hid hof
 have Hfl:=Lib.hid hfl
 clear hof hfl hk hK
 obtain ⟨RES,hRES⟩:∃v:Value,(plainF f0 f1 f2 f3 f4 f5 ⟨k,i,n,br,bb,tr,tb,st,ck,cc,cq,cy,cx,cr,A,m,cap,sq,tg,ver,l⟩).v=v:=⟨_,rfl⟩
 have HRES:=Lib.hid hRES
 simp only [MsgT.v] at hRES
 rw [hRES]
 clear hRES
 have X:Blk ((w.alloc (.cells #[.int .i64 k,.int .i64 i,.int .i64 n,.int .i64 br,.int .i64 bb,.int .i64 tr,.int .i64 tb,.int .i64 st,.int .i64 ck,.int .i64 cc,.int .i64 cq,.string cy,.string cx,.int .i64 cr,.slice A m cap,.int .i64 sq,.int .i64 tg,.int .i64 ver] 50)).alloc (.cells #[.int .i64 0,.int .i64 0,.int .i64 0,.int .i64 0,.int .i64 0,.int .i64 0,.int .i64 0,.int .i64 0,.int .i64 0,.int .i64 0,.int .i64 0,.string ⟨#[]⟩,.string ⟨#[]⟩,.int .i64 0,.slice none 0 0,.int .i64 0,.int .i64 0,.int .i64 0] 50)) w.heap.size 50 #[.int .i64 k,.int .i64 i,.int .i64 n,.int .i64 br,.int .i64 bb,.int .i64 tr,.int .i64 tb,.int .i64 st,.int .i64 ck,.int .i64 cc,.int .i64 cq,.string cy,.string cx,.int .i64 cr,.slice A m cap,.int .i64 sq,.int .i64 tg,.int .i64 ver]:=(Blk.new w _ _).alloc _
 have R:Blk ((w.alloc (.cells #[.int .i64 k,.int .i64 i,.int .i64 n,.int .i64 br,.int .i64 bb,.int .i64 tr,.int .i64 tb,.int .i64 st,.int .i64 ck,.int .i64 cc,.int .i64 cq,.string cy,.string cx,.int .i64 cr,.slice A m cap,.int .i64 sq,.int .i64 tg,.int .i64 ver] 50)).alloc (.cells #[.int .i64 0,.int .i64 0,.int .i64 0,.int .i64 0,.int .i64 0,.int .i64 0,.int .i64 0,.int .i64 0,.int .i64 0,.int .i64 0,.int .i64 0,.string ⟨#[]⟩,.string ⟨#[]⟩,.int .i64 0,.slice none 0 0,.int .i64 0,.int .i64 0,.int .i64 0] 50)) (w.heap.size+1) 50 #[.int .i64 0,.int .i64 0,.int .i64 0,.int .i64 0,.int .i64 0,.int .i64 0,.int .i64 0,.int .i64 0,.int .i64 0,.int .i64 0,.int .i64 0,.string ⟨#[]⟩,.string ⟨#[]⟩,.int .i64 0,.slice none 0 0,.int .i64 0,.int .i64 0,.int .i64 0]:=Blk.newAt (by simp)
 have kk:Below w.heap.size w ((w.alloc (.cells #[.int .i64 k,.int .i64 i,.int .i64 n,.int .i64 br,.int .i64 bb,.int .i64 tr,.int .i64 tb,.int .i64 st,.int .i64 ck,.int .i64 cc,.int .i64 cq,.string cy,.string cx,.int .i64 cr,.slice A m cap,.int .i64 sq,.int .i64 tg,.int .i64 ver] 50)).alloc (.cells #[.int .i64 0,.int .i64 0,.int .i64 0,.int .i64 0,.int .i64 0,.int .i64 0,.int .i64 0,.int .i64 0,.int .i64 0,.int .i64 0,.int .i64 0,.string ⟨#[]⟩,.string ⟨#[]⟩,.int .i64 0,.slice none 0 0,.int .i64 0,.int .i64 0,.int .i64 0] 50)):=blw
 go_enter Tryd.func43,Tryd.ntmps43
 go_upto_region 1 with fail
 refine wp_noPan ?_
 generalize hQQ:Exit.then _ _=QQ
 have FIN:∀(W:World) (gh go:Nat),Below w.heap.size w W→Blk W w.heap.size 50 #[.int .i64 k,.int .i64 i,.int .i64 n,.int .i64 br,.int .i64 bb,.int .i64 tr,.int .i64 tb,.int .i64 st,.int .i64 ck,.int .i64 cc,.int .i64 cq,.string cy,.string cx,.int .i64 cr,.slice A m cap,.int .i64 sq,.int .i64 tg,.int .i64 ver]→Blk W (w.heap.size+1) 50 #[.int .i64 0,.int .i64 0,.int .i64 0,.int .i64 0,.int .i64 0,.int .i64 0,.int .i64 0,.int .i64 0,.int .i64 0,.int .i64 0,.int .i64 0,.string ⟨#[]⟩,.string ⟨#[]⟩,.int .i64 0,.slice none 0 0,.int .i64 0,.int .i64 0,.int .i64 0]→Blk W gh 99 #[.bool f0,.bool f1,.bool f2,.bool f3,.bool f4,.bool f5]→Blk W go 50 #[.int .i64 k,.int .i64 0,.int .i64 0,.int .i64 0,.int .i64 0,.int .i64 0,.int .i64 0,.int .i64 0,.int .i64 0,.int .i64 0,.int .i64 0,.string ⟨#[]⟩,.string ⟨#[]⟩,.int .i64 0,.slice none 0 0,.int .i64 0,.int .i64 0,.int .i64 0]→w.heap.size+2≤gh→w.heap.size+2≤go→gh≠go→
   QQ .normal { tmps:=#[.agg #[.int .i64 k,.int .i64 i,.int .i64 n,.int .i64 br,.int .i64 bb,.int .i64 tr,.int .i64 tb,.int .i64 st,.int .i64 ck,.int .i64 cc,.int .i64 cq,.string cy,.string cx,.int .i64 cr,.slice A m cap,.int .i64 sq,.int .i64 tg,.int .i64 ver],.pointer (some ⟨w.heap.size,0,none⟩),.pointer (some ⟨w.heap.size+1,0,none⟩),.pointer (some ⟨gh,0,none⟩),.pointer (some ⟨go,0,none⟩),.agg #[.int .i64 k,.int .i64 i,.int .i64 n,.int .i64 br,.int .i64 bb,.int .i64 tr,.int .i64 tb,.int .i64 st,.int .i64 ck,.int .i64 cc,.int .i64 cq,.string cy,.string cx,.int .i64 cr,.slice A m cap,.int .i64 sq,.int .i64 tg,.int .i64 ver],.agg #[.bool f0,.bool f1,.bool f2,.bool f3,.bool f4,.bool f5],.pointer (some ⟨w.heap.size,0,none⟩),.int .i64 k,.agg #[.int .i64 k,.int .i64 0,.int .i64 0,.int .i64 0,.int .i64 0,.int .i64 0,.int .i64 0,.int .i64 0,.int .i64 0,.int .i64 0,.int .i64 0,.string ⟨#[]⟩,.string ⟨#[]⟩,.int .i64 0,.slice none 0 0,.int .i64 0,.int .i64 0,.int .i64 0],undef,undef,undef,undef,undef,undef,undef,undef,undef,undef,undef,undef,undef,undef,undef,undef,undef,undef,undef,undef,undef,undef,undef,undef,undef,undef,undef,undef,undef,undef,undef,undef,undef,undef],defers:=[] } W:=by
  intro W gh go kk X R Hh O hgh hgo hne
  subst hQQ
  have S:PlS w gh go _ _ _ W:=⟨kk,X,R,Hh,O,hgo,hne⟩
  have ch:=Hh.cell
  have cx':=X.cell
  have co:=O.cell
  have fo:=O.frozen
  clear kk X R Hh O hgh hgo hne
  rcases Hfl.out with ⟨rfl,rfl,rfl,rfl,rfl,rfl⟩|⟨rfl,rfl,rfl,rfl,rfl,rfl⟩|⟨rfl,rfl,rfl,rfl,rfl,rfl⟩|⟨rfl,rfl,rfl,rfl,rfl,rfl⟩|⟨rfl,rfl,rfl,rfl,rfl,rfl⟩|⟨rfl,rfl,rfl,rfl,rfl,rfl⟩|⟨rfl,rfl,rfl,rfl,rfl,rfl⟩
  ·go_upto_region 4 with fail
   have S':PlS w gh go #[.int .i64 k,.int .i64 i,.int .i64 n,.int .i64 br,.int .i64 bb,.int .i64 tr,.int .i64 tb,.int .i64 st,.int .i64 ck,.int .i64 cc,.int .i64 cq,.string cy,.string cx,.int .i64 cr,.slice A m cap,.int .i64 sq,.int .i64 tg,.int .i64 ver] #[.bool true,.bool true,.bool false,.bool true,.bool true,.bool false] #[.int .i64 k,.int .i64 i,.int .i64 n,.int .i64 0,.int .i64 0,.int .i64 0,.int .i64 0,.int .i64 0,.int .i64 0,.int .i64 0,.int .i64 0,.string ⟨#[]⟩,.string ⟨#[]⟩,.int .i64 0,.slice none 0 0,.int .i64 0,.int .i64 0,.int .i64 0] _:=((S.set 1 (.int .i64 i)).set 2 (.int .i64 n))
   clear S ch cx' co fo
   revert S'
   generalize World.setCell _ _ _=W
   intro S
   have ch:=S.Hh.cell
   have cx':=S.X.cell
   have co:=S.O.cell
   have fo:=S.O.frozen
   go_upto_region 6 with fail
   have S':PlS w gh go #[.int .i64 k,.int .i64 i,.int .i64 n,.int .i64 br,.int .i64 bb,.int .i64 tr,.int .i64 tb,.int .i64 st,.int .i64 ck,.int .i64 cc,.int .i64 cq,.string cy,.string cx,.int .i64 cr,.slice A m cap,.int .i64 sq,.int .i64 tg,.int .i64 ver] #[.bool true,.bool true,.bool false,.bool true,.bool true,.bool false] #[.int .i64 k,.int .i64 i,.int .i64 n,.int .i64 br,.int .i64 bb,.int .i64 0,.int .i64 0,.int .i64 0,.int .i64 0,.int .i64 0,.int .i64 0,.string ⟨#[]⟩,.string ⟨#[]⟩,.int .i64 0,.slice none 0 0,.int .i64 0,.int .i64 0,.int .i64 0] _:=((S.set 3 (.int .i64 br)).set 4 (.int .i64 bb))
   clear S ch cx' co fo
   revert S'
   generalize World.setCell _ _ _=W
   intro S
   have ch:=S.Hh.cell
   have cx':=S.X.cell
   have co:=S.O.cell
   have fo:=S.O.frozen
   go_upto_region 10 with fail
   have S':PlS w gh go #[.int .i64 k,.int .i64 i,.int .i64 n,.int .i64 br,.int .i64 bb,.int .i64 tr,.int .i64 tb,.int .i64 st,.int .i64 ck,.int .i64 cc,.int .i64 cq,.string cy,.string cx,.int .i64 cr,.slice A m cap,.int .i64 sq,.int .i64 tg,.int .i64 ver] #[.bool true,.bool true,.bool false,.bool true,.bool true,.bool false] #[.int .i64 k,.int .i64 i,.int .i64 n,.int .i64 br,.int .i64 bb,.int .i64 0,.int .i64 0,.int .i64 0,.int .i64 ck,.int .i64 cc,.int .i64 cq,.string cy,.string cx,.int .i64 cr,.slice none 0 0,.int .i64 0,.int .i64 0,.int .i64 0] _:=((((((S.set 8 (.int .i64 ck)).set 9 (.int .i64 cc)).set 10 (.int .i64 cq)).set 11 (.string cy)).set 12 (.string cx)).set 13 (.int .i64 cr))
   clear S ch cx' co fo
   revert S'
   generalize World.setCell _ _ _=W
   intro S
   have ch:=S.Hh.cell
   have cx':=S.X.cell
   have co:=S.O.cell
   have fo:=S.O.frozen
   go_upto_region 12 with fail
   have S':PlS w gh go #[.int .i64 k,.int .i64 i,.int .i64 n,.int .i64 br,.int .i64 bb,.int .i64 tr,.int .i64 tb,.int .i64 st,.int .i64 ck,.int .i64 cc,.int .i64 cq,.string cy,.string cx,.int .i64 cr,.slice A m cap,.int .i64 sq,.int .i64 tg,.int .i64 ver] #[.bool true,.bool true,.bool false,.bool true,.bool true,.bool false] #[.int .i64 k,.int .i64 i,.int .i64 n,.int .i64 br,.int .i64 bb,.int .i64 0,.int .i64 0,.int .i64 0,.int .i64 ck,.int .i64 cc,.int .i64 cq,.string cy,.string cx,.int .i64 cr,.slice A m cap,.int .i64 sq,.int .i64 tg,.int .i64 0] _:=(((S.set 14 (.slice A m cap)).set 15 (.int .i64 sq)).set 16 (.int .i64 tg))
   clear S ch cx' co fo
   revert S'
   generalize World.setCell _ _ _=W
   intro S
   have ch:=S.Hh.cell
   have cx':=S.X.cell
   have co:=S.O.cell
   have fo:=S.O.frozen
   go_upto_region 14 with fail
   clear ch cx' co fo
   have l1:=msg_load S.O
   have l2:=msg_store S.R rfl
   go_wp2_with fail
   refine bodyPost_ret (results_msg1 rfl rfl (S.R.msgSet rfl)) rfl ?_
   exact ⟨by rw [←HRES.out];rfl,below_msgSet S.kk (Nat.le_succ _) _⟩
  ·go_upto_region 4 with fail
   have S':PlS w gh go #[.int .i64 k,.int .i64 i,.int .i64 n,.int .i64 br,.int .i64 bb,.int .i64 tr,.int .i64 tb,.int .i64 st,.int .i64 ck,.int .i64 cc,.int .i64 cq,.string cy,.string cx,.int .i64 cr,.slice A m cap,.int .i64 sq,.int .i64 tg,.int .i64 ver] #[.bool true,.bool true,.bool false,.bool false,.bool true,.bool false] #[.int .i64 k,.int .i64 i,.int .i64 n,.int .i64 0,.int .i64 0,.int .i64 0,.int .i64 0,.int .i64 0,.int .i64 0,.int .i64 0,.int .i64 0,.string ⟨#[]⟩,.string ⟨#[]⟩,.int .i64 0,.slice none 0 0,.int .i64 0,.int .i64 0,.int .i64 0] _:=((S.set 1 (.int .i64 i)).set 2 (.int .i64 n))
   clear S ch cx' co fo
   revert S'
   generalize World.setCell _ _ _=W
   intro S
   have ch:=S.Hh.cell
   have cx':=S.X.cell
   have co:=S.O.cell
   have fo:=S.O.frozen
   go_upto_region 6 with fail
   have S':PlS w gh go #[.int .i64 k,.int .i64 i,.int .i64 n,.int .i64 br,.int .i64 bb,.int .i64 tr,.int .i64 tb,.int .i64 st,.int .i64 ck,.int .i64 cc,.int .i64 cq,.string cy,.string cx,.int .i64 cr,.slice A m cap,.int .i64 sq,.int .i64 tg,.int .i64 ver] #[.bool true,.bool true,.bool false,.bool false,.bool true,.bool false] #[.int .i64 k,.int .i64 i,.int .i64 n,.int .i64 br,.int .i64 bb,.int .i64 0,.int .i64 0,.int .i64 0,.int .i64 0,.int .i64 0,.int .i64 0,.string ⟨#[]⟩,.string ⟨#[]⟩,.int .i64 0,.slice none 0 0,.int .i64 0,.int .i64 0,.int .i64 0] _:=((S.set 3 (.int .i64 br)).set 4 (.int .i64 bb))
   clear S ch cx' co fo
   revert S'
   generalize World.setCell _ _ _=W
   intro S
   have ch:=S.Hh.cell
   have cx':=S.X.cell
   have co:=S.O.cell
   have fo:=S.O.frozen
   go_upto_region 12 with fail
   have S':PlS w gh go #[.int .i64 k,.int .i64 i,.int .i64 n,.int .i64 br,.int .i64 bb,.int .i64 tr,.int .i64 tb,.int .i64 st,.int .i64 ck,.int .i64 cc,.int .i64 cq,.string cy,.string cx,.int .i64 cr,.slice A m cap,.int .i64 sq,.int .i64 tg,.int .i64 ver] #[.bool true,.bool true,.bool false,.bool false,.bool true,.bool false] #[.int .i64 k,.int .i64 i,.int .i64 n,.int .i64 br,.int .i64 bb,.int .i64 0,.int .i64 0,.int .i64 0,.int .i64 0,.int .i64 0,.int .i64 0,.string ⟨#[]⟩,.string ⟨#[]⟩,.int .i64 0,.slice A m cap,.int .i64 sq,.int .i64 tg,.int .i64 0] _:=(((S.set 14 (.slice A m cap)).set 15 (.int .i64 sq)).set 16 (.int .i64 tg))
   clear S ch cx' co fo
   revert S'
   generalize World.setCell _ _ _=W
   intro S
   have ch:=S.Hh.cell
   have cx':=S.X.cell
   have co:=S.O.cell
   have fo:=S.O.frozen
   go_upto_region 14 with fail
   clear ch cx' co fo
   have l1:=msg_load S.O
   have l2:=msg_store S.R rfl
   go_wp2_with fail
   refine bodyPost_ret (results_msg1 rfl rfl (S.R.msgSet rfl)) rfl ?_
   exact ⟨by rw [←HRES.out];rfl,below_msgSet S.kk (Nat.le_succ _) _⟩
  ·go_upto_region 4 with fail
   have S':PlS w gh go #[.int .i64 k,.int .i64 i,.int .i64 n,.int .i64 br,.int .i64 bb,.int .i64 tr,.int .i64 tb,.int .i64 st,.int .i64 ck,.int .i64 cc,.int .i64 cq,.string cy,.string cx,.int .i64 cr,.slice A m cap,.int .i64 sq,.int .i64 tg,.int .i64 ver] #[.bool true,.bool true,.bool false,.bool false,.bool false,.bool false] #[.int .i64 k,.int .i64 i,.int .i64 n,.int .i64 0,.int .i64 0,.int .i64 0,.int .i64 0,.int .i64 0,.int .i64 0,.int .i64 0,.int .i64 0,.string ⟨#[]⟩,.string ⟨#[]⟩,.int .i64 0,.slice none 0 0,.int .i64 0,.int .i64 0,.int .i64 0] _:=((S.set 1 (.int .i64 i)).set 2 (.int .i64 n))
   clear S ch cx' co fo
   revert S'
   generalize World.setCell _ _ _=W
   intro S
   have ch:=S.Hh.cell
   have cx':=S.X.cell
   have co:=S.O.cell
   have fo:=S.O.frozen
   go_upto_region 6 with fail
   have S':PlS w gh go #[.int .i64 k,.int .i64 i,.int .i64 n,.int .i64 br,.int .i64 bb,.int .i64 tr,.int .i64 tb,.int .i64 st,.int .i64 ck,.int .i64 cc,.int .i64 cq,.string cy,.string cx,.int .i64 cr,.slice A m cap,.int .i64 sq,.int .i64 tg,.int .i64 ver] #[.bool true,.bool true,.bool false,.bool false,.bool false,.bool false] #[.int .i64 k,.int .i64 i,.int .i64 n,.int .i64 br,.int .i64 bb,.int .i64 0,.int .i64 0,.int .i64 0,.int .i64 0,.int .i64 0,.int .i64 0,.string ⟨#[]⟩,.string ⟨#[]⟩,.int .i64 0,.slice none 0 0,.int .i64 0,.int .i64 0,.int .i64 0] _:=((S.set 3 (.int .i64 br)).set 4 (.int .i64 bb))
   clear S ch cx' co fo
   revert S'
   generalize World.setCell _ _ _=W
   intro S
   have ch:=S.Hh.cell
   have cx':=S.X.cell
   have co:=S.O.cell
   have fo:=S.O.frozen
   go_upto_region 14 with fail
   clear ch cx' co fo
   have l1:=msg_load S.O
   have l2:=msg_store S.R rfl
   go_wp2_with fail
   refine bodyPost_ret (results_msg1 rfl rfl (S.R.msgSet rfl)) rfl ?_
   exact ⟨by rw [←HRES.out];rfl,below_msgSet S.kk (Nat.le_succ _) _⟩
  ·go_upto_region 4 with fail
   have S':PlS w gh go #[.int .i64 k,.int .i64 i,.int .i64 n,.int .i64 br,.int .i64 bb,.int .i64 tr,.int .i64 tb,.int .i64 st,.int .i64 ck,.int .i64 cc,.int .i64 cq,.string cy,.string cx,.int .i64 cr,.slice A m cap,.int .i64 sq,.int .i64 tg,.int .i64 ver] #[.bool true,.bool false,.bool false,.bool true,.bool true,.bool false] #[.int .i64 k,.int .i64 i,.int .i64 n,.int .i64 0,.int .i64 0,.int .i64 0,.int .i64 0,.int .i64 0,.int .i64 0,.int .i64 0,.int .i64 0,.string ⟨#[]⟩,.string ⟨#[]⟩,.int .i64 0,.slice none 0 0,.int .i64 0,.int .i64 0,.int .i64 0] _:=((S.set 1 (.int .i64 i)).set 2 (.int .i64 n))
   clear S ch cx' co fo
   revert S'
   generalize World.setCell _ _ _=W
   intro S
   have ch:=S.Hh.cell
   have cx':=S.X.cell
   have co:=S.O.cell
   have fo:=S.O.frozen
   go_upto_region 10 with fail
   have S':PlS w gh go #[.int .i64 k,.int .i64 i,.int .i64 n,.int .i64 br,.int .i64 bb,.int .i64 tr,.int .i64 tb,.int .i64 st,.int .i64 ck,.int .i64 cc,.int .i64 cq,.string cy,.string cx,.int .i64 cr,.slice A m cap,.int .i64 sq,.int .i64 tg,.int .i64 ver] #[.bool true,.bool false,.bool false,.bool true,.bool true,.bool false] #[.int .i64 k,.int .i64 i,.int .i64 n,.int .i64 0,.int .i64 0,.int .i64 0,.int .i64 0,.int .i64 0,.int .i64 ck,.int .i64 cc,.int .i64 cq,.string cy,.string cx,.int .i64 cr,.slice none 0 0,.int .i64 0,.int .i64 0,.int .i64 0] _:=((((((S.set 8 (.int .i64 ck)).set 9 (.int .i64 cc)).set 10 (.int .i64 cq)).set 11 (.string cy)).set 12 (.string cx)).set 13 (.int .i64 cr))
   clear S ch cx' co fo
   revert S'
   generalize World.setCell _ _ _=W
   intro S
   have ch:=S.Hh.cell
   have cx':=S.X.cell
   have co:=S.O.cell
   have fo:=S.O.frozen
   go_upto_region 12 with fail
   have S':PlS w gh go #[.int .i64 k,.int .i64 i,.int .i64 n,.int .i64 br,.int .i64 bb,.int .i64 tr,.int .i64 tb,.int .i64 st,.int .i64 ck,.int .i64 cc,.int .i64 cq,.string cy,.string cx,.int .i64 cr,.slice A m cap,.int .i64 sq,.int .i64 tg,.int .i64 ver] #[.bool true,.bool false,.bool false,.bool true,.bool true,.bool false] #[.int .i64 k,.int .i64 i,.int .i64 n,.int .i64 0,.int .i64 0,.int .i64 0,.int .i64 0,.int .i64 0,.int .i64 ck,.int .i64 cc,.int .i64 cq,.string cy,.string cx,.int .i64 cr,.slice A m cap,.int .i64 sq,.int .i64 tg,.int .i64 0] _:=(((S.set 14 (.slice A m cap)).set 15 (.int .i64 sq)).set 16 (.int .i64 tg))
   clear S ch cx' co fo
   revert S'
   generalize World.setCell _ _ _=W
   intro S
   have ch:=S.Hh.cell
   have cx':=S.X.cell
   have co:=S.O.cell
   have fo:=S.O.frozen
   go_upto_region 14 with fail
   clear ch cx' co fo
   have l1:=msg_load S.O
   have l2:=msg_store S.R rfl
   go_wp2_with fail
   refine bodyPost_ret (results_msg1 rfl rfl (S.R.msgSet rfl)) rfl ?_
   exact ⟨by rw [←HRES.out];rfl,below_msgSet S.kk (Nat.le_succ _) _⟩
  ·go_upto_region 4 with fail
   have S':PlS w gh go #[.int .i64 k,.int .i64 i,.int .i64 n,.int .i64 br,.int .i64 bb,.int .i64 tr,.int .i64 tb,.int .i64 st,.int .i64 ck,.int .i64 cc,.int .i64 cq,.string cy,.string cx,.int .i64 cr,.slice A m cap,.int .i64 sq,.int .i64 tg,.int .i64 ver] #[.bool true,.bool true,.bool true,.bool true,.bool true,.bool false] #[.int .i64 k,.int .i64 i,.int .i64 n,.int .i64 0,.int .i64 0,.int .i64 0,.int .i64 0,.int .i64 0,.int .i64 0,.int .i64 0,.int .i64 0,.string ⟨#[]⟩,.string ⟨#[]⟩,.int .i64 0,.slice none 0 0,.int .i64 0,.int .i64 0,.int .i64 0] _:=((S.set 1 (.int .i64 i)).set 2 (.int .i64 n))
   clear S ch cx' co fo
   revert S'
   generalize World.setCell _ _ _=W
   intro S
   have ch:=S.Hh.cell
   have cx':=S.X.cell
   have co:=S.O.cell
   have fo:=S.O.frozen
   go_upto_region 6 with fail
   have S':PlS w gh go #[.int .i64 k,.int .i64 i,.int .i64 n,.int .i64 br,.int .i64 bb,.int .i64 tr,.int .i64 tb,.int .i64 st,.int .i64 ck,.int .i64 cc,.int .i64 cq,.string cy,.string cx,.int .i64 cr,.slice A m cap,.int .i64 sq,.int .i64 tg,.int .i64 ver] #[.bool true,.bool true,.bool true,.bool true,.bool true,.bool false] #[.int .i64 k,.int .i64 i,.int .i64 n,.int .i64 br,.int .i64 bb,.int .i64 0,.int .i64 0,.int .i64 0,.int .i64 0,.int .i64 0,.int .i64 0,.string ⟨#[]⟩,.string ⟨#[]⟩,.int .i64 0,.slice none 0 0,.int .i64 0,.int .i64 0,.int .i64 0] _:=((S.set 3 (.int .i64 br)).set 4 (.int .i64 bb))
   clear S ch cx' co fo
   revert S'
   generalize World.setCell _ _ _=W
   intro S
   have ch:=S.Hh.cell
   have cx':=S.X.cell
   have co:=S.O.cell
   have fo:=S.O.frozen
   go_upto_region 7 with fail
   replace S:=S.keep (Below.refl _ _).drew
   clear ch cx' co fo
   (refine wp_region_held_drew (S:=(S1 w.heap.size #[.int .i64 k,.int .i64 i,.int .i64 n,.int .i64 br,.int .i64 bb,.int .i64 tr,.int .i64 tb,.int .i64 st,.int .i64 ck,.int .i64 cc,.int .i64 cq,.string cy,.string cx,.int .i64 cr,.slice A m cap,.int .i64 sq,.int .i64 tg,.int .i64 ver])) (by kernel_rfl) ?_ (fun hHeld=>?_);(· exact S.X.cell))
   revert hHeld
   revert S
   generalize World.drew _=W
   intro S hHeld
   (refine take_op (i:=0) (v:=?_) rfl (by kernel_rfl) (by kernel_rfl) (by kernel_rfl) (fun _ _ _ h=>h) (by rfl) ?_ hHeld ?_;rotate_left;(· (intro wS hSw;(try dsimp only at hSw);go_simp;first|done|with_reducible rfl));simp only [Act.put,sta_,scz_,scs_]);(refine take_op (i:=1) (v:=?_) rfl (by kernel_rfl) (by kernel_rfl) (by kernel_rfl) (fun _ _ _ h=>h) (by rfl) ?_ hHeld ?_;rotate_left;(· (intro wS hSw;(try dsimp only at hSw);go_simp;first|done|with_reducible rfl));simp only [Act.put,sta_,scz_,scs_]);(refine take_op (i:=2) (v:=?_) rfl (by kernel_rfl) (by kernel_rfl) (by kernel_rfl) (fun _ _ _ h=>h) (by rfl) ?_ hHeld ?_;rotate_left;(· (intro wS hSw;(try dsimp only at hSw);go_simp;first|done|with_reducible rfl));simp only [Act.put,sta_,scz_,scs_]);(refine take_op (i:=3) (v:=?_) rfl (by kernel_rfl) (by kernel_rfl) (by kernel_rfl) (fun _ _ _ h=>h) (by rfl) ?_ hHeld ?_;rotate_left;(· (intro wS hSw;(try dsimp only at hSw);go_simp;first|done|with_reducible rfl));simp only [Act.put,sta_,scz_,scs_]);(refine take_op (i:=4) (v:=?_) rfl (by kernel_rfl) (by kernel_rfl) (by kernel_rfl) (fun _ _ _ h=>h) (by rfl) ?_ hHeld ?_;rotate_left;(· (intro wS hSw;(try dsimp only at hSw);go_simp;first|done|with_reducible rfl));simp only [Act.put,sta_,scz_,scs_])
   have co:=S.O.cell
   have fo:=S.O.frozen
   (refine call_op (i:=5) rfl (by kernel_rfl) (by rfl) (fun K hK=>?_);go_simp;skip;refine hK.out _ _ (S.set 7 (.int .i64 st)).X.cell (fun hHeld2=>?_);clear hK K hHeld;have hHeld:=hHeld2;clear hHeld2;(try simp only [Act.put,sta_,scz_,scs_]))
   (refine take_op (i:=6) (v:=?_) rfl (by kernel_rfl) (by kernel_rfl) (by kernel_rfl) (fun _ _ _ h=>h) (by rfl) ?_ hHeld ?_;rotate_left;(· (intro wS hSw;(try dsimp only at hSw);go_simp;first|done|with_reducible rfl));simp only [Act.put,sta_,scz_,scs_])
   have co2:=(S.set 7 (.int .i64 st)).O.cell
   have fo2:=(S.set 7 (.int .i64 st)).O.frozen
   simp at co2
   (refine call_op (i:=7) rfl (by kernel_rfl) (by rfl) (fun K hK=>?_);go_simp;skip;refine hK.out _ _ (((S.set 7 (.int .i64 st)).set 5 (.int .i64 tr)).set 6 (.int .i64 tb)).X.cell (fun hHeld2=>?_);clear hK K hHeld;have hHeld:=hHeld2;clear hHeld2;(try simp only [Act.put,sta_,scz_,scs_]))
   (refine wpAnyH_done (by kernel_rfl) ?_ _)
   clear hHeld co2 fo2
   have ch:=S.Hh.cell
   have cx':=S.X.cell
   have S':PlS w gh go #[.int .i64 k,.int .i64 i,.int .i64 n,.int .i64 br,.int .i64 bb,.int .i64 tr,.int .i64 tb,.int .i64 st,.int .i64 ck,.int .i64 cc,.int .i64 cq,.string cy,.string cx,.int .i64 cr,.slice A m cap,.int .i64 sq,.int .i64 tg,.int .i64 ver] #[.bool true,.bool true,.bool true,.bool true,.bool true,.bool false] #[.int .i64 k,.int .i64 i,.int .i64 n,.int .i64 br,.int .i64 bb,.int .i64 tr,.int .i64 tb,.int .i64 st,.int .i64 0,.int .i64 0,.int .i64 0,.string ⟨#[]⟩,.string ⟨#[]⟩,.int .i64 0,.slice none 0 0,.int .i64 0,.int .i64 0,.int .i64 0] _:=(((S.set 7 (.int .i64 st)).set 5 (.int .i64 tr)).set 6 (.int .i64 tb))
   clear S ch cx' co fo
   revert S'
   generalize World.setCell _ _ _=W
   intro S
   have ch:=S.Hh.cell
   have cx':=S.X.cell
   have co:=S.O.cell
   have fo:=S.O.frozen
   go_upto_region 10 with fail
   have S':PlS w gh go #[.int .i64 k,.int .i64 i,.int .i64 n,.int .i64 br,.int .i64 bb,.int .i64 tr,.int .i64 tb,.int .i64 st,.int .i64 ck,.int .i64 cc,.int .i64 cq,.string cy,.string cx,.int .i64 cr,.slice A m cap,.int .i64 sq,.int .i64 tg,.int .i64 ver] #[.bool true,.bool true,.bool true,.bool true,.bool true,.bool false] #[.int .i64 k,.int .i64 i,.int .i64 n,.int .i64 br,.int .i64 bb,.int .i64 tr,.int .i64 tb,.int .i64 st,.int .i64 ck,.int .i64 cc,.int .i64 cq,.string cy,.string cx,.int .i64 cr,.slice none 0 0,.int .i64 0,.int .i64 0,.int .i64 0] _:=((((((S.set 8 (.int .i64 ck)).set 9 (.int .i64 cc)).set 10 (.int .i64 cq)).set 11 (.string cy)).set 12 (.string cx)).set 13 (.int .i64 cr))
   clear S ch cx' co fo
   revert S'
   generalize World.setCell _ _ _=W
   intro S
   have ch:=S.Hh.cell
   have cx':=S.X.cell
   have co:=S.O.cell
   have fo:=S.O.frozen
   go_upto_region 12 with fail
   have S':PlS w gh go #[.int .i64 k,.int .i64 i,.int .i64 n,.int .i64 br,.int .i64 bb,.int .i64 tr,.int .i64 tb,.int .i64 st,.int .i64 ck,.int .i64 cc,.int .i64 cq,.string cy,.string cx,.int .i64 cr,.slice A m cap,.int .i64 sq,.int .i64 tg,.int .i64 ver] #[.bool true,.bool true,.bool true,.bool true,.bool true,.bool false] #[.int .i64 k,.int .i64 i,.int .i64 n,.int .i64 br,.int .i64 bb,.int .i64 tr,.int .i64 tb,.int .i64 st,.int .i64 ck,.int .i64 cc,.int .i64 cq,.string cy,.string cx,.int .i64 cr,.slice A m cap,.int .i64 sq,.int .i64 tg,.int .i64 0] _:=(((S.set 14 (.slice A m cap)).set 15 (.int .i64 sq)).set 16 (.int .i64 tg))
   clear S ch cx' co fo
   revert S'
   generalize World.setCell _ _ _=W
   intro S
   have ch:=S.Hh.cell
   have cx':=S.X.cell
   have co:=S.O.cell
   have fo:=S.O.frozen
   go_upto_region 14 with fail
   clear ch cx' co fo
   have l1:=msg_load S.O
   have l2:=msg_store S.R rfl
   go_wp2_with fail
   refine bodyPost_ret (results_msg1 rfl rfl (S.R.msgSet rfl)) rfl ?_
   exact ⟨by rw [←HRES.out];rfl,below_msgSet S.kk (Nat.le_succ _) _⟩
  ·go_upto_region 4 with fail
   have S':PlS w gh go #[.int .i64 k,.int .i64 i,.int .i64 n,.int .i64 br,.int .i64 bb,.int .i64 tr,.int .i64 tb,.int .i64 st,.int .i64 ck,.int .i64 cc,.int .i64 cq,.string cy,.string cx,.int .i64 cr,.slice A m cap,.int .i64 sq,.int .i64 tg,.int .i64 ver] #[.bool true,.bool true,.bool true,.bool false,.bool false,.bool false] #[.int .i64 k,.int .i64 i,.int .i64 n,.int .i64 0,.int .i64 0,.int .i64 0,.int .i64 0,.int .i64 0,.int .i64 0,.int .i64 0,.int .i64 0,.string ⟨#[]⟩,.string ⟨#[]⟩,.int .i64 0,.slice none 0 0,.int .i64 0,.int .i64 0,.int .i64 0] _:=((S.set 1 (.int .i64 i)).set 2 (.int .i64 n))
   clear S ch cx' co fo
   revert S'
   generalize World.setCell _ _ _=W
   intro S
   have ch:=S.Hh.cell
   have cx':=S.X.cell
   have co:=S.O.cell
   have fo:=S.O.frozen
   go_upto_region 6 with fail
   have S':PlS w gh go #[.int .i64 k,.int .i64 i,.int .i64 n,.int .i64 br,.int .i64 bb,.int .i64 tr,.int .i64 tb,.int .i64 st,.int .i64 ck,.int .i64 cc,.int .i64 cq,.string cy,.string cx,.int .i64 cr,.slice A m cap,.int .i64 sq,.int .i64 tg,.int .i64 ver] #[.bool true,.bool true,.bool true,.bool false,.bool false,.bool false] #[.int .i64 k,.int .i64 i,.int .i64 n,.int .i64 br,.int .i64 bb,.int .i64 0,.int .i64 0,.int .i64 0,.int .i64 0,.int .i64 0,.int .i64 0,.string ⟨#[]⟩,.string ⟨#[]⟩,.int .i64 0,.slice none 0 0,.int .i64 0,.int .i64 0,.int .i64 0] _:=((S.set 3 (.int .i64 br)).set 4 (.int .i64 bb))
   clear S ch cx' co fo
   revert S'
   generalize World.setCell _ _ _=W
   intro S
   have ch:=S.Hh.cell
   have cx':=S.X.cell
   have co:=S.O.cell
   have fo:=S.O.frozen
   go_upto_region 7 with fail
   replace S:=S.keep (Below.refl _ _).drew
   clear ch cx' co fo
   (refine wp_region_held_drew (S:=(S1 w.heap.size #[.int .i64 k,.int .i64 i,.int .i64 n,.int .i64 br,.int .i64 bb,.int .i64 tr,.int .i64 tb,.int .i64 st,.int .i64 ck,.int .i64 cc,.int .i64 cq,.string cy,.string cx,.int .i64 cr,.slice A m cap,.int .i64 sq,.int .i64 tg,.int .i64 ver])) (by kernel_rfl) ?_ (fun hHeld=>?_);(· exact S.X.cell))
   revert hHeld
   revert S
   generalize World.drew _=W
   intro S hHeld
   (refine take_op (i:=0) (v:=?_) rfl (by kernel_rfl) (by kernel_rfl) (by kernel_rfl) (fun _ _ _ h=>h) (by rfl) ?_ hHeld ?_;rotate_left;(· (intro wS hSw;(try dsimp only at hSw);go_simp;first|done|with_reducible rfl));simp only [Act.put,sta_,scz_,scs_]);(refine take_op (i:=1) (v:=?_) rfl (by kernel_rfl) (by kernel_rfl) (by kernel_rfl) (fun _ _ _ h=>h) (by rfl) ?_ hHeld ?_;rotate_left;(· (intro wS hSw;(try dsimp only at hSw);go_simp;first|done|with_reducible rfl));simp only [Act.put,sta_,scz_,scs_]);(refine take_op (i:=2) (v:=?_) rfl (by kernel_rfl) (by kernel_rfl) (by kernel_rfl) (fun _ _ _ h=>h) (by rfl) ?_ hHeld ?_;rotate_left;(· (intro wS hSw;(try dsimp only at hSw);go_simp;first|done|with_reducible rfl));simp only [Act.put,sta_,scz_,scs_]);(refine take_op (i:=3) (v:=?_) rfl (by kernel_rfl) (by kernel_rfl) (by kernel_rfl) (fun _ _ _ h=>h) (by rfl) ?_ hHeld ?_;rotate_left;(· (intro wS hSw;(try dsimp only at hSw);go_simp;first|done|with_reducible rfl));simp only [Act.put,sta_,scz_,scs_]);(refine take_op (i:=4) (v:=?_) rfl (by kernel_rfl) (by kernel_rfl) (by kernel_rfl) (fun _ _ _ h=>h) (by rfl) ?_ hHeld ?_;rotate_left;(· (intro wS hSw;(try dsimp only at hSw);go_simp;first|done|with_reducible rfl));simp only [Act.put,sta_,scz_,scs_])
   have co:=S.O.cell
   have fo:=S.O.frozen
   (refine call_op (i:=5) rfl (by kernel_rfl) (by rfl) (fun K hK=>?_);go_simp;skip;refine hK.out _ _ (S.set 7 (.int .i64 st)).X.cell (fun hHeld2=>?_);clear hK K hHeld;have hHeld:=hHeld2;clear hHeld2;(try simp only [Act.put,sta_,scz_,scs_]))
   (refine take_op (i:=6) (v:=?_) rfl (by kernel_rfl) (by kernel_rfl) (by kernel_rfl) (fun _ _ _ h=>h) (by rfl) ?_ hHeld ?_;rotate_left;(· (intro wS hSw;(try dsimp only at hSw);go_simp;first|done|with_reducible rfl));simp only [Act.put,sta_,scz_,scs_])
   have co2:=(S.set 7 (.int .i64 st)).O.cell
   have fo2:=(S.set 7 (.int .i64 st)).O.frozen
   simp at co2
   (refine call_op (i:=7) rfl (by kernel_rfl) (by rfl) (fun K hK=>?_);go_simp;skip;refine hK.out _ _ (((S.set 7 (.int .i64 st)).set 5 (.int .i64 tr)).set 6 (.int .i64 tb)).X.cell (fun hHeld2=>?_);clear hK K hHeld;have hHeld:=hHeld2;clear hHeld2;(try simp only [Act.put,sta_,scz_,scs_]))
   (refine wpAnyH_done (by kernel_rfl) ?_ _)
   clear hHeld co2 fo2
   have ch:=S.Hh.cell
   have cx':=S.X.cell
   have S':PlS w gh go #[.int .i64 k,.int .i64 i,.int .i64 n,.int .i64 br,.int .i64 bb,.int .i64 tr,.int .i64 tb,.int .i64 st,.int .i64 ck,.int .i64 cc,.int .i64 cq,.string cy,.string cx,.int .i64 cr,.slice A m cap,.int .i64 sq,.int .i64 tg,.int .i64 ver] #[.bool true,.bool true,.bool true,.bool false,.bool false,.bool false] #[.int .i64 k,.int .i64 i,.int .i64 n,.int .i64 br,.int .i64 bb,.int .i64 tr,.int .i64 tb,.int .i64 st,.int .i64 0,.int .i64 0,.int .i64 0,.string ⟨#[]⟩,.string ⟨#[]⟩,.int .i64 0,.slice none 0 0,.int .i64 0,.int .i64 0,.int .i64 0] _:=(((S.set 7 (.int .i64 st)).set 5 (.int .i64 tr)).set 6 (.int .i64 tb))
   clear S ch cx' co fo
   revert S'
   generalize World.setCell _ _ _=W
   intro S
   have ch:=S.Hh.cell
   have cx':=S.X.cell
   have co:=S.O.cell
   have fo:=S.O.frozen
   go_upto_region 14 with fail
   clear ch cx' co fo
   have l1:=msg_load S.O
   have l2:=msg_store S.R rfl
   go_wp2_with fail
   refine bodyPost_ret (results_msg1 rfl rfl (S.R.msgSet rfl)) rfl ?_
   exact ⟨by rw [←HRES.out];rfl,below_msgSet S.kk (Nat.le_succ _) _⟩
  ·go_upto_region 14 with fail
   have S':PlS w gh go #[.int .i64 k,.int .i64 i,.int .i64 n,.int .i64 br,.int .i64 bb,.int .i64 tr,.int .i64 tb,.int .i64 st,.int .i64 ck,.int .i64 cc,.int .i64 cq,.string cy,.string cx,.int .i64 cr,.slice A m cap,.int .i64 sq,.int .i64 tg,.int .i64 ver] #[.bool false,.bool false,.bool false,.bool false,.bool false,.bool true] #[.int .i64 k,.int .i64 0,.int .i64 0,.int .i64 0,.int .i64 0,.int .i64 0,.int .i64 0,.int .i64 0,.int .i64 0,.int .i64 0,.int .i64 0,.string ⟨#[]⟩,.string ⟨#[]⟩,.int .i64 0,.slice none 0 0,.int .i64 0,.int .i64 0,.int .i64 ver] _:=(S.set 17 (.int .i64 ver))
   clear S ch cx' co fo
   revert S'
   generalize World.setCell _ _ _=W
   intro S
   have ch:=S.Hh.cell
   have cx':=S.X.cell
   have co:=S.O.cell
   have fo:=S.O.frozen
   clear ch cx' co fo
   have l1:=msg_load S.O
   have l2:=msg_store S.R rfl
   go_wp2_with fail
   refine bodyPost_ret (results_msg1 rfl rfl (S.R.msgSet rfl)) rfl ?_
   exact ⟨by rw [←HRES.out];rfl,below_msgSet S.kk (Nat.le_succ _) _⟩
 replace X:=blk_drewp X
 replace R:=blk_drewp R
 replace kk:=kk.drew
 (refine wp_region_held_drew (S:=(SM w.heap.size #[.int .i64 k,.int .i64 i,.int .i64 n,.int .i64 br,.int .i64 bb,.int .i64 tr,.int .i64 tb,.int .i64 st,.int .i64 ck,.int .i64 cc,.int .i64 cq,.string cy,.string cx,.int .i64 cr,.slice A m cap,.int .i64 sq,.int .i64 tg,.int .i64 ver])) (by kernel_rfl) ?_ (fun hHeld=>?_);(· exact X.sm))
 revert hHeld X R kk
 generalize World.drew _=wd
 intro X R kk hHeld
 have hz:w.heap.size+2≤wd.heap.size:=R.lt
 (refine take_op (i:=0) (v:=?_) rfl (by kernel_rfl) (by kernel_rfl) (by kernel_rfl) (fun _ _ _ h=>h) (by rfl) ?_ hHeld ?_;rotate_left;(· (intro wS hSw;(try dsimp only at hSw);go_simp;first|done|with_reducible rfl));simp only [Act.put,sta_,scz_,scs_]);(refine take_op (i:=2) (v:=?_) rfl (by kernel_rfl) (by kernel_rfl) (by kernel_rfl) (fun _ _ _ h=>h) (by rfl) ?_ hHeld ?_;rotate_left;(· (intro wS hSw;(try dsimp only at hSw);go_simp;first|done|with_reducible rfl));simp only [Act.put,sta_,scz_,scs_]);(refine take_op (i:=3) (v:=?_) rfl (by kernel_rfl) (by kernel_rfl) (by kernel_rfl) (fun _ _ _ h=>h) (by rfl) ?_ hHeld ?_;rotate_left;(· (intro wS hSw;(try dsimp only at hSw);go_simp;first|done|with_reducible rfl));simp only [Act.put,sta_,scz_,scs_]);(refine take_op (i:=4) (v:=?_) rfl (by kernel_rfl) (by kernel_rfl) (by kernel_rfl) (fun _ _ _ h=>h) (by rfl) ?_ hHeld ?_;rotate_left;(· (intro wS hSw;(try dsimp only at hSw);go_simp;first|done|with_reducible rfl));simp only [Act.put,sta_,scz_,scs_])
 revert hHeld
 revert hz
 revert kk
 revert R
 revert X
 revert wd
 apply join
 ·intro hJ
  have HJ:=Lib.hid hJ
  clear hJ
  intro wd X R kk hz hHeld
  refine three_op (i:=1) (j:=5) (k:=6) rfl rfl rfl (by kernel_rfl) (by rfl) (by rfl) (by rfl) ?_ ?_ ?_
  ·(intro K hK;go_simp;(go_at_call 54;(with_reducible refine (Hof.out _ kk).mono ?_);rintro e w2 ⟨rfl,hb1⟩;replace X:=X.keep hb1;replace R:=R.keep hb1;replace kk:=below_call kk hb1 kk.size;have hz_1:=hb1.size;replace hz:w.heap.size+2≤w2.heap.size:=(by omega);clear hz_1 hb1);refine hK.out _ _ (X.sm) (fun hHeld2=>?_);clear hK K hHeld;have hHeld:=hHeld2;clear hHeld2;(try simp only [Act.put,sta_,scz_,scs_]))
   refine two_op (i:=5) (j:=6) rfl rfl (by kernel_rfl) (by rfl) (by rfl) ?_ ?_
   ·(intro K hK;go_simp;skip;refine hK.out _ _ ((X.alloc (.cells #[.bool false,.bool false,.bool false,.bool false,.bool false,.bool false] 99)).sm) (fun hHeld2=>?_);clear hK K hHeld;have hHeld:=hHeld2;clear hHeld2;(try simp only [Act.put,sta_,scz_,scs_]))
    have Hh:=Blk.new w2 99 #[.bool false,.bool false,.bool false,.bool false,.bool false,.bool false]
    have hgh:=hz
    replace X:=X.alloc (.cells #[.bool false,.bool false,.bool false,.bool false,.bool false,.bool false] 99)
    replace R:=R.alloc (.cells #[.bool false,.bool false,.bool false,.bool false,.bool false,.bool false] 99)
    replace kk:=kk.alloc kk.size (.cells #[.bool false,.bool false,.bool false,.bool false,.bool false,.bool false] 99)
    replace hz:w.heap.size+2≤(World.alloc w2 (.cells #[.bool false,.bool false,.bool false,.bool false,.bool false,.bool false] 99)).heap.size:=by simp;omega
    revert hHeld Hh hgh X R kk hz
    generalize World.alloc w2 _=w3
    generalize w2.heap.size=gh
    intro hHeld Hh hgh X R kk hz
    (refine call_op (i:=6) rfl (by kernel_rfl) (by rfl) (fun K hK=>?_);go_simp;skip;refine hK.out _ _ ((X.alloc (.cells #[.int .i64 0,.int .i64 0,.int .i64 0,.int .i64 0,.int .i64 0,.int .i64 0,.int .i64 0,.int .i64 0,.int .i64 0,.int .i64 0,.int .i64 0,.string ⟨#[]⟩,.string ⟨#[]⟩,.int .i64 0,.slice none 0 0,.int .i64 0,.int .i64 0,.int .i64 0] 50)).sm) (fun hHeld2=>?_);clear hK K hHeld;have hHeld:=hHeld2;clear hHeld2;(try simp only [Act.put,sta_,scz_,scs_]))
    have O:=Blk.new w3 50 #[.int .i64 0,.int .i64 0,.int .i64 0,.int .i64 0,.int .i64 0,.int .i64 0,.int .i64 0,.int .i64 0,.int .i64 0,.int .i64 0,.int .i64 0,.string ⟨#[]⟩,.string ⟨#[]⟩,.int .i64 0,.slice none 0 0,.int .i64 0,.int .i64 0,.int .i64 0]
    have hgo:=hz
    have hne:gh≠w3.heap.size:=by have:=Hh.lt;omega
    replace X:=X.alloc (.cells #[.int .i64 0,.int .i64 0,.int .i64 0,.int .i64 0,.int .i64 0,.int .i64 0,.int .i64 0,.int .i64 0,.int .i64 0,.int .i64 0,.int .i64 0,.string ⟨#[]⟩,.string ⟨#[]⟩,.int .i64 0,.slice none 0 0,.int .i64 0,.int .i64 0,.int .i64 0] 50)
    replace R:=R.alloc (.cells #[.int .i64 0,.int .i64 0,.int .i64 0,.int .i64 0,.int .i64 0,.int .i64 0,.int .i64 0,.int .i64 0,.int .i64 0,.int .i64 0,.int .i64 0,.string ⟨#[]⟩,.string ⟨#[]⟩,.int .i64 0,.slice none 0 0,.int .i64 0,.int .i64 0,.int .i64 0] 50)
    replace Hh:=Hh.alloc (.cells #[.int .i64 0,.int .i64 0,.int .i64 0,.int .i64 0,.int .i64 0,.int .i64 0,.int .i64 0,.int .i64 0,.int .i64 0,.int .i64 0,.int .i64 0,.string ⟨#[]⟩,.string ⟨#[]⟩,.int .i64 0,.slice none 0 0,.int .i64 0,.int .i64 0,.int .i64 0] 50)
    replace kk:=kk.alloc kk.size (.cells #[.int .i64 0,.int .i64 0,.int .i64 0,.int .i64 0,.int .i64 0,.int .i64 0,.int .i64 0,.int .i64 0,.int .i64 0,.int .i64 0,.int .i64 0,.string ⟨#[]⟩,.string ⟨#[]⟩,.int .i64 0,.slice none 0 0,.int .i64 0,.int .i64 0,.int .i64 0] 50)
    replace hz:w.heap.size+2≤(World.alloc w3 (.cells #[.int .i64 0,.int .i64 0,.int .i64 0,.int .i64 0,.int .i64 0,.int .i64 0,.int .i64 0,.int .i64 0,.int .i64 0,.int .i64 0,.int .i64 0,.string ⟨#[]⟩,.string ⟨#[]⟩,.int .i64 0,.slice none 0 0,.int .i64 0,.int .i64 0,.int .i64 0] 50)).heap.size:=by simp;omega
    revert hHeld O hgo hne X R Hh kk hz
    generalize World.alloc w3 _=w4
    generalize w3.heap.size=go
    intro hHeld O hgo hne X R Hh kk hz
    refine anyH_listed (L':=#[true,true,true,true,true,true,true,false,false]) (by kernel_rfl) ?_
    revert hHeld
    revert hz
    revert kk
    revert hne
    revert hgo
    revert O
    revert hgh
    revert Hh
    revert R
    revert X
    revert go
    revert gh
    revert w4
    exact HJ.out
   ·(intro K hK;go_simp;skip;refine hK.out _ _ ((X.alloc (.cells #[.int .i64 0,.int .i64 0,.int .i64 0,.int .i64 0,.int .i64 0,.int .i64 0,.int .i64 0,.int .i64 0,.int .i64 0,.int .i64 0,.int .i64 0,.string ⟨#[]⟩,.string ⟨#[]⟩,.int .i64 0,.slice none 0 0,.int .i64 0,.int .i64 0,.int .i64 0] 50)).sm) (fun hHeld2=>?_);clear hK K hHeld;have hHeld:=hHeld2;clear hHeld2;(try simp only [Act.put,sta_,scz_,scs_]))
    have O:=Blk.new w2 50 #[.int .i64 0,.int .i64 0,.int .i64 0,.int .i64 0,.int .i64 0,.int .i64 0,.int .i64 0,.int .i64 0,.int .i64 0,.int .i64 0,.int .i64 0,.string ⟨#[]⟩,.string ⟨#[]⟩,.int .i64 0,.slice none 0 0,.int .i64 0,.int .i64 0,.int .i64 0]
    have hgo:=hz
    replace X:=X.alloc (.cells #[.int .i64 0,.int .i64 0,.int .i64 0,.int .i64 0,.int .i64 0,.int .i64 0,.int .i64 0,.int .i64 0,.int .i64 0,.int .i64 0,.int .i64 0,.string ⟨#[]⟩,.string ⟨#[]⟩,.int .i64 0,.slice none 0 0,.int .i64 0,.int .i64 0,.int .i64 0] 50)
    replace R:=R.alloc (.cells #[.int .i64 0,.int .i64 0,.int .i64 0,.int .i64 0,.int .i64 0,.int .i64 0,.int .i64 0,.int .i64 0,.int .i64 0,.int .i64 0,.int .i64 0,.string ⟨#[]⟩,.string ⟨#[]⟩,.int .i64 0,.slice none 0 0,.int .i64 0,.int .i64 0,.int .i64 0] 50)
    replace kk:=kk.alloc kk.size (.cells #[.int .i64 0,.int .i64 0,.int .i64 0,.int .i64 0,.int .i64 0,.int .i64 0,.int .i64 0,.int .i64 0,.int .i64 0,.int .i64 0,.int .i64 0,.string ⟨#[]⟩,.string ⟨#[]⟩,.int .i64 0,.slice none 0 0,.int .i64 0,.int .i64 0,.int .i64 0] 50)
    replace hz:w.heap.size+2≤(World.alloc w2 (.cells #[.int .i64 0,.int .i64 0,.int .i64 0,.int .i64 0,.int .i64 0,.int .i64 0,.int .i64 0,.int .i64 0,.int .i64 0,.int .i64 0,.int .i64 0,.string ⟨#[]⟩,.string ⟨#[]⟩,.int .i64 0,.slice none 0 0,.int .i64 0,.int .i64 0,.int .i64 0] 50)).heap.size:=by simp;omega
    revert hHeld O hgo X R kk hz
    generalize World.alloc w2 _=w5
    generalize w2.heap.size=go
    intro hHeld O hgo X R kk hz
    (refine call_op (i:=5) rfl (by kernel_rfl) (by rfl) (fun K hK=>?_);go_simp;skip;refine hK.out _ _ ((X.alloc (.cells #[.bool false,.bool false,.bool false,.bool false,.bool false,.bool false] 99)).sm) (fun hHeld2=>?_);clear hK K hHeld;have hHeld:=hHeld2;clear hHeld2;(try simp only [Act.put,sta_,scz_,scs_]))
    have Hh:=Blk.new w5 99 #[.bool false,.bool false,.bool false,.bool false,.bool false,.bool false]
    have hgh:=hz
    have hne:w5.heap.size≠go:=by have:=O.lt;omega
    replace X:=X.alloc (.cells #[.bool false,.bool false,.bool false,.bool false,.bool false,.bool false] 99)
    replace R:=R.alloc (.cells #[.bool false,.bool false,.bool false,.bool false,.bool false,.bool false] 99)
    replace O:=O.alloc (.cells #[.bool false,.bool false,.bool false,.bool false,.bool false,.bool false] 99)
    replace kk:=kk.alloc kk.size (.cells #[.bool false,.bool false,.bool false,.bool false,.bool false,.bool false] 99)
    replace hz:w.heap.size+2≤(World.alloc w5 (.cells #[.bool false,.bool false,.bool false,.bool false,.bool false,.bool false] 99)).heap.size:=by simp;omega
    revert hHeld Hh hgh hne X R O kk hz
    generalize World.alloc w5 _=w6
    generalize w5.heap.size=gh
    intro hHeld Hh hgh hne X R O kk hz
    refine anyH_listed (L':=#[true,true,true,true,true,true,true,false,false]) (by kernel_rfl) ?_
    revert hHeld
    revert hz
    revert kk
    revert hne
    revert hgo
    revert O
    revert hgh
    revert Hh
    revert R
    revert X
    revert go
    revert gh
    revert w6
    exact HJ.out
  ·(intro K hK;go_simp;skip;refine hK.out _ _ ((X.alloc (.cells #[.bool false,.bool false,.bool false,.bool false,.bool false,.bool false] 99)).sm) (fun hHeld2=>?_);clear hK K hHeld;have hHeld:=hHeld2;clear hHeld2;(try simp only [Act.put,sta_,scz_,scs_]))
   have Hh:=Blk.new wd 99 #[.bool false,.bool false,.bool false,.bool false,.bool false,.bool false]
   have hgh:=hz
   replace X:=X.alloc (.cells #[.bool false,.bool false,.bool false,.bool false,.bool false,.bool false] 99)
   replace R:=R.alloc (.cells #[.bool false,.bool false,.bool false,.bool false,.bool false,.bool false] 99)
   replace kk:=kk.alloc kk.size (.cells #[.bool false,.bool false,.bool false,.bool false,.bool false,.bool false] 99)
   replace hz:w.heap.size+2≤(World.alloc wd (.cells #[.bool false,.bool false,.bool false,.bool false,.bool false,.bool false] 99)).heap.size:=by simp;omega
   revert hHeld Hh hgh X R kk hz
   generalize World.alloc wd _=w7
   generalize wd.heap.size=gh
   intro hHeld Hh hgh X R kk hz
   refine two_op (i:=1) (j:=6) rfl rfl (by kernel_rfl) (by rfl) (by rfl) ?_ ?_
   ·(intro K hK;go_simp;(go_at_call 54;(with_reducible refine (Hof.out _ kk).mono ?_);rintro e w8 ⟨rfl,hb7⟩;replace X:=X.keep hb7;replace R:=R.keep hb7;replace Hh:=Hh.keep hb7;replace kk:=below_call kk hb7 kk.size;have hz_7:=hb7.size;replace hz:w.heap.size+2≤w8.heap.size:=(by omega);clear hz_7 hb7);refine hK.out _ _ (X.sm) (fun hHeld2=>?_);clear hK K hHeld;have hHeld:=hHeld2;clear hHeld2;(try simp only [Act.put,sta_,scz_,scs_]))
    (refine call_op (i:=6) rfl (by kernel_rfl) (by rfl) (fun K hK=>?_);go_simp;skip;refine hK.out _ _ ((X.alloc (.cells #[.int .i64 0,.int .i64 0,.int .i64 0,.int .i64 0,.int .i64 0,.int .i64 0,.int .i64 0,.int .i64 0,.int .i64 0,.int .i64 0,.int .i64 0,.string ⟨#[]⟩,.string ⟨#[]⟩,.int .i64 0,.slice none 0 0,.int .i64 0,.int .i64 0,.int .i64 0] 50)).sm) (fun hHeld2=>?_);clear hK K hHeld;have hHeld:=hHeld2;clear hHeld2;(try simp only [Act.put,sta_,scz_,scs_]))
    have O:=Blk.new w8 50 #[.int .i64 0,.int .i64 0,.int .i64 0,.int .i64 0,.int .i64 0,.int .i64 0,.int .i64 0,.int .i64 0,.int .i64 0,.int .i64 0,.int .i64 0,.string ⟨#[]⟩,.string ⟨#[]⟩,.int .i64 0,.slice none 0 0,.int .i64 0,.int .i64 0,.int .i64 0]
    have hgo:=hz
    have hne:gh≠w8.heap.size:=by have:=Hh.lt;omega
    replace X:=X.alloc (.cells #[.int .i64 0,.int .i64 0,.int .i64 0,.int .i64 0,.int .i64 0,.int .i64 0,.int .i64 0,.int .i64 0,.int .i64 0,.int .i64 0,.int .i64 0,.string ⟨#[]⟩,.string ⟨#[]⟩,.int .i64 0,.slice none 0 0,.int .i64 0,.int .i64 0,.int .i64 0] 50)
    replace R:=R.alloc (.cells #[.int .i64 0,.int .i64 0,.int .i64 0,.int .i64 0,.int .i64 0,.int .i64 0,.int .i64 0,.int .i64 0,.int .i64 0,.int .i64 0,.int .i64 0,.string ⟨#[]⟩,.string ⟨#[]⟩,.int .i64 0,.slice none 0 0,.int .i64 0,.int .i64 0,.int .i64 0] 50)
    replace Hh:=Hh.alloc (.cells #[.int .i64 0,.int .i64 0,.int .i64 0,.int .i64 0,.int .i64 0,.int .i64 0,.int .i64 0,.int .i64 0,.int .i64 0,.int .i64 0,.int .i64 0,.string ⟨#[]⟩,.string ⟨#[]⟩,.int .i64 0,.slice none 0 0,.int .i64 0,.int .i64 0,.int .i64 0] 50)
    replace kk:=kk.alloc kk.size (.cells #[.int .i64 0,.int .i64 0,.int .i64 0,.int .i64 0,.int .i64 0,.int .i64 0,.int .i64 0,.int .i64 0,.int .i64 0,.int .i64 0,.int .i64 0,.string ⟨#[]⟩,.string ⟨#[]⟩,.int .i64 0,.slice none 0 0,.int .i64 0,.int .i64 0,.int .i64 0] 50)
    replace hz:w.heap.size+2≤(World.alloc w8 (.cells #[.int .i64 0,.int .i64 0,.int .i64 0,.int .i64 0,.int .i64 0,.int .i64 0,.int .i64 0,.int .i64 0,.int .i64 0,.int .i64 0,.int .i64 0,.string ⟨#[]⟩,.string ⟨#[]⟩,.int .i64 0,.slice none 0 0,.int .i64 0,.int .i64 0,.int .i64 0] 50)).heap.size:=by simp;omega
    revert hHeld O hgo hne X R Hh kk hz
    generalize World.alloc w8 _=w9
    generalize w8.heap.size=go
    intro hHeld O hgo hne X R Hh kk hz
    refine anyH_listed (L':=#[true,true,true,true,true,true,true,false,false]) (by kernel_rfl) ?_
    revert hHeld
    revert hz
    revert kk
    revert hne
    revert hgo
    revert O
    revert hgh
    revert Hh
    revert R
    revert X
    revert go
    revert gh
    revert w9
    exact HJ.out
   ·(intro K hK;go_simp;skip;refine hK.out _ _ ((X.alloc (.cells #[.int .i64 0,.int .i64 0,.int .i64 0,.int .i64 0,.int .i64 0,.int .i64 0,.int .i64 0,.int .i64 0,.int .i64 0,.int .i64 0,.int .i64 0,.string ⟨#[]⟩,.string ⟨#[]⟩,.int .i64 0,.slice none 0 0,.int .i64 0,.int .i64 0,.int .i64 0] 50)).sm) (fun hHeld2=>?_);clear hK K hHeld;have hHeld:=hHeld2;clear hHeld2;(try simp only [Act.put,sta_,scz_,scs_]))
    have O:=Blk.new w7 50 #[.int .i64 0,.int .i64 0,.int .i64 0,.int .i64 0,.int .i64 0,.int .i64 0,.int .i64 0,.int .i64 0,.int .i64 0,.int .i64 0,.int .i64 0,.string ⟨#[]⟩,.string ⟨#[]⟩,.int .i64 0,.slice none 0 0,.int .i64 0,.int .i64 0,.int .i64 0]
    have hgo:=hz
    have hne:gh≠w7.heap.size:=by have:=Hh.lt;omega
    replace X:=X.alloc (.cells #[.int .i64 0,.int .i64 0,.int .i64 0,.int .i64 0,.int .i64 0,.int .i64 0,.int .i64 0,.int .i64 0,.int .i64 0,.int .i64 0,.int .i64 0,.string ⟨#[]⟩,.string ⟨#[]⟩,.int .i64 0,.slice none 0 0,.int .i64 0,.int .i64 0,.int .i64 0] 50)
    replace R:=R.alloc (.cells #[.int .i64 0,.int .i64 0,.int .i64 0,.int .i64 0,.int .i64 0,.int .i64 0,.int .i64 0,.int .i64 0,.int .i64 0,.int .i64 0,.int .i64 0,.string ⟨#[]⟩,.string ⟨#[]⟩,.int .i64 0,.slice none 0 0,.int .i64 0,.int .i64 0,.int .i64 0] 50)
    replace Hh:=Hh.alloc (.cells #[.int .i64 0,.int .i64 0,.int .i64 0,.int .i64 0,.int .i64 0,.int .i64 0,.int .i64 0,.int .i64 0,.int .i64 0,.int .i64 0,.int .i64 0,.string ⟨#[]⟩,.string ⟨#[]⟩,.int .i64 0,.slice none 0 0,.int .i64 0,.int .i64 0,.int .i64 0] 50)
    replace kk:=kk.alloc kk.size (.cells #[.int .i64 0,.int .i64 0,.int .i64 0,.int .i64 0,.int .i64 0,.int .i64 0,.int .i64 0,.int .i64 0,.int .i64 0,.int .i64 0,.int .i64 0,.string ⟨#[]⟩,.string ⟨#[]⟩,.int .i64 0,.slice none 0 0,.int .i64 0,.int .i64 0,.int .i64 0] 50)
    replace hz:w.heap.size+2≤(World.alloc w7 (.cells #[.int .i64 0,.int .i64 0,.int .i64 0,.int .i64 0,.int .i64 0,.int .i64 0,.int .i64 0,.int .i64 0,.int .i64 0,.int .i64 0,.int .i64 0,.string ⟨#[]⟩,.string ⟨#[]⟩,.int .i64 0,.slice none 0 0,.int .i64 0,.int .i64 0,.int .i64 0] 50)).heap.size:=by simp;omega
    revert hHeld O hgo hne X R Hh kk hz
    generalize World.alloc w7 _=w10
    generalize w7.heap.size=go
    intro hHeld O hgo hne X R Hh kk hz
    (refine call_op (i:=1) rfl (by kernel_rfl) (by rfl) (fun K hK=>?_);go_simp;(go_at_call 54;(with_reducible refine (Hof.out _ kk).mono ?_);rintro e w11 ⟨rfl,hb10⟩;replace X:=X.keep hb10;replace R:=R.keep hb10;replace Hh:=Hh.keep hb10;replace O:=O.keep hb10;replace kk:=below_call kk hb10 kk.size;have hz_10:=hb10.size;replace hz:w.heap.size+2≤w11.heap.size:=(by omega);clear hz_10 hb10);refine hK.out _ _ (X.sm) (fun hHeld2=>?_);clear hK K hHeld;have hHeld:=hHeld2;clear hHeld2;(try simp only [Act.put,sta_,scz_,scs_]))
    refine anyH_listed (L':=#[true,true,true,true,true,true,true,false,false]) (by kernel_rfl) ?_
    revert hHeld
    revert hz
    revert kk
    revert hne
    revert hgo
    revert O
    revert hgh
    revert Hh
    revert R
    revert X
    revert go
    revert gh
    revert w11
    exact HJ.out
  ·(intro K hK;go_simp;skip;refine hK.out _ _ ((X.alloc (.cells #[.int .i64 0,.int .i64 0,.int .i64 0,.int .i64 0,.int .i64 0,.int .i64 0,.int .i64 0,.int .i64 0,.int .i64 0,.int .i64 0,.int .i64 0,.string ⟨#[]⟩,.string ⟨#[]⟩,.int .i64 0,.slice none 0 0,.int .i64 0,.int .i64 0,.int .i64 0] 50)).sm) (fun hHeld2=>?_);clear hK K hHeld;have hHeld:=hHeld2;clear hHeld2;(try simp only [Act.put,sta_,scz_,scs_]))
   have O:=Blk.new wd 50 #[.int .i64 0,.int .i64 0,.int .i64 0,.int .i64 0,.int .i64 0,.int .i64 0,.int .i64 0,.int .i64 0,.int .i64 0,.int .i64 0,.int .i64 0,.string ⟨#[]⟩,.string ⟨#[]⟩,.int .i64 0,.slice none 0 0,.int .i64 0,.int .i64 0,.int .i64 0]
   have hgo:=hz
   replace X:=X.alloc (.cells #[.int .i64 0,.int .i64 0,.int .i64 0,.int .i64 0,.int .i64 0,.int .i64 0,.int .i64 0,.int .i64 0,.int .i64 0,.int .i64 0,.int .i64 0,.string ⟨#[]⟩,.string ⟨#[]⟩,.int .i64 0,.slice none 0 0,.int .i64 0,.int .i64 0,.int .i64 0] 50)
   replace R:=R.alloc (.cells #[.int .i64 0,.int .i64 0,.int .i64 0,.int .i64 0,.int .i64 0,.int .i64 0,.int .i64 0,.int .i64 0,.int .i64 0,.int .i64 0,.int .i64 0,.string ⟨#[]⟩,.string ⟨#[]⟩,.int .i64 0,.slice none 0 0,.int .i64 0,.int .i64 0,.int .i64 0] 50)
   replace kk:=kk.alloc kk.size (.cells #[.int .i64 0,.int .i64 0,.int .i64 0,.int .i64 0,.int .i64 0,.int .i64 0,.int .i64 0,.int .i64 0,.int .i64 0,.int .i64 0,.int .i64 0,.string ⟨#[]⟩,.string ⟨#[]⟩,.int .i64 0,.slice none 0 0,.int .i64 0,.int .i64 0,.int .i64 0] 50)
   replace hz:w.heap.size+2≤(World.alloc wd (.cells #[.int .i64 0,.int .i64 0,.int .i64 0,.int .i64 0,.int .i64 0,.int .i64 0,.int .i64 0,.int .i64 0,.int .i64 0,.int .i64 0,.int .i64 0,.string ⟨#[]⟩,.string ⟨#[]⟩,.int .i64 0,.slice none 0 0,.int .i64 0,.int .i64 0,.int .i64 0] 50)).heap.size:=by simp;omega
   revert hHeld O hgo X R kk hz
   generalize World.alloc wd _=w12
   generalize wd.heap.size=go
   intro hHeld O hgo X R kk hz
   refine two_op (i:=1) (j:=5) rfl rfl (by kernel_rfl) (by rfl) (by rfl) ?_ ?_
   ·(intro K hK;go_simp;(go_at_call 54;(with_reducible refine (Hof.out _ kk).mono ?_);rintro e w13 ⟨rfl,hb12⟩;replace X:=X.keep hb12;replace R:=R.keep hb12;replace O:=O.keep hb12;replace kk:=below_call kk hb12 kk.size;have hz_12:=hb12.size;replace hz:w.heap.size+2≤w13.heap.size:=(by omega);clear hz_12 hb12);refine hK.out _ _ (X.sm) (fun hHeld2=>?_);clear hK K hHeld;have hHeld:=hHeld2;clear hHeld2;(try simp only [Act.put,sta_,scz_,scs_]))
    (refine call_op (i:=5) rfl (by kernel_rfl) (by rfl) (fun K hK=>?_);go_simp;skip;refine hK.out _ _ ((X.alloc (.cells #[.bool false,.bool false,.bool false,.bool false,.bool false,.bool false] 99)).sm) (fun hHeld2=>?_);clear hK K hHeld;have hHeld:=hHeld2;clear hHeld2;(try simp only [Act.put,sta_,scz_,scs_]))
    have Hh:=Blk.new w13 99 #[.bool false,.bool false,.bool false,.bool false,.bool false,.bool false]
    have hgh:=hz
    have hne:w13.heap.size≠go:=by have:=O.lt;omega
    replace X:=X.alloc (.cells #[.bool false,.bool false,.bool false,.bool false,.bool false,.bool false] 99)
    replace R:=R.alloc (.cells #[.bool false,.bool false,.bool false,.bool false,.bool false,.bool false] 99)
    replace O:=O.alloc (.cells #[.bool false,.bool false,.bool false,.bool false,.bool false,.bool false] 99)
    replace kk:=kk.alloc kk.size (.cells #[.bool false,.bool false,.bool false,.bool false,.bool false,.bool false] 99)
    replace hz:w.heap.size+2≤(World.alloc w13 (.cells #[.bool false,.bool false,.bool false,.bool false,.bool false,.bool false] 99)).heap.size:=by simp;omega
    revert hHeld Hh hgh hne X R O kk hz
    generalize World.alloc w13 _=w14
    generalize w13.heap.size=gh
    intro hHeld Hh hgh hne X R O kk hz
    refine anyH_listed (L':=#[true,true,true,true,true,true,true,false,false]) (by kernel_rfl) ?_
    revert hHeld
    revert hz
    revert kk
    revert hne
    revert hgo
    revert O
    revert hgh
    revert Hh
    revert R
    revert X
    revert go
    revert gh
    revert w14
    exact HJ.out
   ·(intro K hK;go_simp;skip;refine hK.out _ _ ((X.alloc (.cells #[.bool false,.bool false,.bool false,.bool false,.bool false,.bool false] 99)).sm) (fun hHeld2=>?_);clear hK K hHeld;have hHeld:=hHeld2;clear hHeld2;(try simp only [Act.put,sta_,scz_,scs_]))
    have Hh:=Blk.new w12 99 #[.bool false,.bool false,.bool false,.bool false,.bool false,.bool false]
    have hgh:=hz
    have hne:w12.heap.size≠go:=by have:=O.lt;omega
    replace X:=X.alloc (.cells #[.bool false,.bool false,.bool false,.bool false,.bool false,.bool false] 99)
    replace R:=R.alloc (.cells #[.bool false,.bool false,.bool false,.bool false,.bool false,.bool false] 99)
    replace O:=O.alloc (.cells #[.bool false,.bool false,.bool false,.bool false,.bool false,.bool false] 99)
    replace kk:=kk.alloc kk.size (.cells #[.bool false,.bool false,.bool false,.bool false,.bool false,.bool false] 99)
    replace hz:w.heap.size+2≤(World.alloc w12 (.cells #[.bool false,.bool false,.bool false,.bool false,.bool false,.bool false] 99)).heap.size:=by simp;omega
    revert hHeld Hh hgh hne X R O kk hz
    generalize World.alloc w12 _=w15
    generalize w12.heap.size=gh
    intro hHeld Hh hgh hne X R O kk hz
    (refine call_op (i:=1) rfl (by kernel_rfl) (by rfl) (fun K hK=>?_);go_simp;(go_at_call 54;(with_reducible refine (Hof.out _ kk).mono ?_);rintro e w16 ⟨rfl,hb15⟩;replace X:=X.keep hb15;replace R:=R.keep hb15;replace Hh:=Hh.keep hb15;replace O:=O.keep hb15;replace kk:=below_call kk hb15 kk.size;have hz_15:=hb15.size;replace hz:w.heap.size+2≤w16.heap.size:=(by omega);clear hz_15 hb15);refine hK.out _ _ (X.sm) (fun hHeld2=>?_);clear hK K hHeld;have hHeld:=hHeld2;clear hHeld2;(try simp only [Act.put,sta_,scz_,scs_]))
    refine anyH_listed (L':=#[true,true,true,true,true,true,true,false,false]) (by kernel_rfl) ?_
    revert hHeld
    revert hz
    revert kk
    revert hne
    revert hgo
    revert O
    revert hgh
    revert Hh
    revert R
    revert X
    revert go
    revert gh
    revert w16
    exact HJ.out
 ·intro wl gh go X R Hh hgh O hgo hne kk hz hHeld
  have cH:=Hh.cell
  have fH:=Hh.frozen
  have H':Blk ((((((wl.setCell ⟨gh,0,none⟩ (.bool f0)).setCell ⟨gh,1,none⟩ (.bool f1)).setCell ⟨gh,2,none⟩ (.bool f2)).setCell ⟨gh,3,none⟩ (.bool f3)).setCell ⟨gh,4,none⟩ (.bool f4)).setCell ⟨gh,5,none⟩ (.bool f5)) gh 99 #[.bool f0,.bool f1,.bool f2,.bool f3,.bool f4,.bool f5]:=by
   have:=((((((Hh.set_ 0 (.bool f0)).set_ 1 (.bool f1)).set_ 2 (.bool f2)).set_ 3 (.bool f3)).set_ 4 (.bool f4)).set_ 5 (.bool f5))
   simpa using this
  have X':=((((((X.far (p:=⟨gh,0,none⟩) (by simp;omega) (.bool f0)).far (p:=⟨gh,1,none⟩) (by simp;omega) (.bool f1)).far (p:=⟨gh,2,none⟩) (by simp;omega) (.bool f2)).far (p:=⟨gh,3,none⟩) (by simp;omega) (.bool f3)).far (p:=⟨gh,4,none⟩) (by simp;omega) (.bool f4)).far (p:=⟨gh,5,none⟩) (by simp;omega) (.bool f5))
  have R':=((((((R.far (p:=⟨gh,0,none⟩) (by simp;omega) (.bool f0)).far (p:=⟨gh,1,none⟩) (by simp;omega) (.bool f1)).far (p:=⟨gh,2,none⟩) (by simp;omega) (.bool f2)).far (p:=⟨gh,3,none⟩) (by simp;omega) (.bool f3)).far (p:=⟨gh,4,none⟩) (by simp;omega) (.bool f4)).far (p:=⟨gh,5,none⟩) (by simp;omega) (.bool f5))
  have O':=((((((O.far (p:=⟨gh,0,none⟩) (Ne.symm hne) (.bool f0)).far (p:=⟨gh,1,none⟩) (Ne.symm hne) (.bool f1)).far (p:=⟨gh,2,none⟩) (Ne.symm hne) (.bool f2)).far (p:=⟨gh,3,none⟩) (Ne.symm hne) (.bool f3)).far (p:=⟨gh,4,none⟩) (Ne.symm hne) (.bool f4)).far (p:=⟨gh,5,none⟩) (Ne.symm hne) (.bool f5))
  have k':=((((((kk.setCell (p:=⟨gh,0,none⟩) (by simp;omega) (.bool f0)).setCell (p:=⟨gh,1,none⟩) (by simp;omega) (.bool f1)).setCell (p:=⟨gh,2,none⟩) (by simp;omega) (.bool f2)).setCell (p:=⟨gh,3,none⟩) (by simp;omega) (.bool f3)).setCell (p:=⟨gh,4,none⟩) (by simp;omega) (.bool f4)).setCell (p:=⟨gh,5,none⟩) (by simp;omega) (.bool f5))
  (refine call_op (i:=7) rfl (by kernel_rfl) (by rfl) (fun K hK=>?_);go_simp;skip;refine hK.out _ _ (Blk.sm X') (fun hHeld2=>?_);clear hK K hHeld;have hHeld:=hHeld2;clear hHeld2;(try simp only [Act.put,sta_,scz_,scs_]))
  clear cH fH Hh X R O kk hz
  revert hHeld H' X' R' O' k'
  generalize ((((((wl.setCell ⟨gh,0,none⟩ (.bool f0)).setCell ⟨gh,1,none⟩ (.bool f1)).setCell ⟨gh,2,none⟩ (.bool f2)).setCell ⟨gh,3,none⟩ (.bool f3)).setCell ⟨gh,4,none⟩ (.bool f4)).setCell ⟨gh,5,none⟩ (.bool f5))=W9
  intro Hh X R O kk hHeld
  have st:=msg_store O rfl
  (refine call_op (i:=8) rfl (by kernel_rfl) (by rfl) (fun K hK=>?_);go_simp;skip;refine hK.out _ _ (Blk.msgSet_far X (by omega)).sm (fun hHeld2=>?_);clear hK K hHeld;have hHeld:=hHeld2;clear hHeld2;(try simp only [Act.put,sta_,scz_,scs_]))
  clear st
  (refine wpAnyH_done (by kernel_rfl) ?_ _)
  exact FIN _ _ _ (below_msgSet kk (by omega) _) (Blk.msgSet_far X (by omega)) (Blk.msgSet_far R (by omega)) (Blk.msgSet_far Hh hne) (Blk.msgSet O rfl) hgh hgo hne
end Go.Proofs.YtlolnakeancenaaDoor
