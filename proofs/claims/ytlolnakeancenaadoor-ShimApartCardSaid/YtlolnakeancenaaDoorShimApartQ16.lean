/- The walks of msg.of, Same. -/
import Derived.Test.YtlolnakeancenaaDoorShimApartQ12
import Derived.WalkKit
import Derived.WalkSpells
import Derived.WalkLawsBesides
import Derived.Deep.RegionHeld3
import Derived.Deep.DrawnRows
import Derived.Deep.DeepCutAuto
import Derived.Deep.DeepFit
import Derived.Lib.Hide
import Derived.BigQuiet
import Derived.Deep.QuietTactic
namespace Go.Proofs.YtlolnakeancenaaDoor
open Go.RowKit
set_option linter.unusedVariables false
set_option linter.unusedSimpArgs false
set_option maxRecDepth 20000
attribute [local go_sem ↓] Go.wp_at_zero Go.wp_at_succ
attribute [local go_sem] World.cell?_alloc_some frozen_alloc_some
attribute [local go_sem ↓ high] loadVar_msg storeVar_msg msg_store_new
set_option maxHeartbeats 4000000 in
theorem of_any (M:MsgT) (w:World) (hk:1≤M.k∧M.k<10) (hK:KindsAt w):
  Calls Tryd.prog 54 #[M.v] w (Gives w (.agg #[.bool (kId M.k),.bool (kBal M.k),.bool (kSt M.k),.bool (kCmd M.k M.st),.bool (kAt M.k M.st),.bool (kVer M.k)])):=by
 obtain ⟨k,i,n,br,bb,tr,tb,st,ck,cc,cq,cy,cx,cr,A,m,cap,sq,tg,ver,l⟩:=M
 simp only [MsgT.v] at hk ⊢
 obtain ⟨kn,rfl⟩:∃kn:Nat,k=(kn:Int):=⟨k.toNat,by omega⟩
 have hkn:kn<10:=by omega
 have q0:w.cell? ⟨0,kn*6,none⟩=some (.bool (kId (kn:Int))):=hK kn 0 _ hkn rfl
 have q1:w.cell? ⟨0,kn*6+1,none⟩=some (.bool (kBal (kn:Int))):=hK kn 1 _ hkn rfl
 have q2:w.cell? ⟨0,kn*6+2,none⟩=some (.bool (kSt (kn:Int))):=hK kn 2 _ hkn rfl
 have q3:w.cell? ⟨0,kn*6+3,none⟩=some (.bool (kCmd0 (kn:Int))):=hK kn 3 _ hkn rfl
 have q4:w.cell? ⟨0,kn*6+4,none⟩=some (.bool (kAt0 (kn:Int))):=hK kn 4 _ hkn rfl
 have q5:w.cell? ⟨0,kn*6+5,none⟩=some (.bool (kVer (kn:Int))):=hK kn 5 _ hkn rfl
 unfold kCmd kAt
 have hks:((kn:Int)==7)=kSt kn:=rfl
 rw [hks]
 generalize kId (kn:Int)=f0 at*
 generalize kBal (kn:Int)=f1 at*
 generalize kSt (kn:Int)=f2 at*
 generalize kCmd0 (kn:Int)=f3 at*
 generalize kAt0 (kn:Int)=f4 at*
 generalize kVer (kn:Int)=f5 at*
 have k0:(0:Int)≤(kn:Int):=by omega
 have k1:(kn:Int)<10:=by omega
 clear hK hk hks
 have hl:=fun (W:World) (h:Blk W w.heap.size 50 #[.int .i64 (kn:Int),.int .i64 i,.int .i64 n,.int .i64 br,.int .i64 bb,.int .i64 tr,.int .i64 tb,.int .i64 st,.int .i64 ck,.int .i64 cc,.int .i64 cq,.string cy,.string cx,.int .i64 cr,.slice A m cap,.int .i64 sq,.int .i64 tg,.int .i64 ver])=>msg_load h
 cases f2
 ·go_enter Tryd.func54,Tryd.ntmps54
  go_wp2_with fail
  refine bodyPost_ret (v:=.agg #[.bool f0,.bool f1,.bool false,.bool f3,.bool f4,.bool f5]) (by simp [results,Tryd.results54,go_sem, *] <;> rfl) rfl ?_
  exact ⟨by simp,blw⟩
 ·by_cases h0:st=0
  ·subst h0
   go_enter Tryd.func54,Tryd.ntmps54
   go_wp2_with fail
   refine bodyPost_ret (v:=.agg #[.bool f0,.bool f1,.bool true,.bool false,.bool false,.bool f5]) (by simp [results,Tryd.results54,go_sem, *] <;> rfl) rfl ?_
   exact ⟨by simp,blw⟩
  ·have h0':(st==0)=false:=by simpa using h0
   go_enter Tryd.func54,Tryd.ntmps54
   go_wp2_with fail
   refine bodyPost_ret (v:=.agg #[.bool f0,.bool f1,.bool true,.bool f3,.bool f4,.bool f5]) (by simp [results,Tryd.results54,go_sem, *] <;> rfl) rfl ?_
   exact ⟨by simp [h0'],blw⟩
/-- Are two messages the same? -/
def msame (a b:MsgT):Bool:=a.k==b.k&&((a.i==b.i&&a.n==b.n)&&((a.br==b.br&&a.bb==b.bb)&&((a.tr==b.tr&&a.tb==b.tb)&&(a.st==b.st&&(ceq a.ck a.cc a.cq a.cy a.cx a.cr b.ck b.cc b.cq b.cy b.cx b.cr&&(asame a.p b.p&&a.ver==b.ver))))))
attribute [local go_sem ↓ high] id_neq_run id_eql_run bal_eql_run bal_neq_run cmd_neq_run cmd_eql_run
set_option maxHeartbeats 4000000 in
theorem msgsame_any (a b:MsgT) (w:World) (ha:IdsAt w a.A a.m a.l) (hb:IdsAt w b.A b.m b.l):Calls Tryd.prog 20 #[a.v,b.v] w (Gives w (.bool (msame a b))):=by
 have h:=fun W (hW:Below w.heap.size w W)=>attrsame_any a.A b.A a.m a.cap b.m b.cap a.sq a.tg b.sq b.tg a.l b.l W (ha.keep hW) (hb.keep hW)
 clear ha hb
 obtain ⟨k,i,n,br,bb,tr,tb,st,ck,cc,cq,cy,cx,cr,A,m,cap,sq,tg,ver,l⟩:=a
 obtain ⟨k2,i2,n2,br2,bb2,tr2,tb2,st2,ck2,cc2,cq2,cy2,cx2,cr2,A2,m2,cap2,sq2,tg2,ver2,l2⟩:=b
 simp only [msame,MsgT.v,MsgT.p] at h ⊢
 generalize asame ⟨l,sq,tg⟩ ⟨l2,sq2,tg2⟩=Z at h ⊢
 have Hh:=Lib.hid h
 clear h
 cases e0:(k==k2)
 ·go_enter Tryd.func20,Tryd.ntmps20
  go_wp2_with fail
  go_ret
  exact ⟨by simp,blw⟩
 cases e1:(i==i2&&n==n2)
 ·go_enter Tryd.func20,Tryd.ntmps20
  go_wp2_with fail
  go_ret
  exact ⟨by simp,blw⟩
 cases e3:(br==br2&&bb==bb2)
 ·go_enter Tryd.func20,Tryd.ntmps20
  go_wp2_with fail
  go_ret
  exact ⟨by simp,blw⟩
 cases e4:(tr==tr2&&tb==tb2)
 ·go_enter Tryd.func20,Tryd.ntmps20
  go_wp2_with fail
  go_ret
  exact ⟨by simp,blw⟩
 cases e2:(st==st2)
 ·go_enter Tryd.func20,Tryd.ntmps20
  go_wp2_with fail
  go_ret
  exact ⟨by simp,blw⟩
 cases e5:ceq ck cc cq cy cx cr ck2 cc2 cq2 cy2 cx2 cr2
 ·go_enter Tryd.func20,Tryd.ntmps20
  go_wp2_with fail
  go_ret
  exact ⟨by simp,blw⟩
 have k0:Below w.heap.size w ((w.alloc (.cells #[.int .i64 k,.int .i64 i,.int .i64 n,.int .i64 br,.int .i64 bb,.int .i64 tr,.int .i64 tb,.int .i64 st,.int .i64 ck,.int .i64 cc,.int .i64 cq,.string cy,.string cx,.int .i64 cr,.slice A m cap,.int .i64 sq,.int .i64 tg,.int .i64 ver] 50)).alloc (.cells #[.int .i64 k2,.int .i64 i2,.int .i64 n2,.int .i64 br2,.int .i64 bb2,.int .i64 tr2,.int .i64 tb2,.int .i64 st2,.int .i64 ck2,.int .i64 cc2,.int .i64 cq2,.string cy2,.string cx2,.int .i64 cr2,.slice A2 m2 cap2,.int .i64 sq2,.int .i64 tg2,.int .i64 ver2] 50)):=blw
 have B0:Blk ((w.alloc (.cells #[.int .i64 k,.int .i64 i,.int .i64 n,.int .i64 br,.int .i64 bb,.int .i64 tr,.int .i64 tb,.int .i64 st,.int .i64 ck,.int .i64 cc,.int .i64 cq,.string cy,.string cx,.int .i64 cr,.slice A m cap,.int .i64 sq,.int .i64 tg,.int .i64 ver] 50)).alloc (.cells #[.int .i64 k2,.int .i64 i2,.int .i64 n2,.int .i64 br2,.int .i64 bb2,.int .i64 tr2,.int .i64 tb2,.int .i64 st2,.int .i64 ck2,.int .i64 cc2,.int .i64 cq2,.string cy2,.string cx2,.int .i64 cr2,.slice A2 m2 cap2,.int .i64 sq2,.int .i64 tg2,.int .i64 ver2] 50)) w.heap.size 50 #[.int .i64 k,.int .i64 i,.int .i64 n,.int .i64 br,.int .i64 bb,.int .i64 tr,.int .i64 tb,.int .i64 st,.int .i64 ck,.int .i64 cc,.int .i64 cq,.string cy,.string cx,.int .i64 cr,.slice A m cap,.int .i64 sq,.int .i64 tg,.int .i64 ver]:=(Blk.new w _ _).alloc _
 have B1:Blk ((w.alloc (.cells #[.int .i64 k,.int .i64 i,.int .i64 n,.int .i64 br,.int .i64 bb,.int .i64 tr,.int .i64 tb,.int .i64 st,.int .i64 ck,.int .i64 cc,.int .i64 cq,.string cy,.string cx,.int .i64 cr,.slice A m cap,.int .i64 sq,.int .i64 tg,.int .i64 ver] 50)).alloc (.cells #[.int .i64 k2,.int .i64 i2,.int .i64 n2,.int .i64 br2,.int .i64 bb2,.int .i64 tr2,.int .i64 tb2,.int .i64 st2,.int .i64 ck2,.int .i64 cc2,.int .i64 cq2,.string cy2,.string cx2,.int .i64 cr2,.slice A2 m2 cap2,.int .i64 sq2,.int .i64 tg2,.int .i64 ver2] 50)) (w.heap.size+1) 50 #[.int .i64 k2,.int .i64 i2,.int .i64 n2,.int .i64 br2,.int .i64 bb2,.int .i64 tr2,.int .i64 tb2,.int .i64 st2,.int .i64 ck2,.int .i64 cc2,.int .i64 cq2,.string cy2,.string cx2,.int .i64 cr2,.slice A2 m2 cap2,.int .i64 sq2,.int .i64 tg2,.int .i64 ver2]:=Blk.newAt (by simp)
 cases Z
 all_goals
  go_enter Tryd.func20,Tryd.ntmps20
  go_wp2_with (go_at_call 37;refine (Hh.out _ k0).mono ?_;rintro e w1 ⟨rfl,hb1⟩;have c0:=(B0.keep hb1).cell;have c1:=(B1.keep hb1).cell;have k1:=below_call k0 hb1 k0.size)
  go_ret
  exact ⟨by simp,k1⟩
end Go.Proofs.YtlolnakeancenaaDoor
