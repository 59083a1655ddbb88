/- The walks of msg.right, Check. -/
import Derived.Test.YtlolnakeancenaaDoorShimApartQ21
import Derived.Test.YtlolnakeancenaaDoorShimApartQ23
import Derived.WalkKit
import Derived.WalkSpells
import Derived.WalkLawsBesides
import Derived.Deep.RegionHeld3
import Derived.Deep.DrawnRows
import Derived.Deep.DeepCutAuto
import Derived.Deep.DeepFit
import Derived.Lib.Hide
import Derived.BigQuiet
import Derived.Deep.QuietTactic
namespace Go.Proofs.YtlolnakeancenaaDoor
open Go.RowKit
set_option linter.unusedVariables false
set_option linter.unusedSimpArgs false
set_option maxRecDepth 20000
attribute [local go_sem ↓] Go.wp_at_zero Go.wp_at_succ
attribute [local go_sem] World.cell?_alloc_some frozen_alloc_some
attribute [local go_sem ↓ high] loadVar_msg storeVar_msg msg_store_new
def MsgT.r (a:MsgT):RecT:=⟨a.i,a.n,a.st,a.br,a.bb,a.tr,a.tb,a.ck,a.cc,a.cq,a.cy,a.cx,a.cr,a.A,a.m,a.cap,a.sq,a.tg,a.l⟩
theorem MsgT.Ok.toRec {w:World} {a:MsgT} (h:a.Ok w):a.r.Ok w:=⟨h.i,h.n,h.st,h.br,h.bb,h.tr,h.tb,h.ck,h.cc,h.cq,h.cy,h.cx,h.cr,h.m,h.cap,h.l,h.sq,h.tg⟩
def mrightF (f0 f1 f2 f3 f4 f5 r1 r2:Bool) (e3 e4:Nat) (r5 r6:Bool) (ver:Int):Bool:=
 if ((f0&& !r1)||(f1&& !r2)||(f3&&e3 != 0))=true then false else if (f4&&(e4 != 0||r5))=true then false else if f2=true then r6 else if f5=true then (ver==1||ver==2) else true
/-- Is what a message has right? -/
def mright (a:MsgT):Bool:=
 mrightF (kId a.k) (kBal a.k) (kSt a.k) (kCmd a.k a.st) (kAt a.k a.st) (kVer a.k) (idRight (a.i,a.n)) (rightB a.br a.bb) (ccheck a.ck a.cc a.cq a.cy a.cx a.cr) (acheck a.p) (decide ((a.i,a.n)∈a.l)) (recOk a.r) a.ver
set_option maxHeartbeats 16000000 in
theorem right10_any (M:MsgT) (w:World) (hk:1≤M.k∧M.k<10) (hK:KindsAt w) (ha:M.Ok w) (hT:Tabs w):Calls Tryd.prog 44 #[M.v] w (Gives w (.bool (mright M))):=by
 have hof:=fun W (h:Below w.heap.size w W)=>of_any M W hk (hK.keep h)
 have hfl:=flags_of (st:=M.st) hk
 have h3:=fun W (h:Below w.heap.size w W)=>check6_any M.ck M.cc M.cq M.cy M.cx M.cr W ha.cy ha.cx (hT.keep h)
 have h4:=fun W (h:Below w.heap.size w W)=>attrcheck_any M.A M.m M.cap M.sq M.tg M.l W (ha.l.keep h)
 have h5:=fun W (h:Below w.heap.size w W)=>fun (hs:acheck M.p=0)=>has_any M.A M.m M.cap M.l M.i M.n W (ha.l.keep h) (acheck_iff.1 hs).2
 have h6:=fun W (h:Below w.heap.size w W)=>reccheck_any M.r W (ha.toRec.keep h) (hT.keep h)
 have h1:=fun W=>idright_any M.i M.n W
 have h2:=fun W=>right_any M.br M.bb W
 obtain ⟨RES,hRES⟩:∃b,mright M=b:=⟨_,rfl⟩
 rw [hRES]
 unfold mright at hRES
 clear hk hK ha hT
 obtain ⟨k,i,n,br,bb,tr,tb,st,ck,cc,cq,cy,cx,cr,A,m,cap,sq,tg,ver,l⟩:=M
 simp only [MsgT.v,MsgT.p,MsgT.r,RecT.v] at hof hfl h1 h2 h3 h4 h5 h6 hRES ⊢
 generalize kId k=f0 at*
 generalize kBal k=f1 at*
 generalize kSt k=f2 at*
 generalize kCmd k st=f3 at*
 generalize kAt k st=f4 at*
 generalize kVer k=f5 at*
 generalize idRight (i,n)=r1 at*
 generalize rightB br bb=r2 at*
 generalize ccheck ck cc cq cy cx cr=e3 at*
 generalize acheck ⟨l,sq,tg⟩=e4 at*
 generalize decide ((i,n)∈l)=r5 at*
 generalize recOk _=r6 at*
 have HRES:=Lib.hid hRES
 have Hof:=Lib.hid hof
 have Hfl:=Lib.hid hfl
 have H1:=Lib.hid h1
 have H2:=Lib.hid h2
 have H3:=Lib.hid h3
 have H4:=Lib.hid h4
 have H5:=Lib.hid h5
 have H6:=Lib.hid h6
 clear hof hfl h1 h2 h3 h4 h5 h6 hRES
 have X:Blk (w.alloc (.cells #[.int .i64 k,.int .i64 i,.int .i64 n,.int .i64 br,.int .i64 bb,.int .i64 tr,.int .i64 tb,.int .i64 st,.int .i64 ck,.int .i64 cc,.int .i64 cq,.string cy,.string cx,.int .i64 cr,.slice A m cap,.int .i64 sq,.int .i64 tg,.int .i64 ver] 50)) w.heap.size 50 #[.int .i64 k,.int .i64 i,.int .i64 n,.int .i64 br,.int .i64 bb,.int .i64 tr,.int .i64 tb,.int .i64 st,.int .i64 ck,.int .i64 cc,.int .i64 cq,.string cy,.string cx,.int .i64 cr,.slice A m cap,.int .i64 sq,.int .i64 tg,.int .i64 ver]:=Blk.new w _ _
 have kk:Below w.heap.size w (w.alloc (.cells #[.int .i64 k,.int .i64 i,.int .i64 n,.int .i64 br,.int .i64 bb,.int .i64 tr,.int .i64 tb,.int .i64 st,.int .i64 ck,.int .i64 cc,.int .i64 cq,.string cy,.string cx,.int .i64 cr,.slice A m cap,.int .i64 sq,.int .i64 tg,.int .i64 ver] 50)):=below_one _
 have lx:=msg_load X
 go_enter Tryd.func44,Tryd.ntmps44
 go_upto_region 2 with (go_at_call 54;(with_reducible refine (Hof.out _ kk).mono ?_);rintro e w1 ⟨rfl,hb1⟩;replace X:=X.keep hb1;replace kk:=below_call kk hb1 kk.size;clear hb1)
 clear lx
 have Hh:=Blk.new w1 99 #[.bool f0,.bool f1,.bool f2,.bool f3,.bool f4,.bool f5]
 replace X:=X.alloc (.cells #[.bool f0,.bool f1,.bool f2,.bool f3,.bool f4,.bool f5] 99)
 replace kk:=kk.alloc kk.size (.cells #[.bool f0,.bool f1,.bool f2,.bool f3,.bool f4,.bool f5] 99)
 revert Hh X kk
 generalize World.alloc w1 _=W
 generalize w1.heap.size=gh
 intro Hh X kk
 have cX:=X.cell
 have cH:=Hh.cell
 rcases Hfl.out with ⟨rfl,rfl,rfl,rfl,rfl,rfl⟩|⟨rfl,rfl,rfl,rfl,rfl,rfl⟩|⟨rfl,rfl,rfl,rfl,rfl,rfl⟩|⟨rfl,rfl,rfl,rfl,rfl,rfl⟩|⟨rfl,rfl,rfl,rfl,rfl,rfl⟩|⟨rfl,rfl,rfl,rfl,rfl,rfl⟩|⟨rfl,rfl,rfl,rfl,rfl,rfl⟩
 ·cases r1
  ·go_wp2_with (first|(go_at_call 67;(with_reducible refine (H1.out _).mono ?_);rintro e w2 ⟨rfl,hb2⟩;replace X:=X.keep hb2;replace Hh:=Hh.keep hb2;replace kk:=below_call kk hb2 kk.size;clear cX cH hb2;have cX:=X.cell;have cH:=Hh.cell))
   go_ret
   exact ⟨by rw [←HRES.out];simp [mrightF],kk⟩
  cases r2
  ·go_wp2_with (first|(go_at_call 67;(with_reducible refine (H1.out _).mono ?_);rintro e w2 ⟨rfl,hb2⟩;replace X:=X.keep hb2;replace Hh:=Hh.keep hb2;replace kk:=below_call kk hb2 kk.size;clear cX cH hb2;have cX:=X.cell;have cH:=Hh.cell)|(go_at_call 68;(with_reducible refine (H2.out _).mono ?_);rintro e w2 ⟨rfl,hb2⟩;replace X:=X.keep hb2;replace Hh:=Hh.keep hb2;replace kk:=below_call kk hb2 kk.size;clear cX cH hb2;have cX:=X.cell;have cH:=Hh.cell))
   go_ret
   exact ⟨by rw [←HRES.out];simp [mrightF],kk⟩
  by_cases ze3:e3=0
  case neg=>
   have ze3':((e3:Int) != 0)=true:=by simp;omega
   have ze3'':(e3 != 0)=true:=by simp;omega
   go_wp2_with (first|(go_at_call 67;(with_reducible refine (H1.out _).mono ?_);rintro e w2 ⟨rfl,hb2⟩;replace X:=X.keep hb2;replace Hh:=Hh.keep hb2;replace kk:=below_call kk hb2 kk.size;clear cX cH hb2;have cX:=X.cell;have cH:=Hh.cell)|(go_at_call 68;(with_reducible refine (H2.out _).mono ?_);rintro e w2 ⟨rfl,hb2⟩;replace X:=X.keep hb2;replace Hh:=Hh.keep hb2;replace kk:=below_call kk hb2 kk.size;clear cX cH hb2;have cX:=X.cell;have cH:=Hh.cell)|(go_at_call 69;(with_reducible refine (H3.out _ kk).mono ?_);rintro e w2 ⟨rfl,hb2⟩;replace X:=X.keep hb2;replace Hh:=Hh.keep hb2;replace kk:=below_call kk hb2 kk.size;clear cX cH hb2;have cX:=X.cell;have cH:=Hh.cell))
   go_ret
   exact ⟨by rw [←HRES.out];simp [mrightF,ze3''],kk⟩
  subst ze3
  by_cases ze4:e4=0
  case neg=>
   have ze4':((e4:Int) != 0)=true:=by simp;omega
   have ze4'':(e4 != 0)=true:=by simp;omega
   go_wp2_with (first|(go_at_call 67;(with_reducible refine (H1.out _).mono ?_);rintro e w2 ⟨rfl,hb2⟩;replace X:=X.keep hb2;replace Hh:=Hh.keep hb2;replace kk:=below_call kk hb2 kk.size;clear cX cH hb2;have cX:=X.cell;have cH:=Hh.cell)|(go_at_call 68;(with_reducible refine (H2.out _).mono ?_);rintro e w2 ⟨rfl,hb2⟩;replace X:=X.keep hb2;replace Hh:=Hh.keep hb2;replace kk:=below_call kk hb2 kk.size;clear cX cH hb2;have cX:=X.cell;have cH:=Hh.cell)|(go_at_call 69;(with_reducible refine (H3.out _ kk).mono ?_);rintro e w2 ⟨rfl,hb2⟩;replace X:=X.keep hb2;replace Hh:=Hh.keep hb2;replace kk:=below_call kk hb2 kk.size;clear cX cH hb2;have cX:=X.cell;have cH:=Hh.cell)|(go_at_call 70;(with_reducible refine (H4.out _ kk).mono ?_);rintro e w2 ⟨rfl,hb2⟩;replace X:=X.keep hb2;replace Hh:=Hh.keep hb2;replace kk:=below_call kk hb2 kk.size;clear cX cH hb2;have cX:=X.cell;have cH:=Hh.cell))
   go_ret
   exact ⟨by rw [←HRES.out];simp [mrightF,ze4''],kk⟩
  subst ze4
  cases r5
  rotate_left
  ·go_wp2_with (first|(go_at_call 67;(with_reducible refine (H1.out _).mono ?_);rintro e w2 ⟨rfl,hb2⟩;replace X:=X.keep hb2;replace Hh:=Hh.keep hb2;replace kk:=below_call kk hb2 kk.size;clear cX cH hb2;have cX:=X.cell;have cH:=Hh.cell)|(go_at_call 68;(with_reducible refine (H2.out _).mono ?_);rintro e w2 ⟨rfl,hb2⟩;replace X:=X.keep hb2;replace Hh:=Hh.keep hb2;replace kk:=below_call kk hb2 kk.size;clear cX cH hb2;have cX:=X.cell;have cH:=Hh.cell)|(go_at_call 69;(with_reducible refine (H3.out _ kk).mono ?_);rintro e w2 ⟨rfl,hb2⟩;replace X:=X.keep hb2;replace Hh:=Hh.keep hb2;replace kk:=below_call kk hb2 kk.size;clear cX cH hb2;have cX:=X.cell;have cH:=Hh.cell)|(go_at_call 70;(with_reducible refine (H4.out _ kk).mono ?_);rintro e w2 ⟨rfl,hb2⟩;replace X:=X.keep hb2;replace Hh:=Hh.keep hb2;replace kk:=below_call kk hb2 kk.size;clear cX cH hb2;have cX:=X.cell;have cH:=Hh.cell)|(go_at_call 71;(with_reducible refine (H5.out _ kk (by first|trivial|rfl)).mono ?_);rintro e w2 ⟨rfl,hb2⟩;replace X:=X.keep hb2;replace Hh:=Hh.keep hb2;replace kk:=below_call kk hb2 kk.size;clear cX cH hb2;have cX:=X.cell;have cH:=Hh.cell))
   go_ret
   exact ⟨by rw [←HRES.out];simp [mrightF],kk⟩
  go_wp2_with (first|(go_at_call 67;(with_reducible refine (H1.out _).mono ?_);rintro e w2 ⟨rfl,hb2⟩;replace X:=X.keep hb2;replace Hh:=Hh.keep hb2;replace kk:=below_call kk hb2 kk.size;clear cX cH hb2;have cX:=X.cell;have cH:=Hh.cell)|(go_at_call 68;(with_reducible refine (H2.out _).mono ?_);rintro e w2 ⟨rfl,hb2⟩;replace X:=X.keep hb2;replace Hh:=Hh.keep hb2;replace kk:=below_call kk hb2 kk.size;clear cX cH hb2;have cX:=X.cell;have cH:=Hh.cell)|(go_at_call 69;(with_reducible refine (H3.out _ kk).mono ?_);rintro e w2 ⟨rfl,hb2⟩;replace X:=X.keep hb2;replace Hh:=Hh.keep hb2;replace kk:=below_call kk hb2 kk.size;clear cX cH hb2;have cX:=X.cell;have cH:=Hh.cell)|(go_at_call 70;(with_reducible refine (H4.out _ kk).mono ?_);rintro e w2 ⟨rfl,hb2⟩;replace X:=X.keep hb2;replace Hh:=Hh.keep hb2;replace kk:=below_call kk hb2 kk.size;clear cX cH hb2;have cX:=X.cell;have cH:=Hh.cell)|(go_at_call 71;(with_reducible refine (H5.out _ kk (by first|trivial|rfl)).mono ?_);rintro e w2 ⟨rfl,hb2⟩;replace X:=X.keep hb2;replace Hh:=Hh.keep hb2;replace kk:=below_call kk hb2 kk.size;clear cX cH hb2;have cX:=X.cell;have cH:=Hh.cell))
  go_ret
  exact ⟨by rw [←HRES.out];simp [mrightF],kk⟩
 ·cases r1
  ·go_wp2_with (first|(go_at_call 67;(with_reducible refine (H1.out _).mono ?_);rintro e w2 ⟨rfl,hb2⟩;replace X:=X.keep hb2;replace Hh:=Hh.keep hb2;replace kk:=below_call kk hb2 kk.size;clear cX cH hb2;have cX:=X.cell;have cH:=Hh.cell))
   go_ret
   exact ⟨by rw [←HRES.out];simp [mrightF],kk⟩
  cases r2
  ·go_wp2_with (first|(go_at_call 67;(with_reducible refine (H1.out _).mono ?_);rintro e w2 ⟨rfl,hb2⟩;replace X:=X.keep hb2;replace Hh:=Hh.keep hb2;replace kk:=below_call kk hb2 kk.size;clear cX cH hb2;have cX:=X.cell;have cH:=Hh.cell)|(go_at_call 68;(with_reducible refine (H2.out _).mono ?_);rintro e w2 ⟨rfl,hb2⟩;replace X:=X.keep hb2;replace Hh:=Hh.keep hb2;replace kk:=below_call kk hb2 kk.size;clear cX cH hb2;have cX:=X.cell;have cH:=Hh.cell))
   go_ret
   exact ⟨by rw [←HRES.out];simp [mrightF],kk⟩
  by_cases ze4:e4=0
  case neg=>
   have ze4':((e4:Int) != 0)=true:=by simp;omega
   have ze4'':(e4 != 0)=true:=by simp;omega
   go_wp2_with (first|(go_at_call 67;(with_reducible refine (H1.out _).mono ?_);rintro e w2 ⟨rfl,hb2⟩;replace X:=X.keep hb2;replace Hh:=Hh.keep hb2;replace kk:=below_call kk hb2 kk.size;clear cX cH hb2;have cX:=X.cell;have cH:=Hh.cell)|(go_at_call 68;(with_reducible refine (H2.out _).mono ?_);rintro e w2 ⟨rfl,hb2⟩;replace X:=X.keep hb2;replace Hh:=Hh.keep hb2;replace kk:=below_call kk hb2 kk.size;clear cX cH hb2;have cX:=X.cell;have cH:=Hh.cell)|(go_at_call 70;(with_reducible refine (H4.out _ kk).mono ?_);rintro e w2 ⟨rfl,hb2⟩;replace X:=X.keep hb2;replace Hh:=Hh.keep hb2;replace kk:=below_call kk hb2 kk.size;clear cX cH hb2;have cX:=X.cell;have cH:=Hh.cell))
   go_ret
   exact ⟨by rw [←HRES.out];simp [mrightF,ze4''],kk⟩
  subst ze4
  cases r5
  rotate_left
  ·go_wp2_with (first|(go_at_call 67;(with_reducible refine (H1.out _).mono ?_);rintro e w2 ⟨rfl,hb2⟩;replace X:=X.keep hb2;replace Hh:=Hh.keep hb2;replace kk:=below_call kk hb2 kk.size;clear cX cH hb2;have cX:=X.cell;have cH:=Hh.cell)|(go_at_call 68;(with_reducible refine (H2.out _).mono ?_);rintro e w2 ⟨rfl,hb2⟩;replace X:=X.keep hb2;replace Hh:=Hh.keep hb2;replace kk:=below_call kk hb2 kk.size;clear cX cH hb2;have cX:=X.cell;have cH:=Hh.cell)|(go_at_call 70;(with_reducible refine (H4.out _ kk).mono ?_);rintro e w2 ⟨rfl,hb2⟩;replace X:=X.keep hb2;replace Hh:=Hh.keep hb2;replace kk:=below_call kk hb2 kk.size;clear cX cH hb2;have cX:=X.cell;have cH:=Hh.cell)|(go_at_call 71;(with_reducible refine (H5.out _ kk (by first|trivial|rfl)).mono ?_);rintro e w2 ⟨rfl,hb2⟩;replace X:=X.keep hb2;replace Hh:=Hh.keep hb2;replace kk:=below_call kk hb2 kk.size;clear cX cH hb2;have cX:=X.cell;have cH:=Hh.cell))
   go_ret
   exact ⟨by rw [←HRES.out];simp [mrightF],kk⟩
  go_wp2_with (first|(go_at_call 67;(with_reducible refine (H1.out _).mono ?_);rintro e w2 ⟨rfl,hb2⟩;replace X:=X.keep hb2;replace Hh:=Hh.keep hb2;replace kk:=below_call kk hb2 kk.size;clear cX cH hb2;have cX:=X.cell;have cH:=Hh.cell)|(go_at_call 68;(with_reducible refine (H2.out _).mono ?_);rintro e w2 ⟨rfl,hb2⟩;replace X:=X.keep hb2;replace Hh:=Hh.keep hb2;replace kk:=below_call kk hb2 kk.size;clear cX cH hb2;have cX:=X.cell;have cH:=Hh.cell)|(go_at_call 70;(with_reducible refine (H4.out _ kk).mono ?_);rintro e w2 ⟨rfl,hb2⟩;replace X:=X.keep hb2;replace Hh:=Hh.keep hb2;replace kk:=below_call kk hb2 kk.size;clear cX cH hb2;have cX:=X.cell;have cH:=Hh.cell)|(go_at_call 71;(with_reducible refine (H5.out _ kk (by first|trivial|rfl)).mono ?_);rintro e w2 ⟨rfl,hb2⟩;replace X:=X.keep hb2;replace Hh:=Hh.keep hb2;replace kk:=below_call kk hb2 kk.size;clear cX cH hb2;have cX:=X.cell;have cH:=Hh.cell))
  go_ret
  exact ⟨by rw [←HRES.out];simp [mrightF],kk⟩
 ·cases r1
  ·go_wp2_with (first|(go_at_call 67;(with_reducible refine (H1.out _).mono ?_);rintro e w2 ⟨rfl,hb2⟩;replace X:=X.keep hb2;replace Hh:=Hh.keep hb2;replace kk:=below_call kk hb2 kk.size;clear cX cH hb2;have cX:=X.cell;have cH:=Hh.cell))
   go_ret
   exact ⟨by rw [←HRES.out];simp [mrightF],kk⟩
  cases r2
  ·go_wp2_with (first|(go_at_call 67;(with_reducible refine (H1.out _).mono ?_);rintro e w2 ⟨rfl,hb2⟩;replace X:=X.keep hb2;replace Hh:=Hh.keep hb2;replace kk:=below_call kk hb2 kk.size;clear cX cH hb2;have cX:=X.cell;have cH:=Hh.cell)|(go_at_call 68;(with_reducible refine (H2.out _).mono ?_);rintro e w2 ⟨rfl,hb2⟩;replace X:=X.keep hb2;replace Hh:=Hh.keep hb2;replace kk:=below_call kk hb2 kk.size;clear cX cH hb2;have cX:=X.cell;have cH:=Hh.cell))
   go_ret
   exact ⟨by rw [←HRES.out];simp [mrightF],kk⟩
  go_wp2_with (first|(go_at_call 67;(with_reducible refine (H1.out _).mono ?_);rintro e w2 ⟨rfl,hb2⟩;replace X:=X.keep hb2;replace Hh:=Hh.keep hb2;replace kk:=below_call kk hb2 kk.size;clear cX cH hb2;have cX:=X.cell;have cH:=Hh.cell)|(go_at_call 68;(with_reducible refine (H2.out _).mono ?_);rintro e w2 ⟨rfl,hb2⟩;replace X:=X.keep hb2;replace Hh:=Hh.keep hb2;replace kk:=below_call kk hb2 kk.size;clear cX cH hb2;have cX:=X.cell;have cH:=Hh.cell))
  go_ret
  exact ⟨by rw [←HRES.out];simp [mrightF],kk⟩
 ·cases r1
  ·go_wp2_with (first|(go_at_call 67;(with_reducible refine (H1.out _).mono ?_);rintro e w2 ⟨rfl,hb2⟩;replace X:=X.keep hb2;replace Hh:=Hh.keep hb2;replace kk:=below_call kk hb2 kk.size;clear cX cH hb2;have cX:=X.cell;have cH:=Hh.cell))
   go_ret
   exact ⟨by rw [←HRES.out];simp [mrightF],kk⟩
  by_cases ze3:e3=0
  case neg=>
   have ze3':((e3:Int) != 0)=true:=by simp;omega
   have ze3'':(e3 != 0)=true:=by simp;omega
   go_wp2_with (first|(go_at_call 67;(with_reducible refine (H1.out _).mono ?_);rintro e w2 ⟨rfl,hb2⟩;replace X:=X.keep hb2;replace Hh:=Hh.keep hb2;replace kk:=below_call kk hb2 kk.size;clear cX cH hb2;have cX:=X.cell;have cH:=Hh.cell)|(go_at_call 69;(with_reducible refine (H3.out _ kk).mono ?_);rintro e w2 ⟨rfl,hb2⟩;replace X:=X.keep hb2;replace Hh:=Hh.keep hb2;replace kk:=below_call kk hb2 kk.size;clear cX cH hb2;have cX:=X.cell;have cH:=Hh.cell))
   go_ret
   exact ⟨by rw [←HRES.out];simp [mrightF,ze3''],kk⟩
  subst ze3
  by_cases ze4:e4=0
  case neg=>
   have ze4':((e4:Int) != 0)=true:=by simp;omega
   have ze4'':(e4 != 0)=true:=by simp;omega
   go_wp2_with (first|(go_at_call 67;(with_reducible refine (H1.out _).mono ?_);rintro e w2 ⟨rfl,hb2⟩;replace X:=X.keep hb2;replace Hh:=Hh.keep hb2;replace kk:=below_call kk hb2 kk.size;clear cX cH hb2;have cX:=X.cell;have cH:=Hh.cell)|(go_at_call 69;(with_reducible refine (H3.out _ kk).mono ?_);rintro e w2 ⟨rfl,hb2⟩;replace X:=X.keep hb2;replace Hh:=Hh.keep hb2;replace kk:=below_call kk hb2 kk.size;clear cX cH hb2;have cX:=X.cell;have cH:=Hh.cell)|(go_at_call 70;(with_reducible refine (H4.out _ kk).mono ?_);rintro e w2 ⟨rfl,hb2⟩;replace X:=X.keep hb2;replace Hh:=Hh.keep hb2;replace kk:=below_call kk hb2 kk.size;clear cX cH hb2;have cX:=X.cell;have cH:=Hh.cell))
   go_ret
   exact ⟨by rw [←HRES.out];simp [mrightF,ze4''],kk⟩
  subst ze4
  cases r5
  rotate_left
  ·go_wp2_with (first|(go_at_call 67;(with_reducible refine (H1.out _).mono ?_);rintro e w2 ⟨rfl,hb2⟩;replace X:=X.keep hb2;replace Hh:=Hh.keep hb2;replace kk:=below_call kk hb2 kk.size;clear cX cH hb2;have cX:=X.cell;have cH:=Hh.cell)|(go_at_call 69;(with_reducible refine (H3.out _ kk).mono ?_);rintro e w2 ⟨rfl,hb2⟩;replace X:=X.keep hb2;replace Hh:=Hh.keep hb2;replace kk:=below_call kk hb2 kk.size;clear cX cH hb2;have cX:=X.cell;have cH:=Hh.cell)|(go_at_call 70;(with_reducible refine (H4.out _ kk).mono ?_);rintro e w2 ⟨rfl,hb2⟩;replace X:=X.keep hb2;replace Hh:=Hh.keep hb2;replace kk:=below_call kk hb2 kk.size;clear cX cH hb2;have cX:=X.cell;have cH:=Hh.cell)|(go_at_call 71;(with_reducible refine (H5.out _ kk (by first|trivial|rfl)).mono ?_);rintro e w2 ⟨rfl,hb2⟩;replace X:=X.keep hb2;replace Hh:=Hh.keep hb2;replace kk:=below_call kk hb2 kk.size;clear cX cH hb2;have cX:=X.cell;have cH:=Hh.cell))
   go_ret
   exact ⟨by rw [←HRES.out];simp [mrightF],kk⟩
  go_wp2_with (first|(go_at_call 67;(with_reducible refine (H1.out _).mono ?_);rintro e w2 ⟨rfl,hb2⟩;replace X:=X.keep hb2;replace Hh:=Hh.keep hb2;replace kk:=below_call kk hb2 kk.size;clear cX cH hb2;have cX:=X.cell;have cH:=Hh.cell)|(go_at_call 69;(with_reducible refine (H3.out _ kk).mono ?_);rintro e w2 ⟨rfl,hb2⟩;replace X:=X.keep hb2;replace Hh:=Hh.keep hb2;replace kk:=below_call kk hb2 kk.size;clear cX cH hb2;have cX:=X.cell;have cH:=Hh.cell)|(go_at_call 70;(with_reducible refine (H4.out _ kk).mono ?_);rintro e w2 ⟨rfl,hb2⟩;replace X:=X.keep hb2;replace Hh:=Hh.keep hb2;replace kk:=below_call kk hb2 kk.size;clear cX cH hb2;have cX:=X.cell;have cH:=Hh.cell)|(go_at_call 71;(with_reducible refine (H5.out _ kk (by first|trivial|rfl)).mono ?_);rintro e w2 ⟨rfl,hb2⟩;replace X:=X.keep hb2;replace Hh:=Hh.keep hb2;replace kk:=below_call kk hb2 kk.size;clear cX cH hb2;have cX:=X.cell;have cH:=Hh.cell))
  go_ret
  exact ⟨by rw [←HRES.out];simp [mrightF],kk⟩
 ·cases r1
  ·go_wp2_with (first|(go_at_call 67;(with_reducible refine (H1.out _).mono ?_);rintro e w2 ⟨rfl,hb2⟩;replace X:=X.keep hb2;replace Hh:=Hh.keep hb2;replace kk:=below_call kk hb2 kk.size;clear cX cH hb2;have cX:=X.cell;have cH:=Hh.cell))
   go_ret
   exact ⟨by rw [←HRES.out];simp [mrightF],kk⟩
  cases r2
  ·go_wp2_with (first|(go_at_call 67;(with_reducible refine (H1.out _).mono ?_);rintro e w2 ⟨rfl,hb2⟩;replace X:=X.keep hb2;replace Hh:=Hh.keep hb2;replace kk:=below_call kk hb2 kk.size;clear cX cH hb2;have cX:=X.cell;have cH:=Hh.cell)|(go_at_call 68;(with_reducible refine (H2.out _).mono ?_);rintro e w2 ⟨rfl,hb2⟩;replace X:=X.keep hb2;replace Hh:=Hh.keep hb2;replace kk:=below_call kk hb2 kk.size;clear cX cH hb2;have cX:=X.cell;have cH:=Hh.cell))
   go_ret
   exact ⟨by rw [←HRES.out];simp [mrightF],kk⟩
  by_cases ze3:e3=0
  case neg=>
   have ze3':((e3:Int) != 0)=true:=by simp;omega
   have ze3'':(e3 != 0)=true:=by simp;omega
   go_wp2_with (first|(go_at_call 67;(with_reducible refine (H1.out _).mono ?_);rintro e w2 ⟨rfl,hb2⟩;replace X:=X.keep hb2;replace Hh:=Hh.keep hb2;replace kk:=below_call kk hb2 kk.size;clear cX cH hb2;have cX:=X.cell;have cH:=Hh.cell)|(go_at_call 68;(with_reducible refine (H2.out _).mono ?_);rintro e w2 ⟨rfl,hb2⟩;replace X:=X.keep hb2;replace Hh:=Hh.keep hb2;replace kk:=below_call kk hb2 kk.size;clear cX cH hb2;have cX:=X.cell;have cH:=Hh.cell)|(go_at_call 69;(with_reducible refine (H3.out _ kk).mono ?_);rintro e w2 ⟨rfl,hb2⟩;replace X:=X.keep hb2;replace Hh:=Hh.keep hb2;replace kk:=below_call kk hb2 kk.size;clear cX cH hb2;have cX:=X.cell;have cH:=Hh.cell))
   go_ret
   exact ⟨by rw [←HRES.out];simp [mrightF,ze3''],kk⟩
  subst ze3
  by_cases ze4:e4=0
  case neg=>
   have ze4':((e4:Int) != 0)=true:=by simp;omega
   have ze4'':(e4 != 0)=true:=by simp;omega
   go_wp2_with (first|(go_at_call 67;(with_reducible refine (H1.out _).mono ?_);rintro e w2 ⟨rfl,hb2⟩;replace X:=X.keep hb2;replace Hh:=Hh.keep hb2;replace kk:=below_call kk hb2 kk.size;clear cX cH hb2;have cX:=X.cell;have cH:=Hh.cell)|(go_at_call 68;(with_reducible refine (H2.out _).mono ?_);rintro e w2 ⟨rfl,hb2⟩;replace X:=X.keep hb2;replace Hh:=Hh.keep hb2;replace kk:=below_call kk hb2 kk.size;clear cX cH hb2;have cX:=X.cell;have cH:=Hh.cell)|(go_at_call 69;(with_reducible refine (H3.out _ kk).mono ?_);rintro e w2 ⟨rfl,hb2⟩;replace X:=X.keep hb2;replace Hh:=Hh.keep hb2;replace kk:=below_call kk hb2 kk.size;clear cX cH hb2;have cX:=X.cell;have cH:=Hh.cell)|(go_at_call 70;(with_reducible refine (H4.out _ kk).mono ?_);rintro e w2 ⟨rfl,hb2⟩;replace X:=X.keep hb2;replace Hh:=Hh.keep hb2;replace kk:=below_call kk hb2 kk.size;clear cX cH hb2;have cX:=X.cell;have cH:=Hh.cell))
   go_ret
   exact ⟨by rw [←HRES.out];simp [mrightF,ze4''],kk⟩
  subst ze4
  cases r5
  rotate_left
  ·go_wp2_with (first|(go_at_call 67;(with_reducible refine (H1.out _).mono ?_);rintro e w2 ⟨rfl,hb2⟩;replace X:=X.keep hb2;replace Hh:=Hh.keep hb2;replace kk:=below_call kk hb2 kk.size;clear cX cH hb2;have cX:=X.cell;have cH:=Hh.cell)|(go_at_call 68;(with_reducible refine (H2.out _).mono ?_);rintro e w2 ⟨rfl,hb2⟩;replace X:=X.keep hb2;replace Hh:=Hh.keep hb2;replace kk:=below_call kk hb2 kk.size;clear cX cH hb2;have cX:=X.cell;have cH:=Hh.cell)|(go_at_call 69;(with_reducible refine (H3.out _ kk).mono ?_);rintro e w2 ⟨rfl,hb2⟩;replace X:=X.keep hb2;replace Hh:=Hh.keep hb2;replace kk:=below_call kk hb2 kk.size;clear cX cH hb2;have cX:=X.cell;have cH:=Hh.cell)|(go_at_call 70;(with_reducible refine (H4.out _ kk).mono ?_);rintro e w2 ⟨rfl,hb2⟩;replace X:=X.keep hb2;replace Hh:=Hh.keep hb2;replace kk:=below_call kk hb2 kk.size;clear cX cH hb2;have cX:=X.cell;have cH:=Hh.cell)|(go_at_call 71;(with_reducible refine (H5.out _ kk (by first|trivial|rfl)).mono ?_);rintro e w2 ⟨rfl,hb2⟩;replace X:=X.keep hb2;replace Hh:=Hh.keep hb2;replace kk:=below_call kk hb2 kk.size;clear cX cH hb2;have cX:=X.cell;have cH:=Hh.cell))
   go_ret
   exact ⟨by rw [←HRES.out];simp [mrightF],kk⟩
  cases r6
  ·go_wp2_with (first|(go_at_call 67;(with_reducible refine (H1.out _).mono ?_);rintro e w2 ⟨rfl,hb2⟩;replace X:=X.keep hb2;replace Hh:=Hh.keep hb2;replace kk:=below_call kk hb2 kk.size;clear cX cH hb2;have cX:=X.cell;have cH:=Hh.cell)|(go_at_call 68;(with_reducible refine (H2.out _).mono ?_);rintro e w2 ⟨rfl,hb2⟩;replace X:=X.keep hb2;replace Hh:=Hh.keep hb2;replace kk:=below_call kk hb2 kk.size;clear cX cH hb2;have cX:=X.cell;have cH:=Hh.cell)|(go_at_call 69;(with_reducible refine (H3.out _ kk).mono ?_);rintro e w2 ⟨rfl,hb2⟩;replace X:=X.keep hb2;replace Hh:=Hh.keep hb2;replace kk:=below_call kk hb2 kk.size;clear cX cH hb2;have cX:=X.cell;have cH:=Hh.cell)|(go_at_call 70;(with_reducible refine (H4.out _ kk).mono ?_);rintro e w2 ⟨rfl,hb2⟩;replace X:=X.keep hb2;replace Hh:=Hh.keep hb2;replace kk:=below_call kk hb2 kk.size;clear cX cH hb2;have cX:=X.cell;have cH:=Hh.cell)|(go_at_call 71;(with_reducible refine (H5.out _ kk (by first|trivial|rfl)).mono ?_);rintro e w2 ⟨rfl,hb2⟩;replace X:=X.keep hb2;replace Hh:=Hh.keep hb2;replace kk:=below_call kk hb2 kk.size;clear cX cH hb2;have cX:=X.cell;have cH:=Hh.cell)|(go_at_call 72;(with_reducible refine (H6.out _ kk).mono ?_);rintro e w2 ⟨rfl,hb2⟩;replace X:=X.keep hb2;replace Hh:=Hh.keep hb2;replace kk:=below_call kk hb2 kk.size;clear cX cH hb2;have cX:=X.cell;have cH:=Hh.cell))
   go_ret
   exact ⟨by rw [←HRES.out];simp [mrightF,recErr],kk⟩
  ·go_wp2_with (first|(go_at_call 67;(with_reducible refine (H1.out _).mono ?_);rintro e w2 ⟨rfl,hb2⟩;replace X:=X.keep hb2;replace Hh:=Hh.keep hb2;replace kk:=below_call kk hb2 kk.size;clear cX cH hb2;have cX:=X.cell;have cH:=Hh.cell)|(go_at_call 68;(with_reducible refine (H2.out _).mono ?_);rintro e w2 ⟨rfl,hb2⟩;replace X:=X.keep hb2;replace Hh:=Hh.keep hb2;replace kk:=below_call kk hb2 kk.size;clear cX cH hb2;have cX:=X.cell;have cH:=Hh.cell)|(go_at_call 69;(with_reducible refine (H3.out _ kk).mono ?_);rintro e w2 ⟨rfl,hb2⟩;replace X:=X.keep hb2;replace Hh:=Hh.keep hb2;replace kk:=below_call kk hb2 kk.size;clear cX cH hb2;have cX:=X.cell;have cH:=Hh.cell)|(go_at_call 70;(with_reducible refine (H4.out _ kk).mono ?_);rintro e w2 ⟨rfl,hb2⟩;replace X:=X.keep hb2;replace Hh:=Hh.keep hb2;replace kk:=below_call kk hb2 kk.size;clear cX cH hb2;have cX:=X.cell;have cH:=Hh.cell)|(go_at_call 71;(with_reducible refine (H5.out _ kk (by first|trivial|rfl)).mono ?_);rintro e w2 ⟨rfl,hb2⟩;replace X:=X.keep hb2;replace Hh:=Hh.keep hb2;replace kk:=below_call kk hb2 kk.size;clear cX cH hb2;have cX:=X.cell;have cH:=Hh.cell)|(go_at_call 72;(with_reducible refine (H6.out _ kk).mono ?_);rintro e w2 ⟨rfl,hb2⟩;replace X:=X.keep hb2;replace Hh:=Hh.keep hb2;replace kk:=below_call kk hb2 kk.size;clear cX cH hb2;have cX:=X.cell;have cH:=Hh.cell))
   go_ret
   exact ⟨by rw [←HRES.out];simp [mrightF,recErr],kk⟩
 ·cases r1
  ·go_wp2_with (first|(go_at_call 67;(with_reducible refine (H1.out _).mono ?_);rintro e w2 ⟨rfl,hb2⟩;replace X:=X.keep hb2;replace Hh:=Hh.keep hb2;replace kk:=below_call kk hb2 kk.size;clear cX cH hb2;have cX:=X.cell;have cH:=Hh.cell))
   go_ret
   exact ⟨by rw [←HRES.out];simp [mrightF],kk⟩
  cases r2
  ·go_wp2_with (first|(go_at_call 67;(with_reducible refine (H1.out _).mono ?_);rintro e w2 ⟨rfl,hb2⟩;replace X:=X.keep hb2;replace Hh:=Hh.keep hb2;replace kk:=below_call kk hb2 kk.size;clear cX cH hb2;have cX:=X.cell;have cH:=Hh.cell)|(go_at_call 68;(with_reducible refine (H2.out _).mono ?_);rintro e w2 ⟨rfl,hb2⟩;replace X:=X.keep hb2;replace Hh:=Hh.keep hb2;replace kk:=below_call kk hb2 kk.size;clear cX cH hb2;have cX:=X.cell;have cH:=Hh.cell))
   go_ret
   exact ⟨by rw [←HRES.out];simp [mrightF],kk⟩
  cases r6
  ·go_wp2_with (first|(go_at_call 67;(with_reducible refine (H1.out _).mono ?_);rintro e w2 ⟨rfl,hb2⟩;replace X:=X.keep hb2;replace Hh:=Hh.keep hb2;replace kk:=below_call kk hb2 kk.size;clear cX cH hb2;have cX:=X.cell;have cH:=Hh.cell)|(go_at_call 68;(with_reducible refine (H2.out _).mono ?_);rintro e w2 ⟨rfl,hb2⟩;replace X:=X.keep hb2;replace Hh:=Hh.keep hb2;replace kk:=below_call kk hb2 kk.size;clear cX cH hb2;have cX:=X.cell;have cH:=Hh.cell)|(go_at_call 72;(with_reducible refine (H6.out _ kk).mono ?_);rintro e w2 ⟨rfl,hb2⟩;replace X:=X.keep hb2;replace Hh:=Hh.keep hb2;replace kk:=below_call kk hb2 kk.size;clear cX cH hb2;have cX:=X.cell;have cH:=Hh.cell))
   go_ret
   exact ⟨by rw [←HRES.out];simp [mrightF,recErr],kk⟩
  ·go_wp2_with (first|(go_at_call 67;(with_reducible refine (H1.out _).mono ?_);rintro e w2 ⟨rfl,hb2⟩;replace X:=X.keep hb2;replace Hh:=Hh.keep hb2;replace kk:=below_call kk hb2 kk.size;clear cX cH hb2;have cX:=X.cell;have cH:=Hh.cell)|(go_at_call 68;(with_reducible refine (H2.out _).mono ?_);rintro e w2 ⟨rfl,hb2⟩;replace X:=X.keep hb2;replace Hh:=Hh.keep hb2;replace kk:=below_call kk hb2 kk.size;clear cX cH hb2;have cX:=X.cell;have cH:=Hh.cell)|(go_at_call 72;(with_reducible refine (H6.out _ kk).mono ?_);rintro e w2 ⟨rfl,hb2⟩;replace X:=X.keep hb2;replace Hh:=Hh.keep hb2;replace kk:=below_call kk hb2 kk.size;clear cX cH hb2;have cX:=X.cell;have cH:=Hh.cell))
   go_ret
   exact ⟨by rw [←HRES.out];simp [mrightF,recErr],kk⟩
 ·by_cases v1:ver=1
  ·subst v1
   go_wp2_with fail
   go_ret
   exact ⟨by rw [←HRES.out];simp [mrightF],kk⟩
  by_cases v2:ver=2
  ·subst v2
   go_wp2_with fail
   go_ret
   exact ⟨by rw [←HRES.out];simp [mrightF],kk⟩
  have v1':(ver==1)=false:=by simpa using v1
  have v2':(ver==2)=false:=by simpa using v2
  go_wp2_with fail
  go_ret
  exact ⟨by rw [←HRES.out];simp [mrightF,v1',v2'],kk⟩
end Go.Proofs.YtlolnakeancenaaDoor
