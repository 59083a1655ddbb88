/- The walk of msg.read: what any item's parts are read as. -/
import Derived.Test.YtlolnakeancenaaDoorShimApartQ36
import Derived.Test.YtlolnakeancenaaDoorShimApartQ21
import Derived.WalkKit
import Derived.WalkSpells
import Derived.WalkLawsBesides
import Derived.Deep.RegionHeld3
import Derived.Deep.DrawnRows
import Derived.Deep.DeepCutAuto
import Derived.Deep.DeepFit
import Derived.Lib.Hide
import Derived.BigQuiet
import Derived.Deep.QuietTactic
namespace Go.Proofs.YtlolnakeancenaaDoor
open Go.RowKit
set_option linter.unusedVariables false
set_option linter.unusedSimpArgs false
set_option maxRecDepth 20000
attribute [local go_sem ↓] Go.wp_at_zero Go.wp_at_succ
attribute [local go_sem] World.cell?_alloc_some frozen_alloc_some
attribute [local go_sem] lt2 lt3 lt4 lt5
attribute [local simp] lt2 lt3 lt4 lt5
attribute [local go_sem ↓ high] loadVar_msg storeVar_msg msg_store_new
/-- A message under way: it lies at gm, the parts that are left at gp, what its kind has at gh. -/
structure RdS (w0:World) (gm gp gh:Nat) (cs hs:Array Value) (L:List Tree) (W:World):Prop where
 kk:Below w0.heap.size w0 W
 X:Blk W gm 50 cs
 P:PartsAt w0 W gp L
 H:Blk W gh 99 hs
 h1:w0.heap.size≤gm
 h2:gm≠gp
 h3:gm≠gh
 h4:gp≠gh
 h5:w0.heap.size≤gh
theorem RdS.called {w0 W w1:World} {gm gp gh:Nat} {cs hs:Array Value} {L L':List Tree} (S:RdS w0 gm gp gh cs hs L W) (hP:PartsAt w0 w1 gp L') (hB:Beside gp W w1) (hk:Below w0.heap.size w0 w1):RdS w0 gm gp gh cs hs L' w1:=
 ⟨hk,hB _ _ _ S.h2 S.X,hP,hB _ _ _ (Ne.symm S.h4) S.H,S.h1,S.h2,S.h3,S.h4,S.h5⟩
theorem RdS.kept {w0 W w1:World} {gm gp gh:Nat} {cs hs:Array Value} {L:List Tree} (S:RdS w0 gm gp gh cs hs L W) (hb:Below W.heap.size W w1):RdS w0 gm gp gh cs hs L w1:=
 ⟨below_call S.kk hb S.kk.size,S.X.keep hb,S.P.keep hb,S.H.keep hb,S.h1,S.h2,S.h3,S.h4,S.h5⟩
theorem RdS.set {w0 W:World} {gm gp gh:Nat} {cs hs:Array Value} {L:List Tree} (S:RdS w0 gm gp gh cs hs L W) (j:Nat) (v:Value):RdS w0 gm gp gh (cs.setIfInBounds j v) hs L (W.setCell ⟨gm,j,none⟩ v):=
 ⟨S.kk.setCell (p:=⟨gm,j,none⟩) S.h1 v,S.X.set_ j v,S.P.far (p:=⟨gm,j,none⟩) (Ne.symm S.h2) v,S.H.far (p:=⟨gm,j,none⟩) (Ne.symm S.h3) v,S.h1,S.h2,S.h3,S.h4,S.h5⟩
theorem RdS.has6 {w0 W:World} {gm gp gh:Nat} {cs:Array Value} {a b c d e f:Value} {L:List Tree} (S:RdS w0 gm gp gh cs #[a,b,c,d,e,f] L W) (v0 v1 v2 v3 v4 v5:Value):
  RdS w0 gm gp gh cs #[v0,v1,v2,v3,v4,v5] L ((((((W.setCell ⟨gh,0,none⟩ v0).setCell ⟨gh,1,none⟩ v1).setCell ⟨gh,2,none⟩ v2).setCell ⟨gh,3,none⟩ v3).setCell ⟨gh,4,none⟩ v4).setCell ⟨gh,5,none⟩ v5):=by
 have one:∀(W:World) (hs:Array Value) (j:Nat) (v:Value),RdS w0 gm gp gh cs hs L W→RdS w0 gm gp gh cs (hs.setIfInBounds j v) L (W.setCell ⟨gh,j,none⟩ v):=fun W hs j v S=>
  ⟨S.kk.setCell (p:=⟨gh,j,none⟩) S.h5 v,S.X.far (p:=⟨gh,j,none⟩) S.h3 v,S.P.far (p:=⟨gh,j,none⟩) S.h4 v,S.H.set_ j v,S.h1,S.h2,S.h3,S.h4,S.h5⟩
 exact one _ _ 5 v5 (one _ _ 4 v4 (one _ _ 3 v3 (one _ _ 2 v2 (one _ _ 1 v1 (one _ _ 0 v0 S)))))
/-- The same, before what its kind has is laid. -/
structure Rd0 (w0:World) (gm gp:Nat) (cs:Array Value) (L:List Tree) (W:World):Prop where
 kk:Below w0.heap.size w0 W
 X:Blk W gm 50 cs
 P:PartsAt w0 W gp L
 h1:w0.heap.size≤gm
 h2:gm≠gp
theorem Rd0.called {w0 W w1:World} {gm gp:Nat} {cs:Array Value} {L L':List Tree} (S:Rd0 w0 gm gp cs L W) (hP:PartsAt w0 w1 gp L') (hB:Beside gp W w1) (hk:Below w0.heap.size w0 w1):Rd0 w0 gm gp cs L' w1:=
 ⟨hk,hB _ _ _ S.h2 S.X,hP,S.h1,S.h2⟩
theorem Rd0.kept {w0 W w1:World} {gm gp:Nat} {cs:Array Value} {L:List Tree} (S:Rd0 w0 gm gp cs L W) (hb:Below W.heap.size W w1):Rd0 w0 gm gp cs L w1:=
 ⟨below_call S.kk hb S.kk.size,S.X.keep hb,S.P.keep hb,S.h1,S.h2⟩
theorem Rd0.set {w0 W:World} {gm gp:Nat} {cs:Array Value} {L:List Tree} (S:Rd0 w0 gm gp cs L W) (j:Nat) (v:Value):Rd0 w0 gm gp (cs.setIfInBounds j v) L (W.setCell ⟨gm,j,none⟩ v):=
 ⟨S.kk.setCell (p:=⟨gm,j,none⟩) S.h1 v,S.X.set_ j v,S.P.far (p:=⟨gm,j,none⟩) (Ne.symm S.h2) v,S.h1,S.h2⟩
theorem Rd0.has {w0 W:World} {gm gp:Nat} {cs hs:Array Value} {L:List Tree} (S:Rd0 w0 gm gp cs L W):RdS w0 gm gp W.heap.size cs hs L (W.alloc (.cells hs 99)):=by
 have hb:=below_one (w:=W) (.cells hs 99)
 obtain ⟨A,c,hp,_⟩:=S.P
 exact ⟨below_call S.kk hb S.kk.size,S.X.keep hb,S.P.keep hb,Blk.new W _ _,S.h1,S.h2,Nat.ne_of_lt S.X.lt,Nat.ne_of_lt hp.lt,S.kk.size⟩
theorem IdsAt.msgSet {w:World} {A:Option Addr} {m g:Nat} {l:List IdP} (h:IdsAt w A m l) (hp:∀ad,A=some ad→ad.block≠g) (cs:Array Value):IdsAt (Go.Proofs.YtlolnakeancenaaDoor.msgSet w g cs) A m l:=
 ⟨h.1,h.2.1,fun i x hi=>by
  obtain ⟨w1,w2,b,o,e,h1,h2⟩:=h.2.2 i x hi
  have hb:=hp _ e
  have hc:=World.heap_setCells_other w g 0 cs.toList (World.block_lt_of_cell? _ _ h1) hb
  exact ⟨w1,w2,b,o,e,by rw [←h1];exact World.cell?_of_block hc,by rw [←h2];exact World.cell?_of_block hc⟩⟩
/-- A message that was read. -/
def Reads (w:World) (M:MsgT) (r:Ending) (w':World):Prop:=
 ∃A c,r= .returned (M.at A M.l.length c).v∧IdsAt w' A M.l.length M.l∧M.l.length≤c∧(∀ad,A=some ad→w.heap.size≤ad.block)∧Below w.heap.size w w'
set_option maxHeartbeats 16000000 in
theorem read10_any (A0:Option Addr) (c0:Nat) (L:List Tree) (w0:World) (hI:Items w0 A0 L.length c0 L) (hK:KindsAt w0) (hT:Tabs w0):
  Calls Tryd.prog 36 #[.slice A0 L.length c0] w0 (Reads w0 (mread L)):=by
 have hn:=fun (j:Nat) (W:World) (kk:Below w0.heap.size w0 W) (hP:PartsAt w0 W (w0.heap.size+1) (L.drop j))=>partnum_any w0 W (w0.heap.size+1) L j kk (by omega) hP
 have hx:=fun (j:Nat) (W:World) (kk:Below w0.heap.size w0 W) (hP:PartsAt w0 W (w0.heap.size+1) (L.drop j))=>partsnext_any w0 W (w0.heap.size+1) L j kk (by omega) hP
 have hkn:=fun k W=>known_any k W
 have hbt:=fun (j:Nat) (v:Value) (W:World) (hv:Holds w0 (pt L j) v) (kk:Below w0.heap.size w0 W)=>baltake_any (pt L j) v W (hv.keep kk)
 have hct:∀(j:Nat) (v:Value) (W:World),Holds w0 (pt L j) v→Below w0.heap.size w0 W→Calls Tryd.prog 62 #[v] W (Gives W (.tuple #[.agg #[.int .i64 (ctake (pt L j)).k,.int .i64 (ctake (pt L j)).c,.int .i64 (ctake (pt L j)).q,.string (ctake (pt L j)).y,.string (ctake (pt L j)).x,.int .i64 (ctake (pt L j)).r],.bool (ctake (pt L j)).b])):=fun j v W hv kk=>cmdtake_any (pt L j) v W (hv.keep kk) (hT.keep kk)
 have hat:=fun (j:Nat) (v:Value) (W:World) (hv:Holds w0 (pt L j) v) (kk:Below w0.heap.size w0 W)=>attrtake_any (pt L j) v W (hv.keep kk)
 have HN:=Lib.hid hn
 have HX:=Lib.hid hx
 have HKN:=Lib.hid hkn
 have HB:=Lib.hid hbt
 have HC:=Lib.hid hct
 have HA:=Lib.hid hat
 clear hn hx hkn hbt hct hat hT
 have hI0:=hI
 have X0:=Blk.new w0 50 #[.int .i64 0,.int .i64 0,.int .i64 0,.int .i64 0,.int .i64 0,.int .i64 0,.int .i64 0,.int .i64 0,.int .i64 0,.int .i64 0,.int .i64 0,.string ⟨#[]⟩,.string ⟨#[]⟩,.int .i64 0,.slice none 0 0,.int .i64 0,.int .i64 0,.int .i64 0]
 have X1:=Blk.new (w0.alloc (.cells #[.int .i64 0,.int .i64 0,.int .i64 0,.int .i64 0,.int .i64 0,.int .i64 0,.int .i64 0,.int .i64 0,.int .i64 0,.int .i64 0,.int .i64 0,.string ⟨#[]⟩,.string ⟨#[]⟩,.int .i64 0,.slice none 0 0,.int .i64 0,.int .i64 0,.int .i64 0] 50)) 105 #[.slice A0 L.length c0]
 have hbb:=below_one (w:=w0.alloc (.cells #[.int .i64 0,.int .i64 0,.int .i64 0,.int .i64 0,.int .i64 0,.int .i64 0,.int .i64 0,.int .i64 0,.int .i64 0,.int .i64 0,.int .i64 0,.string ⟨#[]⟩,.string ⟨#[]⟩,.int .i64 0,.slice none 0 0,.int .i64 0,.int .i64 0,.int .i64 0] 50)) (.cells #[.slice A0 L.length c0] 105)
 have S0:Rd0 w0 w0.heap.size (w0.heap.size+1) #[.int .i64 0,.int .i64 0,.int .i64 0,.int .i64 0,.int .i64 0,.int .i64 0,.int .i64 0,.int .i64 0,.int .i64 0,.int .i64 0,.int .i64 0,.string ⟨#[]⟩,.string ⟨#[]⟩,.int .i64 0,.slice none 0 0,.int .i64 0,.int .i64 0,.int .i64 0] (L.drop 0) ((w0.alloc (.cells #[.int .i64 0,.int .i64 0,.int .i64 0,.int .i64 0,.int .i64 0,.int .i64 0,.int .i64 0,.int .i64 0,.int .i64 0,.int .i64 0,.int .i64 0,.string ⟨#[]⟩,.string ⟨#[]⟩,.int .i64 0,.slice none 0 0,.int .i64 0,.int .i64 0,.int .i64 0] 50)).alloc (.cells #[.slice A0 L.length c0] 105)):=
  ⟨(below_one _).alloc (below_one _).size _,X0.keep hbb,⟨A0,c0,by simpa using X1,hI⟩,Nat.le_refl _,by omega⟩
 clear X0 X1 hbb hI
 clear hI0
 obtain ⟨RES,hRES⟩:∃x,mread L=x:=⟨_,rfl⟩
 rw [hRES]
 have HRES:=Lib.hid hRES
 clear hRES
 have HK:=Lib.hid hK
 clear hK
 go_enter Tryd.func36,Tryd.ntmps36
 go_upto_region 2 with fail
 have S:Rd0 w0 w0.heap.size (w0.heap.size+1) #[.int .i64 0,.int .i64 0,.int .i64 0,.int .i64 0,.int .i64 0,.int .i64 0,.int .i64 0,.int .i64 0,.int .i64 0,.int .i64 0,.int .i64 0,.string ⟨#[]⟩,.string ⟨#[]⟩,.int .i64 0,.slice none 0 0,.int .i64 0,.int .i64 0,.int .i64 0] (L.drop 0) _:=S0
 clear S0
 revert S
 generalize World.alloc (World.alloc w0 _) _=W
 intro S
 go_upto_region 3 with (go_at_call 59;(with_reducible refine (HN.out 0 _ S.kk S.P).mono ?_);rintro e w1 ⟨rfl,hP1,hB1,hk1⟩;have S1:=S.called hP1 hB1 hk1;have cX:=S1.X.cell;have fX:=S1.X.frozen)
 clear S hP1 hB1 hk1
 have S':=S1.set 0 (.int .i64 (pnum L 0))
 clear cX fX S1
 have S:Rd0 w0 w0.heap.size (w0.heap.size+1) #[.int .i64 (pnum L 0),.int .i64 0,.int .i64 0,.int .i64 0,.int .i64 0,.int .i64 0,.int .i64 0,.int .i64 0,.int .i64 0,.int .i64 0,.int .i64 0,.string ⟨#[]⟩,.string ⟨#[]⟩,.int .i64 0,.slice none 0 0,.int .i64 0,.int .i64 0,.int .i64 0] (L.drop 1) _:=S'
 clear S'
 revert S
 generalize World.setCell w1 _ _=W2
 intro S
 have cX:=S.X.cell
 have hkn:=HKN.out (pnum L 0)
 by_cases hk:1≤pnum L 0∧pnum L 0<10
 case neg=>
  have hR:mread L=mzero (pnum L 0):=by unfold mread;rw [if_neg hk]
  have hres:=HRES.out
  rw [hR] at hres
  have HR2:=Lib.hid hres
  clear hres HRES
  rw [decide_eq_false hk] at hkn
  have HKN2:=Lib.hid hkn
  clear hkn hk hR
  generalize pnum L 0=kz at*
  go_upto_region 4 with (go_at_call 42;(with_reducible refine (HKN2.out _).mono ?_);rintro e w2 ⟨rfl,hb2⟩;have S2:=S.kept hb2)
  clear S cX HKN2
  have l1:=msg_load S2.X
  have l2:=msg_store S2.X rfl
  have kk:=S2.kk
  have hgm:=S2.h1
  go_wp2_with fail
  refine bodyPost_ret (results_msg1 rfl rfl (S2.X.msgSet rfl)) rfl ?_
  rw [←HR2.out]
  exact ⟨none,0,rfl,IdsAt.nil,Nat.le_refl _,(fun _ h=>by cases h),below_msgSet kk hgm _⟩
 have hR:mread L=mreadK (pnum L 0) (if kSt (pnum L 0) then pnum L 4 else 0) L:=by unfold mread;rw [if_pos hk]
 have hres:=HRES.out
 rw [hR] at hres
 clear HRES
 rw [decide_eq_true hk] at hkn
 have HKN2:=Lib.hid hkn
 clear hkn hR
 obtain ⟨kn,hkn⟩:∃kn:Nat,pnum L 0=(kn:Int):=⟨_,rfl⟩
 rw [hkn] at S cX hk HKN2 hres ⊢
 clear hkn
 go_upto_region 5 with (go_at_call 42;(with_reducible refine (HKN2.out _).mono ?_);rintro e w2 ⟨rfl,hb2⟩;have S2:=S.kept hb2)
 clear S cX HKN2 hb2
 have kl:kn<10:=by omega
 have q0:w2.cell? ⟨0,kn*6,none⟩=some (.bool (kId (kn:Int))):=cell_keep S2.kk (HK.out kn 0 _ kl rfl)
 have q1:w2.cell? ⟨0,kn*6+1,none⟩=some (.bool (kBal (kn:Int))):=cell_keep S2.kk (HK.out kn 1 _ kl rfl)
 have q2:w2.cell? ⟨0,kn*6+2,none⟩=some (.bool (kSt (kn:Int))):=cell_keep S2.kk (HK.out kn 2 _ kl rfl)
 have q3:w2.cell? ⟨0,kn*6+3,none⟩=some (.bool (kCmd0 (kn:Int))):=cell_keep S2.kk (HK.out kn 3 _ kl rfl)
 have q4:w2.cell? ⟨0,kn*6+4,none⟩=some (.bool (kAt0 (kn:Int))):=cell_keep S2.kk (HK.out kn 4 _ kl rfl)
 have q5:w2.cell? ⟨0,kn*6+5,none⟩=some (.bool (kVer (kn:Int))):=cell_keep S2.kk (HK.out kn 5 _ kl rfl)
 have hof:=fun (M:MsgT) (e:M.k=(kn:Int)) W (h:Below w0.heap.size w0 W)=>of_any M W (by rw [e];exact hk) (HK.out.keep h)
 have cX:=S2.X.cell
 have k0:(0:Int)≤(kn:Int):=by omega
 have k1:(kn:Int)<10:=by omega
 have hfl:=flags_of (st:=if kSt (kn:Int)=true then pnum L 4 else 0) hk
 have HFL:=Lib.hid hfl
 clear hfl HK hk
 unfold mreadK at hres
 have HRES:=Lib.hid hres
 clear hres
 obtain ⟨g3,hg3⟩:∃g3,kCmd0 (kn:Int)=g3:=⟨_,rfl⟩
 obtain ⟨g4,hg4⟩:∃g4,kAt0 (kn:Int)=g4:=⟨_,rfl⟩
 rw [hg3] at q3
 rw [hg4] at q4
 clear hg3 hg4
 go_upto_region 6 with fail
 have S:=S2.has (hs:=#[.bool (kId (kn:Int)),.bool (kBal (kn:Int)),.bool (kSt (kn:Int)),.bool g3,.bool g4,.bool (kVer (kn:Int))])
 clear q0 q1 q2 q3 q4 q5 cX S2 k0 k1 kl
 revert S
 generalize World.alloc w2 _=W
 generalize w2.heap.size=gh
 intro S
 have cH:=S.H.cell
 obtain ⟨ST,hST⟩:∃x,(if kSt (kn:Int)=true then pnum L 4 else 0)=x:=⟨_,rfl⟩
 have hres:=HRES.out
 rw [hST] at hres
 have hfl:=HFL.out
 rw [hST] at hfl
 clear HRES HFL
 have hof2:∀(M:MsgT) (W:World),M.k=(kn:Int)→M.st=ST→Below w0.heap.size w0 W→Calls Tryd.prog 54 #[M.v] W (Gives W (.agg #[.bool (kId (kn:Int)),.bool (kBal (kn:Int)),.bool (kSt (kn:Int)),.bool (kCmd (kn:Int) ST),.bool (kAt (kn:Int) ST),.bool (kVer (kn:Int))])):=fun M W e1 e2 h=>by
  have:=hof M e1 W h
  rw [e1,e2] at this
  exact this
 have HO:=Lib.hid hof2
 clear hof hof2
 have HRES:=Lib.hid hres
 clear hres
 generalize kId (kn:Int)=f0 at*
 generalize kBal (kn:Int)=f1 at*
 generalize kSt (kn:Int)=f2 at*
 generalize kCmd (kn:Int) ST=f3 at*
 generalize kAt (kn:Int) ST=f4 at*
 generalize kVer (kn:Int)=f5 at*
 rcases hfl with ⟨rfl,rfl,rfl,rfl,rfl,rfl⟩|⟨rfl,rfl,rfl,rfl,rfl,rfl⟩|⟨rfl,rfl,rfl,rfl,rfl,rfl⟩|⟨rfl,rfl,rfl,rfl,rfl,rfl⟩|⟨rfl,rfl,rfl,rfl,rfl,rfl⟩|⟨rfl,rfl,rfl,rfl,rfl,rfl⟩|⟨rfl,rfl,rfl,rfl,rfl,rfl⟩
 ·rw [if_neg (by decide)] at hST
  subst hST
  go_upto_region 7 with fail
  clear cH
  go_upto_region 8 with (go_at_call 59;(with_reducible refine (HN.out 1 _ S.kk S.P).mono ?_);rintro e w1 ⟨rfl,hP1,hB1,hk1⟩;have S1:=S.called hP1 hB1 hk1;have cX:=S1.X.cell;have fX:=S1.X.frozen;have cH:=S1.H.cell)
  clear S hP1 hB1 hk1
  have S':=(S1.set 1 (.int .i64 (pnum L 1)))
  clear cX fX cH S1
  have S:RdS w0 w0.heap.size (w0.heap.size+1) gh #[.int .i64 (kn:Int),.int .i64 (pnum L 1),.int .i64 0,.int .i64 0,.int .i64 0,.int .i64 0,.int .i64 0,.int .i64 0,.int .i64 0,.int .i64 0,.int .i64 0,.string ⟨#[]⟩,.string ⟨#[]⟩,.int .i64 0,.slice none 0 0,.int .i64 0,.int .i64 0,.int .i64 0] #[.bool true,.bool true,.bool false,.bool g3,.bool g4,.bool false] (L.drop 2) _:=S'
  clear S'
  revert S
  generalize World.setCell _ _ _=W
  intro S
  have cH:=S.H.cell
  clear cH
  go_upto_region 9 with (go_at_call 59;(with_reducible refine (HN.out 2 _ S.kk S.P).mono ?_);rintro e w1 ⟨rfl,hP1,hB1,hk1⟩;have S1:=S.called hP1 hB1 hk1;have cX:=S1.X.cell;have fX:=S1.X.frozen;have cH:=S1.H.cell)
  clear S hP1 hB1 hk1
  have S':=(S1.set 2 (.int .i64 (pnum L 2)))
  clear cX fX cH S1
  have S:RdS w0 w0.heap.size (w0.heap.size+1) gh #[.int .i64 (kn:Int),.int .i64 (pnum L 1),.int .i64 (pnum L 2),.int .i64 0,.int .i64 0,.int .i64 0,.int .i64 0,.int .i64 0,.int .i64 0,.int .i64 0,.int .i64 0,.string ⟨#[]⟩,.string ⟨#[]⟩,.int .i64 0,.slice none 0 0,.int .i64 0,.int .i64 0,.int .i64 0] #[.bool true,.bool true,.bool false,.bool g3,.bool g4,.bool false] (L.drop 3) _:=S'
  clear S'
  revert S
  generalize World.setCell _ _ _=W
  intro S
  have cH:=S.H.cell
  go_upto_region 10 with fail
  clear cH
  go_upto_region 11 with (first|(go_at_call 61;(with_reducible refine (HX.out 3 _ S.kk S.P).mono ?_);rintro e wx ⟨v,rfl,hv,hP1,hB1,hk1⟩;have S0:=S.called hP1 hB1 hk1)|(go_at_call 60;(with_reducible refine (HB.out 3 _ _ hv S0.kk).mono ?_);rintro e w1 ⟨rfl,hb1⟩;have S1:=S0.kept hb1;have cX:=S1.X.cell;have fX:=S1.X.frozen;have cH:=S1.H.cell))
  clear S S0 hP1 hB1 hk1 hb1 hv
  have S':=((S1.set 3 (.int .i64 (btake (pt L 3)).1)).set 4 (.int .i64 (btake (pt L 3)).2.1))
  clear cX fX cH S1
  have S:RdS w0 w0.heap.size (w0.heap.size+1) gh #[.int .i64 (kn:Int),.int .i64 (pnum L 1),.int .i64 (pnum L 2),.int .i64 (btake (pt L 3)).1,.int .i64 (btake (pt L 3)).2.1,.int .i64 0,.int .i64 0,.int .i64 0,.int .i64 0,.int .i64 0,.int .i64 0,.string ⟨#[]⟩,.string ⟨#[]⟩,.int .i64 0,.slice none 0 0,.int .i64 0,.int .i64 0,.int .i64 0] #[.bool true,.bool true,.bool false,.bool g3,.bool g4,.bool false] (L.drop 4) _:=S'
  clear S'
  revert S
  generalize World.setCell _ _ _=W
  intro S
  have cH:=S.H.cell
  go_upto_region 14 with fail
  have l1:=msg_load S.X
  have hof:Calls Tryd.prog 54 #[.agg #[.int .i64 (kn:Int),.int .i64 (pnum L 1),.int .i64 (pnum L 2),.int .i64 (btake (pt L 3)).1,.int .i64 (btake (pt L 3)).2.1,.int .i64 0,.int .i64 0,.int .i64 0,.int .i64 0,.int .i64 0,.int .i64 0,.string ⟨#[]⟩,.string ⟨#[]⟩,.int .i64 0,.slice none 0 0,.int .i64 0,.int .i64 0,.int .i64 0]] W (Gives W (.agg #[.bool true,.bool true,.bool false,.bool true,.bool true,.bool false])):=HO.out ⟨(kn:Int),(pnum L 1),(pnum L 2),(btake (pt L 3)).1,(btake (pt L 3)).2.1,0,0,0,0,0,0,⟨#[]⟩,⟨#[]⟩,0,none,0,0,0,0,0,[]⟩ W rfl rfl S.kk
  have HOF:=Lib.hid hof
  clear hof cH
  go_upto_region 15 with (go_at_call 54;(with_reducible refine HOF.out.mono ?_);rintro e w1 ⟨rfl,hb1⟩;have S1:=S.kept hb1;have cH:=S1.H.cell;have fH:=S1.H.frozen)
  have S':=S1.has6 (.bool true) (.bool true) (.bool false) (.bool true) (.bool true) (.bool false)
  clear cH fH S1 S l1 HOF hb1
  have S:RdS w0 w0.heap.size (w0.heap.size+1) gh #[.int .i64 (kn:Int),.int .i64 (pnum L 1),.int .i64 (pnum L 2),.int .i64 (btake (pt L 3)).1,.int .i64 (btake (pt L 3)).2.1,.int .i64 0,.int .i64 0,.int .i64 0,.int .i64 0,.int .i64 0,.int .i64 0,.string ⟨#[]⟩,.string ⟨#[]⟩,.int .i64 0,.slice none 0 0,.int .i64 0,.int .i64 0,.int .i64 0] #[.bool true,.bool true,.bool false,.bool true,.bool true,.bool false] (L.drop 4) _:=S'
  clear S'
  revert S
  generalize World.setCell _ _ _=W
  intro S
  have cH:=S.H.cell
  go_upto_region 16 with fail
  clear cH
  go_upto_region 17 with (first|(go_at_call 61;(with_reducible refine (HX.out 4 _ S.kk S.P).mono ?_);rintro e wx ⟨v,rfl,hv,hP1,hB1,hk1⟩;have S0:=S.called hP1 hB1 hk1)|(go_at_call 62;(with_reducible refine (HC.out 4 _ _ hv S0.kk).mono ?_);rintro e w1 ⟨rfl,hb1⟩;have S1:=S0.kept hb1;have cX:=S1.X.cell;have fX:=S1.X.frozen;have cH:=S1.H.cell))
  clear S S0 hP1 hB1 hk1 hb1 hv
  have S':=((((((S1.set 8 (.int .i64 (ctake (pt L 4)).k)).set 9 (.int .i64 (ctake (pt L 4)).c)).set 10 (.int .i64 (ctake (pt L 4)).q)).set 11 (.string (ctake (pt L 4)).y)).set 12 (.string (ctake (pt L 4)).x)).set 13 (.int .i64 (ctake (pt L 4)).r))
  clear cX fX cH S1
  have S:RdS w0 w0.heap.size (w0.heap.size+1) gh #[.int .i64 (kn:Int),.int .i64 (pnum L 1),.int .i64 (pnum L 2),.int .i64 (btake (pt L 3)).1,.int .i64 (btake (pt L 3)).2.1,.int .i64 0,.int .i64 0,.int .i64 0,.int .i64 (ctake (pt L 4)).k,.int .i64 (ctake (pt L 4)).c,.int .i64 (ctake (pt L 4)).q,.string (ctake (pt L 4)).y,.string (ctake (pt L 4)).x,.int .i64 (ctake (pt L 4)).r,.slice none 0 0,.int .i64 0,.int .i64 0,.int .i64 0] #[.bool true,.bool true,.bool false,.bool true,.bool true,.bool false] (L.drop 5) _:=S'
  clear S'
  revert S
  generalize World.setCell _ _ _=W
  intro S
  have cH:=S.H.cell
  go_upto_region 18 with fail
  clear cH
  go_upto_region 19 with (first|(go_at_call 61;(with_reducible refine (HX.out 5 _ S.kk S.P).mono ?_);rintro e wx ⟨v,rfl,hv,hP1,hB1,hk1⟩;have S0:=S.called hP1 hB1 hk1)|(go_at_call 63;(with_reducible refine (HA.out 5 _ _ hv S0.kk).mono ?_);rintro e w1 ⟨A,c,rfl,hI,hIc,hb1⟩;have S1:=S0.kept hb1;have cX:=S1.X.cell;have fX:=S1.X.frozen;have cH:=S1.H.cell))
  have hlt1:=S0.X.lt
  have hne:∀ad,A=some ad→ad.block≠w0.heap.size:=fun ad e=>by have:=hIc.2 ad e;omega
  have hIl:=hIc.1
  have hAb:∀ad,A=some ad→w0.heap.size≤ad.block:=fun ad e=>by have h1:=hIc.2 ad e;have h2:=S0.kk.size;omega
  clear S S0 hP1 hB1 hk1 hv hIc
  have hI2:=((((hI.set (p:=⟨w0.heap.size,14,none⟩) hne (.slice A ((atake (pt L 5)).getD azero).l.length c)).set (p:=⟨w0.heap.size,15,none⟩) hne (.int .i64 ((atake (pt L 5)).getD azero).q)).set (p:=⟨w0.heap.size,16,none⟩) hne (.int .i64 ((atake (pt L 5)).getD azero).t)))
  clear hI hb1 hlt1
  have S':=(((S1.set 14 (.slice A ((atake (pt L 5)).getD azero).l.length c)).set 15 (.int .i64 ((atake (pt L 5)).getD azero).q)).set 16 (.int .i64 ((atake (pt L 5)).getD azero).t))
  clear cX fX cH S1
  have S:RdS w0 w0.heap.size (w0.heap.size+1) gh #[.int .i64 (kn:Int),.int .i64 (pnum L 1),.int .i64 (pnum L 2),.int .i64 (btake (pt L 3)).1,.int .i64 (btake (pt L 3)).2.1,.int .i64 0,.int .i64 0,.int .i64 0,.int .i64 (ctake (pt L 4)).k,.int .i64 (ctake (pt L 4)).c,.int .i64 (ctake (pt L 4)).q,.string (ctake (pt L 4)).y,.string (ctake (pt L 4)).x,.int .i64 (ctake (pt L 4)).r,.slice A ((atake (pt L 5)).getD azero).l.length c,.int .i64 ((atake (pt L 5)).getD azero).q,.int .i64 ((atake (pt L 5)).getD azero).t,.int .i64 0] #[.bool true,.bool true,.bool false,.bool true,.bool true,.bool false] (L.drop 6) _:=S'
  clear S'
  revert S hI2
  generalize World.setCell _ _ _=W
  intro hI2 S
  have cH:=S.H.cell
  go_upto_region 21 with fail
  have l1:=msg_load S.X
  have l2:=msg_store S.X rfl
  have kk:=S.kk
  have hgm:=S.h1
  clear cH
  go_wp2_with fail
  refine bodyPost_ret (results_msg1 rfl rfl (S.X.msgSet rfl)) rfl ?_
  rw [←HRES.out]
  exact ⟨A,c,rfl,hI2.msgSet hne _,hIl,hAb,below_msgSet kk hgm _⟩
 ·rw [if_neg (by decide)] at hST
  subst hST
  go_upto_region 7 with fail
  clear cH
  go_upto_region 8 with (go_at_call 59;(with_reducible refine (HN.out 1 _ S.kk S.P).mono ?_);rintro e w1 ⟨rfl,hP1,hB1,hk1⟩;have S1:=S.called hP1 hB1 hk1;have cX:=S1.X.cell;have fX:=S1.X.frozen;have cH:=S1.H.cell)
  clear S hP1 hB1 hk1
  have S':=(S1.set 1 (.int .i64 (pnum L 1)))
  clear cX fX cH S1
  have S:RdS w0 w0.heap.size (w0.heap.size+1) gh #[.int .i64 (kn:Int),.int .i64 (pnum L 1),.int .i64 0,.int .i64 0,.int .i64 0,.int .i64 0,.int .i64 0,.int .i64 0,.int .i64 0,.int .i64 0,.int .i64 0,.string ⟨#[]⟩,.string ⟨#[]⟩,.int .i64 0,.slice none 0 0,.int .i64 0,.int .i64 0,.int .i64 0] #[.bool true,.bool true,.bool false,.bool g3,.bool g4,.bool false] (L.drop 2) _:=S'
  clear S'
  revert S
  generalize World.setCell _ _ _=W
  intro S
  have cH:=S.H.cell
  clear cH
  go_upto_region 9 with (go_at_call 59;(with_reducible refine (HN.out 2 _ S.kk S.P).mono ?_);rintro e w1 ⟨rfl,hP1,hB1,hk1⟩;have S1:=S.called hP1 hB1 hk1;have cX:=S1.X.cell;have fX:=S1.X.frozen;have cH:=S1.H.cell)
  clear S hP1 hB1 hk1
  have S':=(S1.set 2 (.int .i64 (pnum L 2)))
  clear cX fX cH S1
  have S:RdS w0 w0.heap.size (w0.heap.size+1) gh #[.int .i64 (kn:Int),.int .i64 (pnum L 1),.int .i64 (pnum L 2),.int .i64 0,.int .i64 0,.int .i64 0,.int .i64 0,.int .i64 0,.int .i64 0,.int .i64 0,.int .i64 0,.string ⟨#[]⟩,.string ⟨#[]⟩,.int .i64 0,.slice none 0 0,.int .i64 0,.int .i64 0,.int .i64 0] #[.bool true,.bool true,.bool false,.bool g3,.bool g4,.bool false] (L.drop 3) _:=S'
  clear S'
  revert S
  generalize World.setCell _ _ _=W
  intro S
  have cH:=S.H.cell
  go_upto_region 10 with fail
  clear cH
  go_upto_region 11 with (first|(go_at_call 61;(with_reducible refine (HX.out 3 _ S.kk S.P).mono ?_);rintro e wx ⟨v,rfl,hv,hP1,hB1,hk1⟩;have S0:=S.called hP1 hB1 hk1)|(go_at_call 60;(with_reducible refine (HB.out 3 _ _ hv S0.kk).mono ?_);rintro e w1 ⟨rfl,hb1⟩;have S1:=S0.kept hb1;have cX:=S1.X.cell;have fX:=S1.X.frozen;have cH:=S1.H.cell))
  clear S S0 hP1 hB1 hk1 hb1 hv
  have S':=((S1.set 3 (.int .i64 (btake (pt L 3)).1)).set 4 (.int .i64 (btake (pt L 3)).2.1))
  clear cX fX cH S1
  have S:RdS w0 w0.heap.size (w0.heap.size+1) gh #[.int .i64 (kn:Int),.int .i64 (pnum L 1),.int .i64 (pnum L 2),.int .i64 (btake (pt L 3)).1,.int .i64 (btake (pt L 3)).2.1,.int .i64 0,.int .i64 0,.int .i64 0,.int .i64 0,.int .i64 0,.int .i64 0,.string ⟨#[]⟩,.string ⟨#[]⟩,.int .i64 0,.slice none 0 0,.int .i64 0,.int .i64 0,.int .i64 0] #[.bool true,.bool true,.bool false,.bool g3,.bool g4,.bool false] (L.drop 4) _:=S'
  clear S'
  revert S
  generalize World.setCell _ _ _=W
  intro S
  have cH:=S.H.cell
  go_upto_region 14 with fail
  have l1:=msg_load S.X
  have hof:Calls Tryd.prog 54 #[.agg #[.int .i64 (kn:Int),.int .i64 (pnum L 1),.int .i64 (pnum L 2),.int .i64 (btake (pt L 3)).1,.int .i64 (btake (pt L 3)).2.1,.int .i64 0,.int .i64 0,.int .i64 0,.int .i64 0,.int .i64 0,.int .i64 0,.string ⟨#[]⟩,.string ⟨#[]⟩,.int .i64 0,.slice none 0 0,.int .i64 0,.int .i64 0,.int .i64 0]] W (Gives W (.agg #[.bool true,.bool true,.bool false,.bool false,.bool true,.bool false])):=HO.out ⟨(kn:Int),(pnum L 1),(pnum L 2),(btake (pt L 3)).1,(btake (pt L 3)).2.1,0,0,0,0,0,0,⟨#[]⟩,⟨#[]⟩,0,none,0,0,0,0,0,[]⟩ W rfl rfl S.kk
  have HOF:=Lib.hid hof
  clear hof cH
  go_upto_region 15 with (go_at_call 54;(with_reducible refine HOF.out.mono ?_);rintro e w1 ⟨rfl,hb1⟩;have S1:=S.kept hb1;have cH:=S1.H.cell;have fH:=S1.H.frozen)
  have S':=S1.has6 (.bool true) (.bool true) (.bool false) (.bool false) (.bool true) (.bool false)
  clear cH fH S1 S l1 HOF hb1
  have S:RdS w0 w0.heap.size (w0.heap.size+1) gh #[.int .i64 (kn:Int),.int .i64 (pnum L 1),.int .i64 (pnum L 2),.int .i64 (btake (pt L 3)).1,.int .i64 (btake (pt L 3)).2.1,.int .i64 0,.int .i64 0,.int .i64 0,.int .i64 0,.int .i64 0,.int .i64 0,.string ⟨#[]⟩,.string ⟨#[]⟩,.int .i64 0,.slice none 0 0,.int .i64 0,.int .i64 0,.int .i64 0] #[.bool true,.bool true,.bool false,.bool false,.bool true,.bool false] (L.drop 4) _:=S'
  clear S'
  revert S
  generalize World.setCell _ _ _=W
  intro S
  have cH:=S.H.cell
  go_upto_region 17 with fail
  go_upto_region 18 with fail
  clear cH
  go_upto_region 19 with (first|(go_at_call 61;(with_reducible refine (HX.out 4 _ S.kk S.P).mono ?_);rintro e wx ⟨v,rfl,hv,hP1,hB1,hk1⟩;have S0:=S.called hP1 hB1 hk1)|(go_at_call 63;(with_reducible refine (HA.out 4 _ _ hv S0.kk).mono ?_);rintro e w1 ⟨A,c,rfl,hI,hIc,hb1⟩;have S1:=S0.kept hb1;have cX:=S1.X.cell;have fX:=S1.X.frozen;have cH:=S1.H.cell))
  have hlt1:=S0.X.lt
  have hne:∀ad,A=some ad→ad.block≠w0.heap.size:=fun ad e=>by have:=hIc.2 ad e;omega
  have hIl:=hIc.1
  have hAb:∀ad,A=some ad→w0.heap.size≤ad.block:=fun ad e=>by have h1:=hIc.2 ad e;have h2:=S0.kk.size;omega
  clear S S0 hP1 hB1 hk1 hv hIc
  have hI2:=((((hI.set (p:=⟨w0.heap.size,14,none⟩) hne (.slice A ((atake (pt L 4)).getD azero).l.length c)).set (p:=⟨w0.heap.size,15,none⟩) hne (.int .i64 ((atake (pt L 4)).getD azero).q)).set (p:=⟨w0.heap.size,16,none⟩) hne (.int .i64 ((atake (pt L 4)).getD azero).t)))
  clear hI hb1 hlt1
  have S':=(((S1.set 14 (.slice A ((atake (pt L 4)).getD azero).l.length c)).set 15 (.int .i64 ((atake (pt L 4)).getD azero).q)).set 16 (.int .i64 ((atake (pt L 4)).getD azero).t))
  clear cX fX cH S1
  have S:RdS w0 w0.heap.size (w0.heap.size+1) gh #[.int .i64 (kn:Int),.int .i64 (pnum L 1),.int .i64 (pnum L 2),.int .i64 (btake (pt L 3)).1,.int .i64 (btake (pt L 3)).2.1,.int .i64 0,.int .i64 0,.int .i64 0,.int .i64 0,.int .i64 0,.int .i64 0,.string ⟨#[]⟩,.string ⟨#[]⟩,.int .i64 0,.slice A ((atake (pt L 4)).getD azero).l.length c,.int .i64 ((atake (pt L 4)).getD azero).q,.int .i64 ((atake (pt L 4)).getD azero).t,.int .i64 0] #[.bool true,.bool true,.bool false,.bool false,.bool true,.bool false] (L.drop 5) _:=S'
  clear S'
  revert S hI2
  generalize World.setCell _ _ _=W
  intro hI2 S
  have cH:=S.H.cell
  go_upto_region 21 with fail
  have l1:=msg_load S.X
  have l2:=msg_store S.X rfl
  have kk:=S.kk
  have hgm:=S.h1
  clear cH
  go_wp2_with fail
  refine bodyPost_ret (results_msg1 rfl rfl (S.X.msgSet rfl)) rfl ?_
  rw [←HRES.out]
  exact ⟨A,c,rfl,hI2.msgSet hne _,hIl,hAb,below_msgSet kk hgm _⟩
 ·rw [if_neg (by decide)] at hST
  subst hST
  go_upto_region 7 with fail
  clear cH
  go_upto_region 8 with (go_at_call 59;(with_reducible refine (HN.out 1 _ S.kk S.P).mono ?_);rintro e w1 ⟨rfl,hP1,hB1,hk1⟩;have S1:=S.called hP1 hB1 hk1;have cX:=S1.X.cell;have fX:=S1.X.frozen;have cH:=S1.H.cell)
  clear S hP1 hB1 hk1
  have S':=(S1.set 1 (.int .i64 (pnum L 1)))
  clear cX fX cH S1
  have S:RdS w0 w0.heap.size (w0.heap.size+1) gh #[.int .i64 (kn:Int),.int .i64 (pnum L 1),.int .i64 0,.int .i64 0,.int .i64 0,.int .i64 0,.int .i64 0,.int .i64 0,.int .i64 0,.int .i64 0,.int .i64 0,.string ⟨#[]⟩,.string ⟨#[]⟩,.int .i64 0,.slice none 0 0,.int .i64 0,.int .i64 0,.int .i64 0] #[.bool true,.bool true,.bool false,.bool g3,.bool g4,.bool false] (L.drop 2) _:=S'
  clear S'
  revert S
  generalize World.setCell _ _ _=W
  intro S
  have cH:=S.H.cell
  clear cH
  go_upto_region 9 with (go_at_call 59;(with_reducible refine (HN.out 2 _ S.kk S.P).mono ?_);rintro e w1 ⟨rfl,hP1,hB1,hk1⟩;have S1:=S.called hP1 hB1 hk1;have cX:=S1.X.cell;have fX:=S1.X.frozen;have cH:=S1.H.cell)
  clear S hP1 hB1 hk1
  have S':=(S1.set 2 (.int .i64 (pnum L 2)))
  clear cX fX cH S1
  have S:RdS w0 w0.heap.size (w0.heap.size+1) gh #[.int .i64 (kn:Int),.int .i64 (pnum L 1),.int .i64 (pnum L 2),.int .i64 0,.int .i64 0,.int .i64 0,.int .i64 0,.int .i64 0,.int .i64 0,.int .i64 0,.int .i64 0,.string ⟨#[]⟩,.string ⟨#[]⟩,.int .i64 0,.slice none 0 0,.int .i64 0,.int .i64 0,.int .i64 0] #[.bool true,.bool true,.bool false,.bool g3,.bool g4,.bool false] (L.drop 3) _:=S'
  clear S'
  revert S
  generalize World.setCell _ _ _=W
  intro S
  have cH:=S.H.cell
  go_upto_region 10 with fail
  clear cH
  go_upto_region 11 with (first|(go_at_call 61;(with_reducible refine (HX.out 3 _ S.kk S.P).mono ?_);rintro e wx ⟨v,rfl,hv,hP1,hB1,hk1⟩;have S0:=S.called hP1 hB1 hk1)|(go_at_call 60;(with_reducible refine (HB.out 3 _ _ hv S0.kk).mono ?_);rintro e w1 ⟨rfl,hb1⟩;have S1:=S0.kept hb1;have cX:=S1.X.cell;have fX:=S1.X.frozen;have cH:=S1.H.cell))
  clear S S0 hP1 hB1 hk1 hb1 hv
  have S':=((S1.set 3 (.int .i64 (btake (pt L 3)).1)).set 4 (.int .i64 (btake (pt L 3)).2.1))
  clear cX fX cH S1
  have S:RdS w0 w0.heap.size (w0.heap.size+1) gh #[.int .i64 (kn:Int),.int .i64 (pnum L 1),.int .i64 (pnum L 2),.int .i64 (btake (pt L 3)).1,.int .i64 (btake (pt L 3)).2.1,.int .i64 0,.int .i64 0,.int .i64 0,.int .i64 0,.int .i64 0,.int .i64 0,.string ⟨#[]⟩,.string ⟨#[]⟩,.int .i64 0,.slice none 0 0,.int .i64 0,.int .i64 0,.int .i64 0] #[.bool true,.bool true,.bool false,.bool g3,.bool g4,.bool false] (L.drop 4) _:=S'
  clear S'
  revert S
  generalize World.setCell _ _ _=W
  intro S
  have cH:=S.H.cell
  go_upto_region 14 with fail
  have l1:=msg_load S.X
  have hof:Calls Tryd.prog 54 #[.agg #[.int .i64 (kn:Int),.int .i64 (pnum L 1),.int .i64 (pnum L 2),.int .i64 (btake (pt L 3)).1,.int .i64 (btake (pt L 3)).2.1,.int .i64 0,.int .i64 0,.int .i64 0,.int .i64 0,.int .i64 0,.int .i64 0,.string ⟨#[]⟩,.string ⟨#[]⟩,.int .i64 0,.slice none 0 0,.int .i64 0,.int .i64 0,.int .i64 0]] W (Gives W (.agg #[.bool true,.bool true,.bool false,.bool false,.bool false,.bool false])):=HO.out ⟨(kn:Int),(pnum L 1),(pnum L 2),(btake (pt L 3)).1,(btake (pt L 3)).2.1,0,0,0,0,0,0,⟨#[]⟩,⟨#[]⟩,0,none,0,0,0,0,0,[]⟩ W rfl rfl S.kk
  have HOF:=Lib.hid hof
  clear hof cH
  go_upto_region 15 with (go_at_call 54;(with_reducible refine HOF.out.mono ?_);rintro e w1 ⟨rfl,hb1⟩;have S1:=S.kept hb1;have cH:=S1.H.cell;have fH:=S1.H.frozen)
  have S':=S1.has6 (.bool true) (.bool true) (.bool false) (.bool false) (.bool false) (.bool false)
  clear cH fH S1 S l1 HOF hb1
  have S:RdS w0 w0.heap.size (w0.heap.size+1) gh #[.int .i64 (kn:Int),.int .i64 (pnum L 1),.int .i64 (pnum L 2),.int .i64 (btake (pt L 3)).1,.int .i64 (btake (pt L 3)).2.1,.int .i64 0,.int .i64 0,.int .i64 0,.int .i64 0,.int .i64 0,.int .i64 0,.string ⟨#[]⟩,.string ⟨#[]⟩,.int .i64 0,.slice none 0 0,.int .i64 0,.int .i64 0,.int .i64 0] #[.bool true,.bool true,.bool false,.bool false,.bool false,.bool false] (L.drop 4) _:=S'
  clear S'
  revert S
  generalize World.setCell _ _ _=W
  intro S
  have cH:=S.H.cell
  go_upto_region 17 with fail
  go_upto_region 19 with fail
  go_upto_region 21 with fail
  have l1:=msg_load S.X
  have l2:=msg_store S.X rfl
  have kk:=S.kk
  have hgm:=S.h1
  clear cH
  go_wp2_with fail
  refine bodyPost_ret (results_msg1 rfl rfl (S.X.msgSet rfl)) rfl ?_
  rw [←HRES.out]
  exact ⟨none,0,rfl,IdsAt.nil,Nat.le_refl _,(fun _ h=>by cases h),below_msgSet kk hgm _⟩
 ·rw [if_neg (by decide)] at hST
  subst hST
  go_upto_region 7 with fail
  clear cH
  go_upto_region 8 with (go_at_call 59;(with_reducible refine (HN.out 1 _ S.kk S.P).mono ?_);rintro e w1 ⟨rfl,hP1,hB1,hk1⟩;have S1:=S.called hP1 hB1 hk1;have cX:=S1.X.cell;have fX:=S1.X.frozen;have cH:=S1.H.cell)
  clear S hP1 hB1 hk1
  have S':=(S1.set 1 (.int .i64 (pnum L 1)))
  clear cX fX cH S1
  have S:RdS w0 w0.heap.size (w0.heap.size+1) gh #[.int .i64 (kn:Int),.int .i64 (pnum L 1),.int .i64 0,.int .i64 0,.int .i64 0,.int .i64 0,.int .i64 0,.int .i64 0,.int .i64 0,.int .i64 0,.int .i64 0,.string ⟨#[]⟩,.string ⟨#[]⟩,.int .i64 0,.slice none 0 0,.int .i64 0,.int .i64 0,.int .i64 0] #[.bool true,.bool false,.bool false,.bool g3,.bool g4,.bool false] (L.drop 2) _:=S'
  clear S'
  revert S
  generalize World.setCell _ _ _=W
  intro S
  have cH:=S.H.cell
  clear cH
  go_upto_region 9 with (go_at_call 59;(with_reducible refine (HN.out 2 _ S.kk S.P).mono ?_);rintro e w1 ⟨rfl,hP1,hB1,hk1⟩;have S1:=S.called hP1 hB1 hk1;have cX:=S1.X.cell;have fX:=S1.X.frozen;have cH:=S1.H.cell)
  clear S hP1 hB1 hk1
  have S':=(S1.set 2 (.int .i64 (pnum L 2)))
  clear cX fX cH S1
  have S:RdS w0 w0.heap.size (w0.heap.size+1) gh #[.int .i64 (kn:Int),.int .i64 (pnum L 1),.int .i64 (pnum L 2),.int .i64 0,.int .i64 0,.int .i64 0,.int .i64 0,.int .i64 0,.int .i64 0,.int .i64 0,.int .i64 0,.string ⟨#[]⟩,.string ⟨#[]⟩,.int .i64 0,.slice none 0 0,.int .i64 0,.int .i64 0,.int .i64 0] #[.bool true,.bool false,.bool false,.bool g3,.bool g4,.bool false] (L.drop 3) _:=S'
  clear S'
  revert S
  generalize World.setCell _ _ _=W
  intro S
  have cH:=S.H.cell
  go_upto_region 11 with fail
  go_upto_region 14 with fail
  have l1:=msg_load S.X
  have hof:Calls Tryd.prog 54 #[.agg #[.int .i64 (kn:Int),.int .i64 (pnum L 1),.int .i64 (pnum L 2),.int .i64 0,.int .i64 0,.int .i64 0,.int .i64 0,.int .i64 0,.int .i64 0,.int .i64 0,.int .i64 0,.string ⟨#[]⟩,.string ⟨#[]⟩,.int .i64 0,.slice none 0 0,.int .i64 0,.int .i64 0,.int .i64 0]] W (Gives W (.agg #[.bool true,.bool false,.bool false,.bool true,.bool true,.bool false])):=HO.out ⟨(kn:Int),(pnum L 1),(pnum L 2),0,0,0,0,0,0,0,0,⟨#[]⟩,⟨#[]⟩,0,none,0,0,0,0,0,[]⟩ W rfl rfl S.kk
  have HOF:=Lib.hid hof
  clear hof cH
  go_upto_region 15 with (go_at_call 54;(with_reducible refine HOF.out.mono ?_);rintro e w1 ⟨rfl,hb1⟩;have S1:=S.kept hb1;have cH:=S1.H.cell;have fH:=S1.H.frozen)
  have S':=S1.has6 (.bool true) (.bool false) (.bool false) (.bool true) (.bool true) (.bool false)
  clear cH fH S1 S l1 HOF hb1
  have S:RdS w0 w0.heap.size (w0.heap.size+1) gh #[.int .i64 (kn:Int),.int .i64 (pnum L 1),.int .i64 (pnum L 2),.int .i64 0,.int .i64 0,.int .i64 0,.int .i64 0,.int .i64 0,.int .i64 0,.int .i64 0,.int .i64 0,.string ⟨#[]⟩,.string ⟨#[]⟩,.int .i64 0,.slice none 0 0,.int .i64 0,.int .i64 0,.int .i64 0] #[.bool true,.bool false,.bool false,.bool true,.bool true,.bool false] (L.drop 3) _:=S'
  clear S'
  revert S
  generalize World.setCell _ _ _=W
  intro S
  have cH:=S.H.cell
  go_upto_region 16 with fail
  clear cH
  go_upto_region 17 with (first|(go_at_call 61;(with_reducible refine (HX.out 3 _ S.kk S.P).mono ?_);rintro e wx ⟨v,rfl,hv,hP1,hB1,hk1⟩;have S0:=S.called hP1 hB1 hk1)|(go_at_call 62;(with_reducible refine (HC.out 3 _ _ hv S0.kk).mono ?_);rintro e w1 ⟨rfl,hb1⟩;have S1:=S0.kept hb1;have cX:=S1.X.cell;have fX:=S1.X.frozen;have cH:=S1.H.cell))
  clear S S0 hP1 hB1 hk1 hb1 hv
  have S':=((((((S1.set 8 (.int .i64 (ctake (pt L 3)).k)).set 9 (.int .i64 (ctake (pt L 3)).c)).set 10 (.int .i64 (ctake (pt L 3)).q)).set 11 (.string (ctake (pt L 3)).y)).set 12 (.string (ctake (pt L 3)).x)).set 13 (.int .i64 (ctake (pt L 3)).r))
  clear cX fX cH S1
  have S:RdS w0 w0.heap.size (w0.heap.size+1) gh #[.int .i64 (kn:Int),.int .i64 (pnum L 1),.int .i64 (pnum L 2),.int .i64 0,.int .i64 0,.int .i64 0,.int .i64 0,.int .i64 0,.int .i64 (ctake (pt L 3)).k,.int .i64 (ctake (pt L 3)).c,.int .i64 (ctake (pt L 3)).q,.string (ctake (pt L 3)).y,.string (ctake (pt L 3)).x,.int .i64 (ctake (pt L 3)).r,.slice none 0 0,.int .i64 0,.int .i64 0,.int .i64 0] #[.bool true,.bool false,.bool false,.bool true,.bool true,.bool false] (L.drop 4) _:=S'
  clear S'
  revert S
  generalize World.setCell _ _ _=W
  intro S
  have cH:=S.H.cell
  go_upto_region 18 with fail
  clear cH
  go_upto_region 19 with (first|(go_at_call 61;(with_reducible refine (HX.out 4 _ S.kk S.P).mono ?_);rintro e wx ⟨v,rfl,hv,hP1,hB1,hk1⟩;have S0:=S.called hP1 hB1 hk1)|(go_at_call 63;(with_reducible refine (HA.out 4 _ _ hv S0.kk).mono ?_);rintro e w1 ⟨A,c,rfl,hI,hIc,hb1⟩;have S1:=S0.kept hb1;have cX:=S1.X.cell;have fX:=S1.X.frozen;have cH:=S1.H.cell))
  have hlt1:=S0.X.lt
  have hne:∀ad,A=some ad→ad.block≠w0.heap.size:=fun ad e=>by have:=hIc.2 ad e;omega
  have hIl:=hIc.1
  have hAb:∀ad,A=some ad→w0.heap.size≤ad.block:=fun ad e=>by have h1:=hIc.2 ad e;have h2:=S0.kk.size;omega
  clear S S0 hP1 hB1 hk1 hv hIc
  have hI2:=((((hI.set (p:=⟨w0.heap.size,14,none⟩) hne (.slice A ((atake (pt L 4)).getD azero).l.length c)).set (p:=⟨w0.heap.size,15,none⟩) hne (.int .i64 ((atake (pt L 4)).getD azero).q)).set (p:=⟨w0.heap.size,16,none⟩) hne (.int .i64 ((atake (pt L 4)).getD azero).t)))
  clear hI hb1 hlt1
  have S':=(((S1.set 14 (.slice A ((atake (pt L 4)).getD azero).l.length c)).set 15 (.int .i64 ((atake (pt L 4)).getD azero).q)).set 16 (.int .i64 ((atake (pt L 4)).getD azero).t))
  clear cX fX cH S1
  have S:RdS w0 w0.heap.size (w0.heap.size+1) gh #[.int .i64 (kn:Int),.int .i64 (pnum L 1),.int .i64 (pnum L 2),.int .i64 0,.int .i64 0,.int .i64 0,.int .i64 0,.int .i64 0,.int .i64 (ctake (pt L 3)).k,.int .i64 (ctake (pt L 3)).c,.int .i64 (ctake (pt L 3)).q,.string (ctake (pt L 3)).y,.string (ctake (pt L 3)).x,.int .i64 (ctake (pt L 3)).r,.slice A ((atake (pt L 4)).getD azero).l.length c,.int .i64 ((atake (pt L 4)).getD azero).q,.int .i64 ((atake (pt L 4)).getD azero).t,.int .i64 0] #[.bool true,.bool false,.bool false,.bool true,.bool true,.bool false] (L.drop 5) _:=S'
  clear S'
  revert S hI2
  generalize World.setCell _ _ _=W
  intro hI2 S
  have cH:=S.H.cell
  go_upto_region 21 with fail
  have l1:=msg_load S.X
  have l2:=msg_store S.X rfl
  have kk:=S.kk
  have hgm:=S.h1
  clear cH
  go_wp2_with fail
  refine bodyPost_ret (results_msg1 rfl rfl (S.X.msgSet rfl)) rfl ?_
  rw [←HRES.out]
  exact ⟨A,c,rfl,hI2.msgSet hne _,hIl,hAb,below_msgSet kk hgm _⟩
 ·rw [if_pos rfl] at hST
  subst hST
  go_upto_region 7 with fail
  clear cH
  go_upto_region 8 with (go_at_call 59;(with_reducible refine (HN.out 1 _ S.kk S.P).mono ?_);rintro e w1 ⟨rfl,hP1,hB1,hk1⟩;have S1:=S.called hP1 hB1 hk1;have cX:=S1.X.cell;have fX:=S1.X.frozen;have cH:=S1.H.cell)
  clear S hP1 hB1 hk1
  have S':=(S1.set 1 (.int .i64 (pnum L 1)))
  clear cX fX cH S1
  have S:RdS w0 w0.heap.size (w0.heap.size+1) gh #[.int .i64 (kn:Int),.int .i64 (pnum L 1),.int .i64 0,.int .i64 0,.int .i64 0,.int .i64 0,.int .i64 0,.int .i64 0,.int .i64 0,.int .i64 0,.int .i64 0,.string ⟨#[]⟩,.string ⟨#[]⟩,.int .i64 0,.slice none 0 0,.int .i64 0,.int .i64 0,.int .i64 0] #[.bool true,.bool true,.bool true,.bool g3,.bool g4,.bool false] (L.drop 2) _:=S'
  clear S'
  revert S
  generalize World.setCell _ _ _=W
  intro S
  have cH:=S.H.cell
  clear cH
  go_upto_region 9 with (go_at_call 59;(with_reducible refine (HN.out 2 _ S.kk S.P).mono ?_);rintro e w1 ⟨rfl,hP1,hB1,hk1⟩;have S1:=S.called hP1 hB1 hk1;have cX:=S1.X.cell;have fX:=S1.X.frozen;have cH:=S1.H.cell)
  clear S hP1 hB1 hk1
  have S':=(S1.set 2 (.int .i64 (pnum L 2)))
  clear cX fX cH S1
  have S:RdS w0 w0.heap.size (w0.heap.size+1) gh #[.int .i64 (kn:Int),.int .i64 (pnum L 1),.int .i64 (pnum L 2),.int .i64 0,.int .i64 0,.int .i64 0,.int .i64 0,.int .i64 0,.int .i64 0,.int .i64 0,.int .i64 0,.string ⟨#[]⟩,.string ⟨#[]⟩,.int .i64 0,.slice none 0 0,.int .i64 0,.int .i64 0,.int .i64 0] #[.bool true,.bool true,.bool true,.bool g3,.bool g4,.bool false] (L.drop 3) _:=S'
  clear S'
  revert S
  generalize World.setCell _ _ _=W
  intro S
  have cH:=S.H.cell
  go_upto_region 10 with fail
  clear cH
  go_upto_region 11 with (first|(go_at_call 61;(with_reducible refine (HX.out 3 _ S.kk S.P).mono ?_);rintro e wx ⟨v,rfl,hv,hP1,hB1,hk1⟩;have S0:=S.called hP1 hB1 hk1)|(go_at_call 60;(with_reducible refine (HB.out 3 _ _ hv S0.kk).mono ?_);rintro e w1 ⟨rfl,hb1⟩;have S1:=S0.kept hb1;have cX:=S1.X.cell;have fX:=S1.X.frozen;have cH:=S1.H.cell))
  clear S S0 hP1 hB1 hk1 hb1 hv
  have S':=((S1.set 3 (.int .i64 (btake (pt L 3)).1)).set 4 (.int .i64 (btake (pt L 3)).2.1))
  clear cX fX cH S1
  have S:RdS w0 w0.heap.size (w0.heap.size+1) gh #[.int .i64 (kn:Int),.int .i64 (pnum L 1),.int .i64 (pnum L 2),.int .i64 (btake (pt L 3)).1,.int .i64 (btake (pt L 3)).2.1,.int .i64 0,.int .i64 0,.int .i64 0,.int .i64 0,.int .i64 0,.int .i64 0,.string ⟨#[]⟩,.string ⟨#[]⟩,.int .i64 0,.slice none 0 0,.int .i64 0,.int .i64 0,.int .i64 0] #[.bool true,.bool true,.bool true,.bool g3,.bool g4,.bool false] (L.drop 4) _:=S'
  clear S'
  revert S
  generalize World.setCell _ _ _=W
  intro S
  have cH:=S.H.cell
  go_upto_region 12 with fail
  clear cH
  go_upto_region 13 with (go_at_call 59;(with_reducible refine (HN.out 4 _ S.kk S.P).mono ?_);rintro e w1 ⟨rfl,hP1,hB1,hk1⟩;have S1:=S.called hP1 hB1 hk1;have cX:=S1.X.cell;have fX:=S1.X.frozen;have cH:=S1.H.cell)
  clear S hP1 hB1 hk1
  have S':=(S1.set 7 (.int .i64 (pnum L 4)))
  clear cX fX cH S1
  have S:RdS w0 w0.heap.size (w0.heap.size+1) gh #[.int .i64 (kn:Int),.int .i64 (pnum L 1),.int .i64 (pnum L 2),.int .i64 (btake (pt L 3)).1,.int .i64 (btake (pt L 3)).2.1,.int .i64 0,.int .i64 0,.int .i64 (pnum L 4),.int .i64 0,.int .i64 0,.int .i64 0,.string ⟨#[]⟩,.string ⟨#[]⟩,.int .i64 0,.slice none 0 0,.int .i64 0,.int .i64 0,.int .i64 0] #[.bool true,.bool true,.bool true,.bool g3,.bool g4,.bool false] (L.drop 5) _:=S'
  clear S'
  revert S
  generalize World.setCell _ _ _=W
  intro S
  have cH:=S.H.cell
  clear cH
  go_upto_region 14 with (first|(go_at_call 61;(with_reducible refine (HX.out 5 _ S.kk S.P).mono ?_);rintro e wx ⟨v,rfl,hv,hP1,hB1,hk1⟩;have S0:=S.called hP1 hB1 hk1)|(go_at_call 60;(with_reducible refine (HB.out 5 _ _ hv S0.kk).mono ?_);rintro e w1 ⟨rfl,hb1⟩;have S1:=S0.kept hb1;have cX:=S1.X.cell;have fX:=S1.X.frozen;have cH:=S1.H.cell))
  clear S S0 hP1 hB1 hk1 hb1 hv
  have S':=((S1.set 5 (.int .i64 (btake (pt L 5)).1)).set 6 (.int .i64 (btake (pt L 5)).2.1))
  clear cX fX cH S1
  have S:RdS w0 w0.heap.size (w0.heap.size+1) gh #[.int .i64 (kn:Int),.int .i64 (pnum L 1),.int .i64 (pnum L 2),.int .i64 (btake (pt L 3)).1,.int .i64 (btake (pt L 3)).2.1,.int .i64 (btake (pt L 5)).1,.int .i64 (btake (pt L 5)).2.1,.int .i64 (pnum L 4),.int .i64 0,.int .i64 0,.int .i64 0,.string ⟨#[]⟩,.string ⟨#[]⟩,.int .i64 0,.slice none 0 0,.int .i64 0,.int .i64 0,.int .i64 0] #[.bool true,.bool true,.bool true,.bool g3,.bool g4,.bool false] (L.drop 6) _:=S'
  clear S'
  revert S
  generalize World.setCell _ _ _=W
  intro S
  have cH:=S.H.cell
  have l1:=msg_load S.X
  have hof:Calls Tryd.prog 54 #[.agg #[.int .i64 (kn:Int),.int .i64 (pnum L 1),.int .i64 (pnum L 2),.int .i64 (btake (pt L 3)).1,.int .i64 (btake (pt L 3)).2.1,.int .i64 (btake (pt L 5)).1,.int .i64 (btake (pt L 5)).2.1,.int .i64 (pnum L 4),.int .i64 0,.int .i64 0,.int .i64 0,.string ⟨#[]⟩,.string ⟨#[]⟩,.int .i64 0,.slice none 0 0,.int .i64 0,.int .i64 0,.int .i64 0]] W (Gives W (.agg #[.bool true,.bool true,.bool true,.bool true,.bool true,.bool false])):=HO.out ⟨(kn:Int),(pnum L 1),(pnum L 2),(btake (pt L 3)).1,(btake (pt L 3)).2.1,(btake (pt L 5)).1,(btake (pt L 5)).2.1,(pnum L 4),0,0,0,⟨#[]⟩,⟨#[]⟩,0,none,0,0,0,0,0,[]⟩ W rfl rfl S.kk
  have HOF:=Lib.hid hof
  clear hof cH
  go_upto_region 15 with (go_at_call 54;(with_reducible refine HOF.out.mono ?_);rintro e w1 ⟨rfl,hb1⟩;have S1:=S.kept hb1;have cH:=S1.H.cell;have fH:=S1.H.frozen)
  have S':=S1.has6 (.bool true) (.bool true) (.bool true) (.bool true) (.bool true) (.bool false)
  clear cH fH S1 S l1 HOF hb1
  have S:RdS w0 w0.heap.size (w0.heap.size+1) gh #[.int .i64 (kn:Int),.int .i64 (pnum L 1),.int .i64 (pnum L 2),.int .i64 (btake (pt L 3)).1,.int .i64 (btake (pt L 3)).2.1,.int .i64 (btake (pt L 5)).1,.int .i64 (btake (pt L 5)).2.1,.int .i64 (pnum L 4),.int .i64 0,.int .i64 0,.int .i64 0,.string ⟨#[]⟩,.string ⟨#[]⟩,.int .i64 0,.slice none 0 0,.int .i64 0,.int .i64 0,.int .i64 0] #[.bool true,.bool true,.bool true,.bool true,.bool true,.bool false] (L.drop 6) _:=S'
  clear S'
  revert S
  generalize World.setCell _ _ _=W
  intro S
  have cH:=S.H.cell
  go_upto_region 16 with fail
  clear cH
  go_upto_region 17 with (first|(go_at_call 61;(with_reducible refine (HX.out 6 _ S.kk S.P).mono ?_);rintro e wx ⟨v,rfl,hv,hP1,hB1,hk1⟩;have S0:=S.called hP1 hB1 hk1)|(go_at_call 62;(with_reducible refine (HC.out 6 _ _ hv S0.kk).mono ?_);rintro e w1 ⟨rfl,hb1⟩;have S1:=S0.kept hb1;have cX:=S1.X.cell;have fX:=S1.X.frozen;have cH:=S1.H.cell))
  clear S S0 hP1 hB1 hk1 hb1 hv
  have S':=((((((S1.set 8 (.int .i64 (ctake (pt L 6)).k)).set 9 (.int .i64 (ctake (pt L 6)).c)).set 10 (.int .i64 (ctake (pt L 6)).q)).set 11 (.string (ctake (pt L 6)).y)).set 12 (.string (ctake (pt L 6)).x)).set 13 (.int .i64 (ctake (pt L 6)).r))
  clear cX fX cH S1
  have S:RdS w0 w0.heap.size (w0.heap.size+1) gh #[.int .i64 (kn:Int),.int .i64 (pnum L 1),.int .i64 (pnum L 2),.int .i64 (btake (pt L 3)).1,.int .i64 (btake (pt L 3)).2.1,.int .i64 (btake (pt L 5)).1,.int .i64 (btake (pt L 5)).2.1,.int .i64 (pnum L 4),.int .i64 (ctake (pt L 6)).k,.int .i64 (ctake (pt L 6)).c,.int .i64 (ctake (pt L 6)).q,.string (ctake (pt L 6)).y,.string (ctake (pt L 6)).x,.int .i64 (ctake (pt L 6)).r,.slice none 0 0,.int .i64 0,.int .i64 0,.int .i64 0] #[.bool true,.bool true,.bool true,.bool true,.bool true,.bool false] (L.drop 7) _:=S'
  clear S'
  revert S
  generalize World.setCell _ _ _=W
  intro S
  have cH:=S.H.cell
  go_upto_region 18 with fail
  clear cH
  go_upto_region 19 with (first|(go_at_call 61;(with_reducible refine (HX.out 7 _ S.kk S.P).mono ?_);rintro e wx ⟨v,rfl,hv,hP1,hB1,hk1⟩;have S0:=S.called hP1 hB1 hk1)|(go_at_call 63;(with_reducible refine (HA.out 7 _ _ hv S0.kk).mono ?_);rintro e w1 ⟨A,c,rfl,hI,hIc,hb1⟩;have S1:=S0.kept hb1;have cX:=S1.X.cell;have fX:=S1.X.frozen;have cH:=S1.H.cell))
  have hlt1:=S0.X.lt
  have hne:∀ad,A=some ad→ad.block≠w0.heap.size:=fun ad e=>by have:=hIc.2 ad e;omega
  have hIl:=hIc.1
  have hAb:∀ad,A=some ad→w0.heap.size≤ad.block:=fun ad e=>by have h1:=hIc.2 ad e;have h2:=S0.kk.size;omega
  clear S S0 hP1 hB1 hk1 hv hIc
  have hI2:=((((hI.set (p:=⟨w0.heap.size,14,none⟩) hne (.slice A ((atake (pt L 7)).getD azero).l.length c)).set (p:=⟨w0.heap.size,15,none⟩) hne (.int .i64 ((atake (pt L 7)).getD azero).q)).set (p:=⟨w0.heap.size,16,none⟩) hne (.int .i64 ((atake (pt L 7)).getD azero).t)))
  clear hI hb1 hlt1
  have S':=(((S1.set 14 (.slice A ((atake (pt L 7)).getD azero).l.length c)).set 15 (.int .i64 ((atake (pt L 7)).getD azero).q)).set 16 (.int .i64 ((atake (pt L 7)).getD azero).t))
  clear cX fX cH S1
  have S:RdS w0 w0.heap.size (w0.heap.size+1) gh #[.int .i64 (kn:Int),.int .i64 (pnum L 1),.int .i64 (pnum L 2),.int .i64 (btake (pt L 3)).1,.int .i64 (btake (pt L 3)).2.1,.int .i64 (btake (pt L 5)).1,.int .i64 (btake (pt L 5)).2.1,.int .i64 (pnum L 4),.int .i64 (ctake (pt L 6)).k,.int .i64 (ctake (pt L 6)).c,.int .i64 (ctake (pt L 6)).q,.string (ctake (pt L 6)).y,.string (ctake (pt L 6)).x,.int .i64 (ctake (pt L 6)).r,.slice A ((atake (pt L 7)).getD azero).l.length c,.int .i64 ((atake (pt L 7)).getD azero).q,.int .i64 ((atake (pt L 7)).getD azero).t,.int .i64 0] #[.bool true,.bool true,.bool true,.bool true,.bool true,.bool false] (L.drop 8) _:=S'
  clear S'
  revert S hI2
  generalize World.setCell _ _ _=W
  intro hI2 S
  have cH:=S.H.cell
  go_upto_region 21 with fail
  have l1:=msg_load S.X
  have l2:=msg_store S.X rfl
  have kk:=S.kk
  have hgm:=S.h1
  clear cH
  go_wp2_with fail
  refine bodyPost_ret (results_msg1 rfl rfl (S.X.msgSet rfl)) rfl ?_
  rw [←HRES.out]
  exact ⟨A,c,rfl,hI2.msgSet hne _,hIl,hAb,below_msgSet kk hgm _⟩
 ·rw [if_pos rfl] at hST
  subst hST
  go_upto_region 7 with fail
  clear cH
  go_upto_region 8 with (go_at_call 59;(with_reducible refine (HN.out 1 _ S.kk S.P).mono ?_);rintro e w1 ⟨rfl,hP1,hB1,hk1⟩;have S1:=S.called hP1 hB1 hk1;have cX:=S1.X.cell;have fX:=S1.X.frozen;have cH:=S1.H.cell)
  clear S hP1 hB1 hk1
  have S':=(S1.set 1 (.int .i64 (pnum L 1)))
  clear cX fX cH S1
  have S:RdS w0 w0.heap.size (w0.heap.size+1) gh #[.int .i64 (kn:Int),.int .i64 (pnum L 1),.int .i64 0,.int .i64 0,.int .i64 0,.int .i64 0,.int .i64 0,.int .i64 0,.int .i64 0,.int .i64 0,.int .i64 0,.string ⟨#[]⟩,.string ⟨#[]⟩,.int .i64 0,.slice none 0 0,.int .i64 0,.int .i64 0,.int .i64 0] #[.bool true,.bool true,.bool true,.bool g3,.bool g4,.bool false] (L.drop 2) _:=S'
  clear S'
  revert S
  generalize World.setCell _ _ _=W
  intro S
  have cH:=S.H.cell
  clear cH
  go_upto_region 9 with (go_at_call 59;(with_reducible refine (HN.out 2 _ S.kk S.P).mono ?_);rintro e w1 ⟨rfl,hP1,hB1,hk1⟩;have S1:=S.called hP1 hB1 hk1;have cX:=S1.X.cell;have fX:=S1.X.frozen;have cH:=S1.H.cell)
  clear S hP1 hB1 hk1
  have S':=(S1.set 2 (.int .i64 (pnum L 2)))
  clear cX fX cH S1
  have S:RdS w0 w0.heap.size (w0.heap.size+1) gh #[.int .i64 (kn:Int),.int .i64 (pnum L 1),.int .i64 (pnum L 2),.int .i64 0,.int .i64 0,.int .i64 0,.int .i64 0,.int .i64 0,.int .i64 0,.int .i64 0,.int .i64 0,.string ⟨#[]⟩,.string ⟨#[]⟩,.int .i64 0,.slice none 0 0,.int .i64 0,.int .i64 0,.int .i64 0] #[.bool true,.bool true,.bool true,.bool g3,.bool g4,.bool false] (L.drop 3) _:=S'
  clear S'
  revert S
  generalize World.setCell _ _ _=W
  intro S
  have cH:=S.H.cell
  go_upto_region 10 with fail
  clear cH
  go_upto_region 11 with (first|(go_at_call 61;(with_reducible refine (HX.out 3 _ S.kk S.P).mono ?_);rintro e wx ⟨v,rfl,hv,hP1,hB1,hk1⟩;have S0:=S.called hP1 hB1 hk1)|(go_at_call 60;(with_reducible refine (HB.out 3 _ _ hv S0.kk).mono ?_);rintro e w1 ⟨rfl,hb1⟩;have S1:=S0.kept hb1;have cX:=S1.X.cell;have fX:=S1.X.frozen;have cH:=S1.H.cell))
  clear S S0 hP1 hB1 hk1 hb1 hv
  have S':=((S1.set 3 (.int .i64 (btake (pt L 3)).1)).set 4 (.int .i64 (btake (pt L 3)).2.1))
  clear cX fX cH S1
  have S:RdS w0 w0.heap.size (w0.heap.size+1) gh #[.int .i64 (kn:Int),.int .i64 (pnum L 1),.int .i64 (pnum L 2),.int .i64 (btake (pt L 3)).1,.int .i64 (btake (pt L 3)).2.1,.int .i64 0,.int .i64 0,.int .i64 0,.int .i64 0,.int .i64 0,.int .i64 0,.string ⟨#[]⟩,.string ⟨#[]⟩,.int .i64 0,.slice none 0 0,.int .i64 0,.int .i64 0,.int .i64 0] #[.bool true,.bool true,.bool true,.bool g3,.bool g4,.bool false] (L.drop 4) _:=S'
  clear S'
  revert S
  generalize World.setCell _ _ _=W
  intro S
  have cH:=S.H.cell
  go_upto_region 12 with fail
  clear cH
  go_upto_region 13 with (go_at_call 59;(with_reducible refine (HN.out 4 _ S.kk S.P).mono ?_);rintro e w1 ⟨rfl,hP1,hB1,hk1⟩;have S1:=S.called hP1 hB1 hk1;have cX:=S1.X.cell;have fX:=S1.X.frozen;have cH:=S1.H.cell)
  clear S hP1 hB1 hk1
  have S':=(S1.set 7 (.int .i64 (pnum L 4)))
  clear cX fX cH S1
  have S:RdS w0 w0.heap.size (w0.heap.size+1) gh #[.int .i64 (kn:Int),.int .i64 (pnum L 1),.int .i64 (pnum L 2),.int .i64 (btake (pt L 3)).1,.int .i64 (btake (pt L 3)).2.1,.int .i64 0,.int .i64 0,.int .i64 (pnum L 4),.int .i64 0,.int .i64 0,.int .i64 0,.string ⟨#[]⟩,.string ⟨#[]⟩,.int .i64 0,.slice none 0 0,.int .i64 0,.int .i64 0,.int .i64 0] #[.bool true,.bool true,.bool true,.bool g3,.bool g4,.bool false] (L.drop 5) _:=S'
  clear S'
  revert S
  generalize World.setCell _ _ _=W
  intro S
  have cH:=S.H.cell
  clear cH
  go_upto_region 14 with (first|(go_at_call 61;(with_reducible refine (HX.out 5 _ S.kk S.P).mono ?_);rintro e wx ⟨v,rfl,hv,hP1,hB1,hk1⟩;have S0:=S.called hP1 hB1 hk1)|(go_at_call 60;(with_reducible refine (HB.out 5 _ _ hv S0.kk).mono ?_);rintro e w1 ⟨rfl,hb1⟩;have S1:=S0.kept hb1;have cX:=S1.X.cell;have fX:=S1.X.frozen;have cH:=S1.H.cell))
  clear S S0 hP1 hB1 hk1 hb1 hv
  have S':=((S1.set 5 (.int .i64 (btake (pt L 5)).1)).set 6 (.int .i64 (btake (pt L 5)).2.1))
  clear cX fX cH S1
  have S:RdS w0 w0.heap.size (w0.heap.size+1) gh #[.int .i64 (kn:Int),.int .i64 (pnum L 1),.int .i64 (pnum L 2),.int .i64 (btake (pt L 3)).1,.int .i64 (btake (pt L 3)).2.1,.int .i64 (btake (pt L 5)).1,.int .i64 (btake (pt L 5)).2.1,.int .i64 (pnum L 4),.int .i64 0,.int .i64 0,.int .i64 0,.string ⟨#[]⟩,.string ⟨#[]⟩,.int .i64 0,.slice none 0 0,.int .i64 0,.int .i64 0,.int .i64 0] #[.bool true,.bool true,.bool true,.bool g3,.bool g4,.bool false] (L.drop 6) _:=S'
  clear S'
  revert S
  generalize World.setCell _ _ _=W
  intro S
  have cH:=S.H.cell
  have l1:=msg_load S.X
  have hof:Calls Tryd.prog 54 #[.agg #[.int .i64 (kn:Int),.int .i64 (pnum L 1),.int .i64 (pnum L 2),.int .i64 (btake (pt L 3)).1,.int .i64 (btake (pt L 3)).2.1,.int .i64 (btake (pt L 5)).1,.int .i64 (btake (pt L 5)).2.1,.int .i64 (pnum L 4),.int .i64 0,.int .i64 0,.int .i64 0,.string ⟨#[]⟩,.string ⟨#[]⟩,.int .i64 0,.slice none 0 0,.int .i64 0,.int .i64 0,.int .i64 0]] W (Gives W (.agg #[.bool true,.bool true,.bool true,.bool false,.bool false,.bool false])):=HO.out ⟨(kn:Int),(pnum L 1),(pnum L 2),(btake (pt L 3)).1,(btake (pt L 3)).2.1,(btake (pt L 5)).1,(btake (pt L 5)).2.1,(pnum L 4),0,0,0,⟨#[]⟩,⟨#[]⟩,0,none,0,0,0,0,0,[]⟩ W rfl rfl S.kk
  have HOF:=Lib.hid hof
  clear hof cH
  go_upto_region 15 with (go_at_call 54;(with_reducible refine HOF.out.mono ?_);rintro e w1 ⟨rfl,hb1⟩;have S1:=S.kept hb1;have cH:=S1.H.cell;have fH:=S1.H.frozen)
  have S':=S1.has6 (.bool true) (.bool true) (.bool true) (.bool false) (.bool false) (.bool false)
  clear cH fH S1 S l1 HOF hb1
  have S:RdS w0 w0.heap.size (w0.heap.size+1) gh #[.int .i64 (kn:Int),.int .i64 (pnum L 1),.int .i64 (pnum L 2),.int .i64 (btake (pt L 3)).1,.int .i64 (btake (pt L 3)).2.1,.int .i64 (btake (pt L 5)).1,.int .i64 (btake (pt L 5)).2.1,.int .i64 (pnum L 4),.int .i64 0,.int .i64 0,.int .i64 0,.string ⟨#[]⟩,.string ⟨#[]⟩,.int .i64 0,.slice none 0 0,.int .i64 0,.int .i64 0,.int .i64 0] #[.bool true,.bool true,.bool true,.bool false,.bool false,.bool false] (L.drop 6) _:=S'
  clear S'
  revert S
  generalize World.setCell _ _ _=W
  intro S
  have cH:=S.H.cell
  go_upto_region 17 with fail
  go_upto_region 19 with fail
  go_upto_region 21 with fail
  have l1:=msg_load S.X
  have l2:=msg_store S.X rfl
  have kk:=S.kk
  have hgm:=S.h1
  clear cH
  go_wp2_with fail
  refine bodyPost_ret (results_msg1 rfl rfl (S.X.msgSet rfl)) rfl ?_
  rw [←HRES.out]
  exact ⟨none,0,rfl,IdsAt.nil,Nat.le_refl _,(fun _ h=>by cases h),below_msgSet kk hgm _⟩
 ·rw [if_neg (by decide)] at hST
  subst hST
  go_upto_region 9 with fail
  go_upto_region 11 with fail
  go_upto_region 14 with fail
  have l1:=msg_load S.X
  have hof:Calls Tryd.prog 54 #[.agg #[.int .i64 (kn:Int),.int .i64 0,.int .i64 0,.int .i64 0,.int .i64 0,.int .i64 0,.int .i64 0,.int .i64 0,.int .i64 0,.int .i64 0,.int .i64 0,.string ⟨#[]⟩,.string ⟨#[]⟩,.int .i64 0,.slice none 0 0,.int .i64 0,.int .i64 0,.int .i64 0]] W (Gives W (.agg #[.bool false,.bool false,.bool false,.bool false,.bool false,.bool true])):=HO.out ⟨(kn:Int),0,0,0,0,0,0,0,0,0,0,⟨#[]⟩,⟨#[]⟩,0,none,0,0,0,0,0,[]⟩ W rfl rfl S.kk
  have HOF:=Lib.hid hof
  clear hof cH
  go_upto_region 15 with (go_at_call 54;(with_reducible refine HOF.out.mono ?_);rintro e w1 ⟨rfl,hb1⟩;have S1:=S.kept hb1;have cH:=S1.H.cell;have fH:=S1.H.frozen)
  have S':=S1.has6 (.bool false) (.bool false) (.bool false) (.bool false) (.bool false) (.bool true)
  clear cH fH S1 S l1 HOF hb1
  have S:RdS w0 w0.heap.size (w0.heap.size+1) gh #[.int .i64 (kn:Int),.int .i64 0,.int .i64 0,.int .i64 0,.int .i64 0,.int .i64 0,.int .i64 0,.int .i64 0,.int .i64 0,.int .i64 0,.int .i64 0,.string ⟨#[]⟩,.string ⟨#[]⟩,.int .i64 0,.slice none 0 0,.int .i64 0,.int .i64 0,.int .i64 0] #[.bool false,.bool false,.bool false,.bool false,.bool false,.bool true] (L.drop 1) _:=S'
  clear S'
  revert S
  generalize World.setCell _ _ _=W
  intro S
  have cH:=S.H.cell
  go_upto_region 17 with fail
  go_upto_region 19 with fail
  go_upto_region 20 with fail
  clear cH
  go_upto_region 21 with (go_at_call 59;(with_reducible refine (HN.out 1 _ S.kk S.P).mono ?_);rintro e w1 ⟨rfl,hP1,hB1,hk1⟩;have S1:=S.called hP1 hB1 hk1;have cX:=S1.X.cell;have fX:=S1.X.frozen;have cH:=S1.H.cell)
  clear S hP1 hB1 hk1
  have S':=(S1.set 17 (.int .i64 (pnum L 1)))
  clear cX fX cH S1
  have S:RdS w0 w0.heap.size (w0.heap.size+1) gh #[.int .i64 (kn:Int),.int .i64 0,.int .i64 0,.int .i64 0,.int .i64 0,.int .i64 0,.int .i64 0,.int .i64 0,.int .i64 0,.int .i64 0,.int .i64 0,.string ⟨#[]⟩,.string ⟨#[]⟩,.int .i64 0,.slice none 0 0,.int .i64 0,.int .i64 0,.int .i64 (pnum L 1)] #[.bool false,.bool false,.bool false,.bool false,.bool false,.bool true] (L.drop 2) _:=S'
  clear S'
  revert S
  generalize World.setCell _ _ _=W
  intro S
  have cH:=S.H.cell
  have l1:=msg_load S.X
  have l2:=msg_store S.X rfl
  have kk:=S.kk
  have hgm:=S.h1
  clear cH
  go_wp2_with fail
  refine bodyPost_ret (results_msg1 rfl rfl (S.X.msgSet rfl)) rfl ?_
  rw [←HRES.out]
  exact ⟨none,0,rfl,IdsAt.nil,Nat.le_refl _,(fun _ h=>by cases h),below_msgSet kk hgm _⟩
end Go.Proofs.YtlolnakeancenaaDoor
