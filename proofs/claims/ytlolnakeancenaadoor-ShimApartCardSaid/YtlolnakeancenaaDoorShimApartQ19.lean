/- ids.number; slices.Chunk of items in twos; ids.Take at any item. The walk of attr.Old: an item, and an error's number. The walks of the document's Great and Frame. -/
import Derived.Test.YtlolnakeancenaaDoorShimApartQ0
import Derived.Test.YtlolnakeancenaaDoorShimApartQ14
import Derived.Test.YtlolnakeancenaaDoorShimApartQ10
import Derived.Test.YtlolnakeancenaaDoorShimApartQ11
import Derived.Test.YtlolnakeancenaaDoorShimApartQ12
import Derived.Test.YtlolnakeancenaaDoorShimApartQ17
import Derived.Test.YtlolnakeancenaaDoorShimApartQ18
import Derived.Test.YtlolnakeancenaaDoorShimApartQ16
import Derived.Test.YtlolnakeancenaaDoorShimApartQ7
import Derived.RangeFuncNested
import Derived.RangeFuncBound
import Derived.RangeFuncCalls
import Derived.RangeFuncLeaves
import Derived.RangeFuncBox
import Derived.Shelf.Abstract
import Derived.Shelf.RegionOpen
import Derived.OwnWalkIn
import Derived.TacticsInMore
import Derived.LoopNIn
import Derived.LoopIn
import Derived.WalkKit
import Derived.WalkSpells
import Derived.WalkLawsBesides
import Derived.Deep.RegionHeld3
import Derived.Deep.DrawnRows
import Derived.Deep.DeepCutAuto
import Derived.Deep.DeepFit
import Derived.Lib.Hide
import Derived.BigQuiet
import Derived.Deep.QuietTactic
namespace Go.Proofs.YtlolnakeancenaaDoor
open Go.RowKit
set_option linter.unusedVariables false
set_option linter.unusedSimpArgs false
set_option maxRecDepth 20000
attribute [local go_sem ↓] Go.wp_at_zero Go.wp_at_succ
attribute [local go_sem] World.cell?_alloc_some frozen_alloc_some
attribute [local go_sem] lt2 lt3 lt4 lt5
attribute [local simp] lt2 lt3 lt4 lt5
/-- Is it a number, and no more? -/
noncomputable def isN (t:Tree):Bool:=tsame t (.mk 0 (tN t) ByteArray.empty [])
set_option maxHeartbeats 2000000 in
theorem idnum_any (t:Tree) (v:Value) (w:World) (hv:Holds w t v):Calls Tryd.prog 100 #[v] w (Gives w (.tuple #[.int .i64 (clamp (tN t):Int),.bool (isN t)])):=by
 obtain ⟨k,n,s,l⟩:=t
 have hsm:∀W,Below w.heap.size w W→Calls Tryd.prog 15 #[v,numV n] W (Gives W (.bool (isN (.mk k n s l)))):=fun W h=>
  codecsame_any _ (.mk 0 n ByteArray.empty []) v _ W (hv.keep h) (hin_num W (fun _=>True) (by obtain ⟨_,_,_,_,_,hn,_⟩:=hv.open_;exact hn)).holds
 have hnum:=fun W=>num_any n W
 obtain ⟨A,m,c,rfl, -,hn, -⟩:=hv.open_
 have Hsm:=Lib.hid hsm
 show Calls _ _ _ _ (Gives w (.tuple #[.int .i64 (clamp n:Int),_]))
 generalize isN (.mk k n s l)=R at*
 have hw:IntKind.i64.wrap (min (n:Int) 4611686018427387904)=(clamp n:Int):=by rw [clamp_int,clamp_wrap]
 have HW:=Lib.hid hw
 unfold numV at hnum Hsm
 clear hsm hv hw
 go_enter Tryd.func100,Tryd.ntmps100
 go_upto_region 1 with fail
 have X0:Blk (w.alloc (.cells #[.int .i64 k,.int .u64 (n:Int),.string s,.slice A m c] 25)).drew w.heap.size 25 #[.int .i64 k,.int .u64 (n:Int),.string s,.slice A m c]:=(Blk.new w _ _).drew
 have k0:Below w.heap.size w (w.alloc (.cells #[.int .i64 k,.int .u64 (n:Int),.string s,.slice A m c] 25)).drew:=blw
 (refine wp_region_held_drew (S:=(S1 w.heap.size #[.int .i64 k,.int .u64 (n:Int),.string s,.slice A m c])) (by kernel_rfl) ?_ (fun hHeld=>?_);(· exact X0.cell))
 (refine take_op (i:=0) (v:=?_) rfl (by kernel_rfl) (by kernel_rfl) (by kernel_rfl) (fun _ _ _ h=>h) (by rfl) ?_ hHeld ?_;rotate_left;(· (intro wS hSw;(try dsimp only at hSw);go_simp;first|done|with_reducible rfl));simp only [Act.put,sta_,scz_,scs_]);(refine take_op (i:=1) (v:=?_) rfl (by kernel_rfl) (by kernel_rfl) (by kernel_rfl) (fun _ _ _ h=>h) (by rfl) ?_ hHeld ?_;rotate_left;(· (intro wS hSw;(try dsimp only at hSw);go_simp;first|done|with_reducible rfl));simp only [Act.put,sta_,scz_,scs_]);(refine take_op (i:=2) (v:=?_) rfl (by kernel_rfl) (by kernel_rfl) (by kernel_rfl) (fun _ _ _ h=>h) (by rfl) ?_ hHeld ?_;rotate_left;(· (intro wS hSw;(try dsimp only at hSw);go_simp;first|done|with_reducible rfl));simp only [Act.put,sta_,scz_,scs_]);(refine take_op (i:=3) (v:=?_) rfl (by kernel_rfl) (by kernel_rfl) (by kernel_rfl) (fun _ _ _ h=>h) (by rfl) ?_ hHeld ?_;rotate_left;(· (intro wS hSw;(try dsimp only at hSw);go_simp;first|done|with_reducible rfl));simp only [Act.put,sta_,scz_,scs_]);(refine take_op (i:=4) (v:=?_) rfl (by kernel_rfl) (by kernel_rfl) (by kernel_rfl) (fun _ _ _ h=>h) (by rfl) ?_ hHeld ?_;rotate_left;(· (intro wS hSw;(try dsimp only at hSw);go_simp;first|done|with_reducible rfl));simp only [Act.put,sta_,scz_,scs_]);(refine take_op (i:=5) (v:=?_) rfl (by kernel_rfl) (by kernel_rfl) (by kernel_rfl) (fun _ _ _ h=>h) (by rfl) ?_ hHeld ?_;rotate_left;(· (intro wS hSw;(try dsimp only at hSw);go_simp;first|done|with_reducible rfl));simp only [Act.put,sta_,scz_,scs_]);(refine take_op (i:=6) (v:=?_) rfl (by kernel_rfl) (by kernel_rfl) (by kernel_rfl) (fun _ _ _ h=>h) (by rfl) ?_ hHeld ?_;rotate_left;(· (intro wS hSw;(try dsimp only at hSw);go_simp;first|done|with_reducible rfl));simp only [Act.put,sta_,scz_,scs_])
 revert X0 k0
 generalize World.drew _=w0
 intro X0 k0
 (refine call_op (i:=7) rfl (by kernel_rfl) (by rfl) (fun K hK=>?_);go_simp;(go_at_call 53;(with_reducible refine (hnum _).mono ?_);rintro e w2 ⟨rfl,hb2⟩;have X2:=X0.keep hb2;have k2:=below_call k0 hb2 k0.size);refine hK.out _ _ X2.cell (fun hHeld2=>?_);clear hK K hHeld;have hHeld:=hHeld2;clear hHeld2;(try simp only [Act.put,sta_,scz_,scs_]))
 (refine call_op (i:=8) rfl (by kernel_rfl) (by rfl) (fun K hK=>?_);go_simp;(go_at_call 15;(with_reducible refine (Hsm.out _ k2).mono ?_);rintro e w3 ⟨rfl,hb3⟩;have X3:=X2.keep hb3;have k3:=below_call k2 hb3 k2.size);refine hK.out _ _ X3.cell (fun hHeld2=>?_);clear hK K hHeld;have hHeld:=hHeld2;clear hHeld2;(try simp only [Act.put,sta_,scz_,scs_]))
 (refine take_op (i:=9) (v:=?_) rfl (by kernel_rfl) (by kernel_rfl) (by kernel_rfl) (fun _ _ _ h=>h) (by rfl) ?_ hHeld ?_;rotate_left;(· (intro wS hSw;(try dsimp only at hSw);go_simp;first|done|with_reducible rfl));simp only [Act.put,sta_,scz_,scs_]);(refine take_op (i:=10) (v:=?_) rfl (by kernel_rfl) (by kernel_rfl) (by kernel_rfl) (fun _ _ _ h=>h) (by rfl) ?_ hHeld ?_;rotate_left;(· (intro wS hSw;(try dsimp only at hSw);go_simp;first|done|with_reducible rfl));simp only [Act.put,sta_,scz_,scs_])
 (refine wpAnyH_done (by kernel_rfl) ?_ _)
 have K3:=Lib.hid k3
 clear hHeld X0 X2 X3 k0 k2 k3
 go_wp2_with fail
 refine bodyPost_ret (v:=.tuple #[.int .i64 (IntKind.i64.wrap (min (n:Int) 4611686018427387904)),.bool R]) (by simp [results,Tryd.results100,go_sem, *] <;> rfl) rfl ?_
 exact ⟨by rw [HW.out],K3.out⟩
/-- A place of two items. -/
abbrev ChJ (h:Nat):Type:={ j:Nat // j<h }
/-- What two items are handed over as. -/
def chE (A:Option Addr) (j:Nat):Array Value:=#[.slice (A.map (·.add (2*j*4))) 2 2]
/-- What a round keeps: what lay below n₀, and the boxes. -/
def KpC (n₀ Bs Bn:Nat) (W W':World):Prop:=Below n₀ W W'∧(∀v,W.cell? ⟨Bs,0,none⟩=some v→W'.cell? ⟨Bs,0,none⟩=some v)∧(∀v,W.cell? ⟨Bn,0,none⟩=some v→W'.cell? ⟨Bn,0,none⟩=some v)
theorem kpC_t {n₀ Bs Bn:Nat} {A B C:World} (h:KpC n₀ Bs Bn A B) (k:KpC n₀ Bs Bn B C):KpC n₀ Bs Bn A C:=⟨h.1.trans k.1,fun v hv=>k.2.1 v (h.2.1 v hv),fun v hv=>k.2.2 v (h.2.2 v hv)⟩
theorem kpC_b {n₀ Bs Bn:Nat} {w:World} (hn:n₀≤w.heap.size) (hB:Bs<w.heap.size) (hB2:Bn<w.heap.size) (W:World) (l:Nat) (o o':Obj) (hl:w.heap.size≤l) (h:W.heap[l]? =some o) (h1:o.isCells=false) (h2:o.isWalk=false):KpC n₀ Bs Bn W (W.putObj l o'):=
 ⟨belowK_b hn W l o o' hl h h1 h2,fun v hv=>by
  have:=(belowK_b (n₀:=w.heap.size) (Nat.le_refl _) W l o o' hl h h1 h2).cell (p:=⟨Bs,0,none⟩) hB
  rw [this];exact hv,fun v hv=>by
  have:=(belowK_b (n₀:=w.heap.size) (Nat.le_refl _) W l o o' hl h h1 h2).cell (p:=⟨Bn,0,none⟩) hB2
  rw [this];exact hv⟩
section
attribute [local go_sem] Oper.semAt_some
set_option maxHeartbeats 1000000 in
theorem chunk1_in (l0 Bs Bn n₀:Nat) (A:Option Addr) (h c:Nat) (W:World) (hm:2*h≤1073741824) (hc:2*h≤c) (J Jx:List (ChJ h)→World→Prop) (hJ:AbidesFrom W.heap.size J)
  (hY:∀pre x W,J pre W→pre.length<h→YieldAt Fence.wide 20 Tryd.prog l0 (chE A x.1) W fun e W'=>
   (e= .returned (.bool true)∧J (pre++ [x]) W'∧KpC n₀ Bs Bn W W')∨(e= .returned (.bool false)∧Jx (pre++ [x]) W'))
  (hBs:W.cell? ⟨Bs,0,none⟩=some (.slice A (2*h) c)) (hBn:W.cell? ⟨Bn,0,none⟩=some (.int .i64 2)) (h0:J [] W) (hnW:n₀≤W.heap.size):
  CallsIn Fence.wide 21 Tryd.prog 108 #[.func (.yield l0) #[] #[],.pointer (some ⟨Bs,0,none⟩),.pointer (some ⟨Bn,0,none⟩)] W fun e W'=>(∃v,e= .returned v)∧
   ((∃ys:List (ChJ h),ys.map (·.1)=List.range h∧J ys W')∨(∃pre:List (ChJ h),True∧Jx pre W')):=by
 refine callsIn_of_wp Tryd.func108 rfl trivial ?_ rfl
 simp only [Tryd.ntmps108,List.size_toArray,List.length_cons,List.length_nil,Nat.reduceAdd,Nat.reduceSub,Array.replicate_succ,Array.replicate_zero,List.push_toArray,List.append_toArray,List.nil_append,List.cons_append]
 gi_wp2
 obtain ⟨m,hmE⟩:∃m,m=2*h:=⟨_,rfl⟩
 rw [←hmE] at hm hc hBs
 have HM:=Lib.hid hmE
 clear hmE
 gi_loopw [4] (fun p wr=>∃(i:Nat) (pre:List (ChJ h)),p= .int .i64 (i:Int)∧i≤m∧i=2*pre.length∧pre.map (·.1)=List.range pre.length∧J pre wr∧Below n₀ W wr∧wr.cell? ⟨Bs,0,none⟩=some (.slice A m c)∧wr.cell? ⟨Bn,0,none⟩=some (.int .i64 2))
  (fun p _=>m - (intOf p).toNat)
 case atStart=>exact ⟨0,[],rfl,by omega,rfl,rfl,h0,Below.refl _ _,hBs,hBn⟩
 case round=>
  obtain ⟨i,pre,rfl,hi,hpi,hx,hJs,hnx,hbs,hbn⟩:=hrel
  have HX:=Lib.hid hx
  have HJ:=Lib.hid hJs
  have HI:=Lib.hid hpi
  clear hx hJs hpi
  by_cases hlt:i<m
  ·have hlt':(i:Int)<(m:Int):=by omega
   have i0:(0:Int)≤(i:Int):=by omega
   have hi2:i+2≤m:=by have:=HI.out;have:=HM.out;omega
   have r1:min (2:Int) ((m - i:Nat):Int)=2:=by omega
   have r2:IntKind.i64.wrap ((i:Int)+2)=((i+2:Nat):Int):=by rw [show (i:Int)+2=((i+2:Nat):Int) by omega];exact IntWalk.i64_in _ (by omega)
   have q1:i+2≤c:=by omega
   have q2:¬c=i:=by omega
   gi_wp2
   refine wpIn_wide.2 ?_
   (refine wp_region_held_drew (S:=(S2 ⟨Bs,0,none⟩ ⟨Bn,0,none⟩ (.slice A m c) (.int .i64 2))) (by kernel_rfl) ?_ (fun hHeld=>?_);(· exact ⟨cell_keep (Below.refl _ _).drew hbs,cell_keep (Below.refl _ _).drew hbn⟩))
   (refine take_op (i:=0) (v:=?_) rfl (by kernel_rfl) (by kernel_rfl) (by kernel_rfl) (fun _ _ _ h=>h) (by rfl) ?_ hHeld ?_;rotate_left;(· (intro wS hSw;(try dsimp only at hSw);go_simp;first|done|with_reducible rfl));simp only [Act.put,sta_,scz_,scs_]);(refine take_op (i:=1) (v:=?_) rfl (by kernel_rfl) (by kernel_rfl) (by kernel_rfl) (fun _ _ _ h=>h) (by rfl) ?_ hHeld ?_;rotate_left;(· (intro wS hSw;(try dsimp only at hSw);go_simp;first|done|with_reducible rfl));simp only [Act.put,sta_,scz_,scs_]);(refine take_op (i:=2) (v:=?_) rfl (by kernel_rfl) (by kernel_rfl) (by kernel_rfl) (fun _ _ _ h=>h) (by rfl) ?_ hHeld ?_;rotate_left;(· (intro wS hSw;(try dsimp only at hSw);go_simp;first|done|with_reducible rfl));simp only [Act.put,sta_,scz_,scs_]);(refine take_op (i:=3) (v:=?_) rfl (by kernel_rfl) (by kernel_rfl) (by kernel_rfl) (fun _ _ _ h=>h) (by rfl) ?_ hHeld ?_;rotate_left;(· (intro wS hSw;(try dsimp only at hSw);go_simp;first|done|with_reducible rfl));simp only [Act.put,sta_,scz_,scs_]);(refine take_op (i:=4) (v:=?_) rfl (by kernel_rfl) (by kernel_rfl) (by kernel_rfl) (fun _ _ _ h=>h) (by rfl) ?_ hHeld ?_;rotate_left;(· (intro wS hSw;(try dsimp only at hSw);go_simp;first|done|with_reducible rfl));simp only [Act.put,sta_,scz_,scs_]);(refine take_op (i:=5) (v:=?_) rfl (by kernel_rfl) (by kernel_rfl) (by kernel_rfl) (fun _ _ _ h=>h) (by rfl) ?_ hHeld ?_;rotate_left;(· (intro wS hSw;(try dsimp only at hSw);go_simp;first|done|with_reducible rfl));simp only [Act.put,sta_,scz_,scs_]);(refine take_op (i:=6) (v:=?_) rfl (by kernel_rfl) (by kernel_rfl) (by kernel_rfl) (fun _ _ _ h=>h) (by rfl) ?_ hHeld ?_;rotate_left;(· (intro wS hSw;(try dsimp only at hSw);go_simp;first|done|with_reducible rfl));simp only [Act.put,sta_,scz_,scs_])
   have hbd:Below wr.heap.size wr wr.drew:=(Below.refl _ _).drew
   revert hHeld hbd
   generalize World.drew _=wd
   intro hHeld hbd
   (refine wpAnyH_done (by kernel_rfl) ?_ _)
   have hbs2:=hHeld.1
   have hbn2:=hHeld.2
   have hJ2:=hJ _ _ _ none HJ.out (grown_of_below hbd none) (by simp)
   have hB2:=Lib.hid (hnx.trans (hbd.mono (by have:=hnx.size;omega)))
   have C2:=Lib.hid (And.intro hbs2 hbn2)
   obtain ⟨fn,tmps,assign,body,hy,hRd⟩:=hY pre ⟨pre.length,by have:=HI.out;have:=HM.out;omega⟩ wd hJ2 (by have:=HI.out;have:=HM.out;omega)
   dsimp only [chE] at hy
   rw [←HI.out] at hy
   clear hHeld hbd hbs hbn hbn2 hJ2
   gi_wp2
   refine hRd.mono ?_
   rintro e W3 (⟨rfl,hJ3,hk3⟩|⟨rfl,hJx3⟩)
   ·have hbn3:=hk3.2.2 _ C2.out.2
    have hbs3:=hk3.2.1 _ C2.out.1
    gi_wp2
    go_roundw
    case rel=>exact ⟨i+2,pre++ [⟨pre.length,by have:=HI.out;have:=HM.out;omega⟩],rfl,hi2,by have:=HI.out;simp;omega,by rw [List.map_append,HX.out];simp [List.range_succ],hJ3,hB2.out.trans hk3.1,hbs3,hbn3⟩
    case measure=>simp [intOf];omega
   ·gi_wp2
    refine bodyPost_ret (results_none rfl _ _ _) rfl ?_
    exact ⟨⟨_,rfl⟩,.inr ⟨_,trivial,hJx3⟩⟩
  ·have hlt':¬(i:Int)<(m:Int):=by omega
   have hph:pre.length=h:=by have:=HI.out;have:=HM.out;omega
   have Hfin:=Lib.hid (show pre.map (·.1)=List.range h from HX.out.trans (congrArg List.range hph))
   clear hph
   gi_wp2
   go_end0
   exact ⟨⟨_,rfl⟩,.inl ⟨pre,by have:=Hfin.out;first|exact this|simpa using this,HJ.out⟩⟩
end
theorem chunk_any (A:Option Addr) (n c:Nat) (w:World):
  Calls Tryd.prog 99 #[.slice A n c,.int .i64 2] w fun e w'=>e= .returned (.func (.func 108) #[] #[.pointer (some ⟨w.heap.size,0,none⟩),.pointer (some ⟨w.heap.size+1,0,none⟩)])∧w'=(w.alloc (.cells #[.slice A n c] 23)).alloc (.cells #[.int .i64 2] 3):=by
 go_enter Tryd.func99,Tryd.ntmps99
 go_wp2_with fail
 go_ret
 exact ⟨by simp,rfl⟩
theorem chunk_stops (Bs Bn n₀:Nat) (A:Option Addr) (h c:Nat) (w:World) (hm:2*h≤1073741824) (hc:2*h≤c) (hBs:w.cell? ⟨Bs,0,none⟩=some (.slice A (2*h) c)) (hBn:w.cell? ⟨Bn,0,none⟩=some (.int .i64 2)) (hnW:n₀≤w.heap.size):
  SeqStopsK Fence.wide 21 Tryd.prog 108 #[.pointer (some ⟨Bs,0,none⟩),.pointer (some ⟨Bn,0,none⟩)] (fun x:ChJ h=>chE A x.1) (KpC n₀ Bs Bn) (fun ys=>ys.map (·.1)=List.range h) (fun _=>True) h w:=fun l0 J Jx W hW hJ _ hY h0=>
 chunk1_in l0 Bs Bn n₀ A h c W hm hc J Jx hJ hY (cell_keep hW hBs) (cell_keep hW hBn) h0 (Nat.le_trans hnW hW.size)
end Go.Proofs.YtlolnakeancenaaDoor
namespace Go.Proofs.YtlolnakeancenaaDoor
open Go.RowKit
set_option linter.unusedVariables false
set_option linter.unusedSimpArgs false
set_option maxRecDepth 20000
attribute [local go_sem ↓] Go.wp_at_zero Go.wp_at_succ
attribute [local go_sem] World.cell?_alloc_some frozen_alloc_some
attribute [local go_sem] lt2 lt3 lt4 lt5
attribute [local simp] lt2 lt3 lt4 lt5
def oldE (a:AttrP):Int:=if acheck a≠0 then 4 else if a.t≠1 then 17 else 0
set_option maxHeartbeats 4000000 in
theorem attrold_any (A:Option Addr) (m c:Nat) (sq tg:Int) (l:List IdP) (w:World) (h1:IdsAt w A m l) (hm:m≤1000000):Calls Tryd.prog 65 #[.agg #[.slice A m c,.int .i64 sq,.int .i64 tg]] w
  (fun e w'=>∃(k n:Int) (s:ByteArray) (A':Option Addr) (m' c':Nat),e= .returned (.tuple #[.agg #[.int .i64 k,.int .u64 n,.string s,.slice A' m' c'],.int .i64 (oldE ⟨l,sq,tg⟩)])∧(oldE ⟨l,sq,tg⟩=0→HoldsIn w' (fun x=>w.heap.size≤x) (otree l sq) (.agg #[.int .i64 k,.int .u64 n,.string s,.slice A' m' c']))∧Below w.heap.size w w'):=by
 have hck:=fun W (hb:Below w.heap.size w W)=>attrcheck_any A m c sq tg l W (h1.keep hb)
 have hol:=fun W (hb:Below w.heap.size w W)=>attroldi_any A m c sq tg l W (h1.keep hb) hm
 obtain ⟨R,hR⟩:∃R,R=oldE ⟨l,sq,tg⟩:=⟨_,rfl⟩
 rw [←hR]
 unfold oldE at hR
 generalize acheck ⟨l,sq,tg⟩=g7 at hck hR
 have HR:=Lib.hid hR
 have Hck:=Lib.hid hck
 unfold listV at hol
 have Hol:=Lib.hid hol
 clear hR hck hol h1
 have B0:Blk ((w.alloc (.cells #[.slice A m c,.int .i64 sq,.int .i64 tg] 48)).alloc (.cells #[.int .i64 0,.int .u64 0,.string ⟨#[]⟩,.slice none 0 0] 25)) w.heap.size 48 #[.slice A m c,.int .i64 sq,.int .i64 tg]:=(Blk.new w _ _).alloc _
 have R0:Blk ((w.alloc (.cells #[.slice A m c,.int .i64 sq,.int .i64 tg] 48)).alloc (.cells #[.int .i64 0,.int .u64 0,.string ⟨#[]⟩,.slice none 0 0] 25)) (w.heap.size+1) 25 #[.int .i64 0,.int .u64 0,.string ⟨#[]⟩,.slice none 0 0]:=Blk.newAt (by simp)
 by_cases z7:g7=0
 case neg=>
  obtain rfl:R=4:=by rw [HR.out,if_pos z7]
  have z7':((g7:Int) != 0)=true:=by simp;omega
  go_enter Tryd.func65,Tryd.ntmps65
  go_wp2_with (go_at_call 70;(with_reducible refine (Hck.out _ (blw)).mono ?_);rintro e w1 ⟨rfl,hb1⟩;have k1:Below w.heap.size w w1:=(blw);have z1:=hb1.size;(try simp at z1);have B1:=B0.keep hb1;have R1:=R0.keep hb1;have B1c:=B1.cell;have R1c:=R1.cell;have R1f:=R1.frozen;clear hb1)
  refine bodyPost_ret (v:=.tuple #[.agg #[.int .i64 0,.int .u64 0,.string ByteArray.empty,.slice none 0 0],.int .i64 4]) (by simp [results,Tryd.results65,go_sem, *] <;> rfl) rfl ?_
  exact ⟨_,_,_,_,_,_,rfl,fun h=>absurd h (by decide),blw⟩
 subst z7
 by_cases t1:tg=1
 case neg=>
  obtain rfl:R=17:=by rw [HR.out];simp [t1]
  have t1':(tg != (1:Int))=true:=by simp [t1]
  go_enter Tryd.func65,Tryd.ntmps65
  go_wp2_with (go_at_call 70;(with_reducible refine (Hck.out _ (blw)).mono ?_);rintro e w1 ⟨rfl,hb1⟩;have k1:Below w.heap.size w w1:=(blw);have z1:=hb1.size;(try simp at z1);have B1:=B0.keep hb1;have R1:=R0.keep hb1;have B1c:=B1.cell;have R1c:=R1.cell;have R1f:=R1.frozen;clear hb1)
  refine bodyPost_ret (v:=.tuple #[.agg #[.int .i64 0,.int .u64 0,.string ByteArray.empty,.slice none 0 0],.int .i64 17]) (by simp [results,Tryd.results65,go_sem, *] <;> rfl) rfl ?_
  exact ⟨_,_,_,_,_,_,rfl,fun h=>absurd h (by decide),blw⟩
 have t1':(tg != (1:Int))=false:=by simp [t1]
 obtain rfl:R=0:=by rw [HR.out];simp [t1]
 clear t1
 go_enter Tryd.func65,Tryd.ntmps65
 go_wp2_with (first|(go_at_call 70;(with_reducible refine (Hck.out _ (blw)).mono ?_);rintro e w1 ⟨rfl,hb1⟩;have k1:Below w.heap.size w w1:=(blw);have z1:=hb1.size;(try simp at z1);have B1:=B0.keep hb1;have R1:=R0.keep hb1;have B1c:=B1.cell;have R1c:=R1.cell;have R1f:=R1.frozen;clear hb1)|(go_at_call 86;(with_reducible refine (Hol.out _ k1).mono ?_);rintro e w2 ⟨A2,c2,rfl,hin2,hb2⟩;have Hin2:=Lib.hid hin2;clear hin2;have z2:=hb2.size;have k2:=below_call k1 hb2 k1.size;have R2:=R1.keep hb2;have R2c:=R2.cell;have R2f:=R2.frozen))
 refine bodyPost_ret (v:=.tuple #[.agg #[.int .i64 2,.int .u64 0,.string ByteArray.empty,.slice A2 2 c2],.int .i64 0]) (by simp [results,Tryd.results65,go_sem, *] <;> rfl) rfl ?_
 exact ⟨_,_,_,_,_,_,rfl,fun _=>(hin_set4 Hin2.out (by omega) _ _ _ _).mono (fun b hb=>by omega),blw⟩
end Go.Proofs.YtlolnakeancenaaDoor
namespace Go.Proofs.YtlolnakeancenaaDoor
open Go.RowKit
set_option linter.unusedVariables false
set_option linter.unusedSimpArgs false
set_option maxRecDepth 20000
attribute [local go_sem ↓] Go.wp_at_zero Go.wp_at_succ
attribute [local go_sem] World.cell?_alloc_some frozen_alloc_some
/-- Is a message more than is looked at? -/
def mgreat (M:MsgT):Bool:=decide (60<M.m)||cgreat M.cy M.cx
theorem mgreat_no {M:MsgT} (h:mgreat M=false):M.m≤60∧M.cy.size≤200∧M.cx.size≤2000:=by
 unfold mgreat cgreat at h
 simp only [Bool.or_eq_false_iff,decide_eq_false_iff_not,Nat.not_lt] at h
 exact h
attribute [local go_sem ↓ high] loadVar_msg storeVar_msg msg_store_new
set_option maxHeartbeats 2000000 in
theorem great10_any (M:MsgT) (w:World):Calls Tryd.prog 16 #[M.v] w (Gives w (.bool (mgreat M))):=by
 have hg:=fun W=>great_any M.ck M.cc M.cq M.cy M.cx M.cr W
 unfold mgreat
 obtain ⟨k,i,n,br,bb,tr,tb,st,ck,cc,cq,cy,cx,cr,A,m,cap,sq,tg,ver,l⟩:=M
 simp only [MsgT.v] at hg ⊢
 generalize cgreat cy cx=g at*
 by_cases h:60<m
 ·have h':((60:Int)<(m:Int)):=by omega
  rw [decide_eq_true h]
  have HG:=Lib.hid hg
  clear hg h
  go_enter Tryd.func16,Tryd.ntmps16
  go_wp2_with fail
  go_ret
  exact ⟨rfl,blw⟩
 ·have h':¬((60:Int)<(m:Int)):=by omega
  rw [decide_eq_false h]
  have HG:=Lib.hid hg
  clear hg h
  go_enter Tryd.func16,Tryd.ntmps16
  go_wp2_with (go_at_call 34;(with_reducible refine (HG.out _).mono ?_);rintro e w1 ⟨rfl,hb1⟩;have hz1:=hb1.size;(try simp at hz1))
  go_ret
  exact ⟨rfl,blw⟩
end Go.Proofs.YtlolnakeancenaaDoor
