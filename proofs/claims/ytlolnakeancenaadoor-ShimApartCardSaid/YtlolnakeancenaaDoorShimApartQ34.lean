/- The walks of attr.number, attr.taken, attr.Take, attr.TakeOld at any item. -/
import Derived.Test.YtlolnakeancenaaDoorShimApartQ12
import Derived.Test.YtlolnakeancenaaDoorShimApartQ17
import Derived.Test.YtlolnakeancenaaDoorShimApartQ24
import Derived.WalkKit
import Derived.WalkSpells
import Derived.WalkLawsBesides
import Derived.Deep.RegionHeld3
import Derived.Deep.DrawnRows
import Derived.Deep.DeepCutAuto
import Derived.Deep.DeepFit
import Derived.Lib.Hide
import Derived.BigQuiet
import Derived.Deep.QuietTactic
namespace Go.Proofs.YtlolnakeancenaaDoor
open Go.RowKit
set_option linter.unusedVariables false
set_option linter.unusedSimpArgs false
set_option maxRecDepth 20000
attribute [local go_sem ↓] Go.wp_at_zero Go.wp_at_succ
attribute [local go_sem] World.cell?_alloc_some frozen_alloc_some
attribute [local go_sem] lt2 lt3 lt4 lt5
attribute [local simp] lt2 lt3 lt4 lt5
theorem attrnum_any (t:Tree) (v:Value) (w:World) (hv:Holds w t v):Calls Tryd.prog 84 #[v] w (Gives w (.int .i64 (clamp (tN t):Int))):=by
 obtain ⟨k,n,s,l⟩:=t
 obtain ⟨A,m,c,rfl, -,hn, -⟩:=hv.open_
 have hw:IntKind.i64.wrap (min (n:Int) 4611686018427387904)=(clamp n:Int):=by rw [clamp_int,clamp_wrap]
 have HW:=Lib.hid hw
 clear hw hv
 go_enter Tryd.func84,Tryd.ntmps84
 go_wp2_with fail
 go_ret
 exact ⟨by show Ending.returned (Value.int .i64 (min (n:Int) 4611686018427387904))=_;rw [clamp_int];rfl,blw⟩
set_option maxHeartbeats 4000000 in
theorem taken_item (A:Option Addr) (m c:Nat) (sq tg:Int) (l:List IdP) (ok:Bool) (t:Tree) (v:Value) (w:World) (h1:IdsAt w A m l) (hv:Holds w t v) (hm:m≤1000000):
  Calls Tryd.prog 83 #[.agg #[.slice A m c,.int .i64 sq,.int .i64 tg],.bool ok,v,.func (.func 58) #[] #[]] w
   (fun e w'=>Below w.heap.size w w'∧∃A' m' c' q' t',e= .returned (.tuple #[.agg #[.slice A' m' c',.int .i64 q',.int .i64 t'],.bool (ok&&decide (acheck ⟨l,sq,tg⟩=0)&&tsame t (atree l sq tg))])∧
    ((ok&&decide (acheck ⟨l,sq,tg⟩=0)&&tsame t (atree l sq tg))=true→A'=A∧m'=m∧c'=c∧q'=sq∧t'=tg)∧((ok&&decide (acheck ⟨l,sq,tg⟩=0)&&tsame t (atree l sq tg))=false→A'=none∧m'=0∧c'=0∧q'=0∧t'=0)):=by
 have hck:=fun W (hb:Below w.heap.size w W)=>attrcheck_any A m c sq tg l W (h1.keep hb)
 have hfo:=fun W (hb:Below w.heap.size w W)=>attritem_any A m c sq tg l W (h1.keep hb) hm
 have hsm:=fun x W (hb:Below w.heap.size w W) (hx:Holds W (atree l sq tg) x)=>codecsame_any t (atree l sq tg) v x W (Holds.keep hb hv) hx
 obtain ⟨R,hR⟩:∃R,tsame t (atree l sq tg)=R:=⟨_,rfl⟩
 rw [hR] at hsm ⊢
 obtain ⟨g7,hg7⟩:∃g,acheck ⟨l,sq,tg⟩=g:=⟨_,rfl⟩
 rw [hg7] at hck ⊢
 obtain ⟨xk,xn,xs,lt⟩:=t
 obtain ⟨xA,xm,xc,rfl, -, -, -, -, -, -, -⟩:=hv.open_
 unfold listV at hfo
 have Hck:=Lib.hid hck
 have Hfo:=Lib.hid hfo
 have Hsm:=Lib.hid hsm
 clear hck hfo hsm hR hg7 h1 hv
 have B0:Blk (((w.alloc (.cells #[.slice A m c,.int .i64 sq,.int .i64 tg] 48)).alloc (.cells #[.int .i64 xk,.int .u64 (xn:Int),.string xs,.slice xA xm xc] 25)).alloc (.cells #[.slice none 0 0,.int .i64 0,.int .i64 0] 48)) w.heap.size 48 #[.slice A m c,.int .i64 sq,.int .i64 tg]:=((Blk.new w _ _).alloc _).alloc _
 have X0:Blk (((w.alloc (.cells #[.slice A m c,.int .i64 sq,.int .i64 tg] 48)).alloc (.cells #[.int .i64 xk,.int .u64 (xn:Int),.string xs,.slice xA xm xc] 25)).alloc (.cells #[.slice none 0 0,.int .i64 0,.int .i64 0] 48)) (w.heap.size+1) 25 #[.int .i64 xk,.int .u64 (xn:Int),.string xs,.slice xA xm xc]:=(Blk.newAt (by simp)).alloc _
 have R0:Blk (((w.alloc (.cells #[.slice A m c,.int .i64 sq,.int .i64 tg] 48)).alloc (.cells #[.int .i64 xk,.int .u64 (xn:Int),.string xs,.slice xA xm xc] 25)).alloc (.cells #[.slice none 0 0,.int .i64 0,.int .i64 0] 48)) (w.heap.size+1+1) 48 #[.slice none 0 0,.int .i64 0,.int .i64 0]:=Blk.newAt (by simp)
 have k0:Below w.heap.size w (((w.alloc (.cells #[.slice A m c,.int .i64 sq,.int .i64 tg] 48)).alloc (.cells #[.int .i64 xk,.int .u64 (xn:Int),.string xs,.slice xA xm xc] 25)).alloc (.cells #[.slice none 0 0,.int .i64 0,.int .i64 0] 48)):=blw
 cases ok
 ·go_enter Tryd.func83,Tryd.ntmps83
  go_upto_region 1 with fail
  have PA:=B0.drew;have PX:=X0.drew;have PR:=R0.drew;have kk:=k0.drew
  clear B0 X0 R0 k0
  (refine wp_region_held_drew (S:=(S11 w.heap.size (w.heap.size+1) #[.slice A m c,.int .i64 sq,.int .i64 tg] #[.int .i64 xk,.int .u64 (xn:Int),.string xs,.slice xA xm xc])) (by kernel_rfl) ?_ (fun hHeld=>?_);(· exact ⟨PA.cell,PX.cell⟩))
  revert hHeld PA PX PR kk
  generalize World.drew _=wd
  intro PA PX PR kk hHeld
  (refine take_op (i:=0) (v:=?_) rfl (by kernel_rfl) (by kernel_rfl) (by kernel_rfl) (fun _ _ _ h=>h) (by rfl) ?_ hHeld ?_;rotate_left;(· (intro wS hSw;(try dsimp only at hSw);go_simp;first|done|with_reducible rfl));simp only [Act.put,sta_,scz_,scs_]);(refine take_op (i:=1) (v:=?_) rfl (by kernel_rfl) (by kernel_rfl) (by kernel_rfl) (fun _ _ _ h=>h) (by rfl) ?_ hHeld ?_;rotate_left;(· (intro wS hSw;(try dsimp only at hSw);go_simp;first|done|with_reducible rfl));simp only [Act.put,sta_,scz_,scs_]);(refine take_op (i:=2) (v:=?_) rfl (by kernel_rfl) (by kernel_rfl) (by kernel_rfl) (fun _ _ _ h=>h) (by rfl) ?_ hHeld ?_;rotate_left;(· (intro wS hSw;(try dsimp only at hSw);go_simp;first|done|with_reducible rfl));simp only [Act.put,sta_,scz_,scs_])
  (refine skip_op (i:=3) rfl (by kernel_rfl) (by kernel_rfl) (by kernel_rfl) (fun _ _ _ h=>h) (by rfl) hHeld ?_;simp only [Act.put,sta_,scz_,scs_]);(refine skip_op (i:=4) rfl (by kernel_rfl) (by kernel_rfl) (by kernel_rfl) (fun _ _ _ h=>h) (by rfl) hHeld ?_;simp only [Act.put,sta_,scz_,scs_]);(refine skip_op (i:=5) rfl (by kernel_rfl) (by kernel_rfl) (by kernel_rfl) (fun _ _ _ h=>h) (by rfl) hHeld ?_;simp only [Act.put,sta_,scz_,scs_])
  (refine take_op (i:=6) (v:=?_) rfl (by kernel_rfl) (by kernel_rfl) (by kernel_rfl) (fun _ _ _ h=>h) (by rfl) ?_ hHeld ?_;rotate_left;(· (intro wS hSw;(try dsimp only at hSw);go_simp;first|done|with_reducible rfl));simp only [Act.put,sta_,scz_,scs_]);(refine take_op (i:=7) (v:=?_) rfl (by kernel_rfl) (by kernel_rfl) (by kernel_rfl) (fun _ _ _ h=>h) (by rfl) ?_ hHeld ?_;rotate_left;(· (intro wS hSw;(try dsimp only at hSw);go_simp;first|done|with_reducible rfl));simp only [Act.put,sta_,scz_,scs_])
  (refine skip_op (i:=8) rfl (by kernel_rfl) (by kernel_rfl) (by kernel_rfl) (fun _ _ _ h=>h) (by rfl) hHeld ?_;simp only [Act.put,sta_,scz_,scs_]);(refine skip_op (i:=9) rfl (by kernel_rfl) (by kernel_rfl) (by kernel_rfl) (fun _ _ _ h=>h) (by rfl) hHeld ?_;simp only [Act.put,sta_,scz_,scs_]);(refine skip_op (i:=10) rfl (by kernel_rfl) (by kernel_rfl) (by kernel_rfl) (fun _ _ _ h=>h) (by rfl) hHeld ?_;simp only [Act.put,sta_,scz_,scs_]);(refine skip_op (i:=11) rfl (by kernel_rfl) (by kernel_rfl) (by kernel_rfl) (fun _ _ _ h=>h) (by rfl) hHeld ?_;simp only [Act.put,sta_,scz_,scs_]);(refine skip_op (i:=12) rfl (by kernel_rfl) (by kernel_rfl) (by kernel_rfl) (fun _ _ _ h=>h) (by rfl) hHeld ?_;simp only [Act.put,sta_,scz_,scs_]);(refine skip_op (i:=13) rfl (by kernel_rfl) (by kernel_rfl) (by kernel_rfl) (fun _ _ _ h=>h) (by rfl) hHeld ?_;simp only [Act.put,sta_,scz_,scs_])
  (refine take_op (i:=14) (v:=?_) rfl (by kernel_rfl) (by kernel_rfl) (by kernel_rfl) (fun _ _ _ h=>h) (by rfl) ?_ hHeld ?_;rotate_left;(· (intro wS hSw;(try dsimp only at hSw);go_simp;first|done|with_reducible rfl));simp only [Act.put,sta_,scz_,scs_])
  (refine wpAnyH_done (by kernel_rfl) ?_ _)
  have PRc:=PR.cell
  have PRf:=PR.frozen
  have PAc:=PA.cell
  clear hHeld
  go_wp2_with fail
  refine bodyPost_ret (v:=.tuple #[.agg #[.slice none 0 0,.int .i64 0,.int .i64 0],.bool false]) (by simp [results,Tryd.results83,go_sem, *] <;> rfl) rfl ?_
  exact ⟨blw,_,_,_,_,_,rfl,fun h=>(by cases h),fun _=>⟨rfl,rfl,rfl,rfl,rfl⟩⟩
 by_cases z7:g7=0
 case neg=>
  have z7':((g7:Int) != 0)=true:=by simp;omega
  rw [decide_eq_false z7]
  go_enter Tryd.func83,Tryd.ntmps83
  go_upto_region 1 with fail
  have PA:=B0.drew;have PX:=X0.drew;have PR:=R0.drew;have kk:=k0.drew
  clear B0 X0 R0 k0
  (refine wp_region_held_drew (S:=(S11 w.heap.size (w.heap.size+1) #[.slice A m c,.int .i64 sq,.int .i64 tg] #[.int .i64 xk,.int .u64 (xn:Int),.string xs,.slice xA xm xc])) (by kernel_rfl) ?_ (fun hHeld=>?_);(· exact ⟨PA.cell,PX.cell⟩))
  revert hHeld PA PX PR kk
  generalize World.drew _=wd
  intro PA PX PR kk hHeld
  (refine take_op (i:=0) (v:=?_) rfl (by kernel_rfl) (by kernel_rfl) (by kernel_rfl) (fun _ _ _ h=>h) (by rfl) ?_ hHeld ?_;rotate_left;(· (intro wS hSw;(try dsimp only at hSw);go_simp;first|done|with_reducible rfl));simp only [Act.put,sta_,scz_,scs_]);(refine take_op (i:=1) (v:=?_) rfl (by kernel_rfl) (by kernel_rfl) (by kernel_rfl) (fun _ _ _ h=>h) (by rfl) ?_ hHeld ?_;rotate_left;(· (intro wS hSw;(try dsimp only at hSw);go_simp;first|done|with_reducible rfl));simp only [Act.put,sta_,scz_,scs_]);(refine take_op (i:=2) (v:=?_) rfl (by kernel_rfl) (by kernel_rfl) (by kernel_rfl) (fun _ _ _ h=>h) (by rfl) ?_ hHeld ?_;rotate_left;(· (intro wS hSw;(try dsimp only at hSw);go_simp;first|done|with_reducible rfl));simp only [Act.put,sta_,scz_,scs_]);(refine take_op (i:=3) (v:=?_) rfl (by kernel_rfl) (by kernel_rfl) (by kernel_rfl) (fun _ _ _ h=>h) (by rfl) ?_ hHeld ?_;rotate_left;(· (intro wS hSw;(try dsimp only at hSw);go_simp;first|done|with_reducible rfl));simp only [Act.put,sta_,scz_,scs_])
  (refine call_op (i:=4) rfl (by kernel_rfl) (by rfl) (fun K hK=>?_);go_simp;(go_at_call 70;(with_reducible refine (Hck.out _ kk).mono ?_);rintro e w1 ⟨rfl,hb1⟩;replace PA:=PA.keep hb1;replace PX:=PX.keep hb1;replace PR:=PR.keep hb1;replace kk:=below_call kk hb1 kk.size);refine hK.out _ _ ⟨PA.cell,PX.cell⟩ (fun hHeld2=>?_);clear hK K hHeld;have hHeld:=hHeld2;clear hHeld2;(try simp only [Act.put,sta_,scz_,scs_]))
  (refine take_op (i:=5) (v:=?_) rfl (by kernel_rfl) (by kernel_rfl) (by kernel_rfl) (fun _ _ _ h=>h) (by rfl) ?_ hHeld ?_;rotate_left;(· (intro wS hSw;(try dsimp only at hSw);go_simp;first|done|with_reducible rfl));simp only [Act.put,sta_,scz_,scs_]);(refine take_op (i:=6) (v:=?_) rfl (by kernel_rfl) (by kernel_rfl) (by kernel_rfl) (fun _ _ _ h=>h) (by rfl) ?_ hHeld ?_;rotate_left;(· (intro wS hSw;(try dsimp only at hSw);go_simp;first|done|with_reducible rfl));simp only [Act.put,sta_,scz_,scs_]);(refine take_op (i:=7) (v:=?_) rfl (by kernel_rfl) (by kernel_rfl) (by kernel_rfl) (fun _ _ _ h=>h) (by rfl) ?_ hHeld ?_;rotate_left;(· (intro wS hSw;(try dsimp only at hSw);go_simp;first|done|with_reducible rfl));simp only [Act.put,sta_,scz_,scs_])
  (refine skip_op (i:=8) rfl (by kernel_rfl) (by kernel_rfl) (by kernel_rfl) (fun _ _ _ h=>h) (by rfl) hHeld ?_;simp only [Act.put,sta_,scz_,scs_]);(refine skip_op (i:=9) rfl (by kernel_rfl) (by kernel_rfl) (by kernel_rfl) (fun _ _ _ h=>h) (by rfl) hHeld ?_;simp only [Act.put,sta_,scz_,scs_]);(refine skip_op (i:=10) rfl (by kernel_rfl) (by kernel_rfl) (by kernel_rfl) (fun _ _ _ h=>h) (by rfl) hHeld ?_;simp only [Act.put,sta_,scz_,scs_]);(refine skip_op (i:=11) rfl (by kernel_rfl) (by kernel_rfl) (by kernel_rfl) (fun _ _ _ h=>h) (by rfl) hHeld ?_;simp only [Act.put,sta_,scz_,scs_]);(refine skip_op (i:=12) rfl (by kernel_rfl) (by kernel_rfl) (by kernel_rfl) (fun _ _ _ h=>h) (by rfl) hHeld ?_;simp only [Act.put,sta_,scz_,scs_]);(refine skip_op (i:=13) rfl (by kernel_rfl) (by kernel_rfl) (by kernel_rfl) (fun _ _ _ h=>h) (by rfl) hHeld ?_;simp only [Act.put,sta_,scz_,scs_])
  (refine take_op (i:=14) (v:=?_) rfl (by kernel_rfl) (by kernel_rfl) (by kernel_rfl) (fun _ _ _ h=>h) (by rfl) ?_ hHeld ?_;rotate_left;(· (intro wS hSw;(try dsimp only at hSw);go_simp;first|done|with_reducible rfl));simp only [Act.put,sta_,scz_,scs_])
  (refine wpAnyH_done (by kernel_rfl) ?_ _)
  have PRc:=PR.cell
  have PRf:=PR.frozen
  have PAc:=PA.cell
  clear hHeld
  go_wp2_with fail
  refine bodyPost_ret (v:=.tuple #[.agg #[.slice none 0 0,.int .i64 0,.int .i64 0],.bool false]) (by simp [results,Tryd.results83,go_sem, *] <;> rfl) rfl ?_
  exact ⟨blw,_,_,_,_,_,rfl,fun h=>(by cases h),fun _=>⟨rfl,rfl,rfl,rfl,rfl⟩⟩
 subst z7
 cases R
 ·go_enter Tryd.func83,Tryd.ntmps83
  go_upto_region 1 with fail
  have PA:=B0.drew;have PX:=X0.drew;have PR:=R0.drew;have kk:=k0.drew
  clear B0 X0 R0 k0
  (refine wp_region_held_drew (S:=(S11 w.heap.size (w.heap.size+1) #[.slice A m c,.int .i64 sq,.int .i64 tg] #[.int .i64 xk,.int .u64 (xn:Int),.string xs,.slice xA xm xc])) (by kernel_rfl) ?_ (fun hHeld=>?_);(· exact ⟨PA.cell,PX.cell⟩))
  revert hHeld PA PX PR kk
  generalize World.drew _=wd
  intro PA PX PR kk hHeld
  (refine take_op (i:=0) (v:=?_) rfl (by kernel_rfl) (by kernel_rfl) (by kernel_rfl) (fun _ _ _ h=>h) (by rfl) ?_ hHeld ?_;rotate_left;(· (intro wS hSw;(try dsimp only at hSw);go_simp;first|done|with_reducible rfl));simp only [Act.put,sta_,scz_,scs_]);(refine take_op (i:=1) (v:=?_) rfl (by kernel_rfl) (by kernel_rfl) (by kernel_rfl) (fun _ _ _ h=>h) (by rfl) ?_ hHeld ?_;rotate_left;(· (intro wS hSw;(try dsimp only at hSw);go_simp;first|done|with_reducible rfl));simp only [Act.put,sta_,scz_,scs_]);(refine take_op (i:=2) (v:=?_) rfl (by kernel_rfl) (by kernel_rfl) (by kernel_rfl) (fun _ _ _ h=>h) (by rfl) ?_ hHeld ?_;rotate_left;(· (intro wS hSw;(try dsimp only at hSw);go_simp;first|done|with_reducible rfl));simp only [Act.put,sta_,scz_,scs_]);(refine take_op (i:=3) (v:=?_) rfl (by kernel_rfl) (by kernel_rfl) (by kernel_rfl) (fun _ _ _ h=>h) (by rfl) ?_ hHeld ?_;rotate_left;(· (intro wS hSw;(try dsimp only at hSw);go_simp;first|done|with_reducible rfl));simp only [Act.put,sta_,scz_,scs_])
  (refine call_op (i:=4) rfl (by kernel_rfl) (by rfl) (fun K hK=>?_);go_simp;(go_at_call 70;(with_reducible refine (Hck.out _ kk).mono ?_);rintro e w1 ⟨rfl,hb1⟩;replace PA:=PA.keep hb1;replace PX:=PX.keep hb1;replace PR:=PR.keep hb1;replace kk:=below_call kk hb1 kk.size);refine hK.out _ _ ⟨PA.cell,PX.cell⟩ (fun hHeld2=>?_);clear hK K hHeld;have hHeld:=hHeld2;clear hHeld2;(try simp only [Act.put,sta_,scz_,scs_]))
  (refine take_op (i:=5) (v:=?_) rfl (by kernel_rfl) (by kernel_rfl) (by kernel_rfl) (fun _ _ _ h=>h) (by rfl) ?_ hHeld ?_;rotate_left;(· (intro wS hSw;(try dsimp only at hSw);go_simp;first|done|with_reducible rfl));simp only [Act.put,sta_,scz_,scs_]);(refine take_op (i:=6) (v:=?_) rfl (by kernel_rfl) (by kernel_rfl) (by kernel_rfl) (fun _ _ _ h=>h) (by rfl) ?_ hHeld ?_;rotate_left;(· (intro wS hSw;(try dsimp only at hSw);go_simp;first|done|with_reducible rfl));simp only [Act.put,sta_,scz_,scs_]);(refine take_op (i:=7) (v:=?_) rfl (by kernel_rfl) (by kernel_rfl) (by kernel_rfl) (fun _ _ _ h=>h) (by rfl) ?_ hHeld ?_;rotate_left;(· (intro wS hSw;(try dsimp only at hSw);go_simp;first|done|with_reducible rfl));simp only [Act.put,sta_,scz_,scs_]);(refine take_op (i:=8) (v:=?_) rfl (by kernel_rfl) (by kernel_rfl) (by kernel_rfl) (fun _ _ _ h=>h) (by rfl) ?_ hHeld ?_;rotate_left;(· (intro wS hSw;(try dsimp only at hSw);go_simp;first|done|with_reducible rfl));simp only [Act.put,sta_,scz_,scs_]);(refine take_op (i:=9) (v:=?_) rfl (by kernel_rfl) (by kernel_rfl) (by kernel_rfl) (fun _ _ _ h=>h) (by rfl) ?_ hHeld ?_;rotate_left;(· (intro wS hSw;(try dsimp only at hSw);go_simp;first|done|with_reducible rfl));simp only [Act.put,sta_,scz_,scs_]);(refine take_op (i:=10) (v:=?_) rfl (by kernel_rfl) (by kernel_rfl) (by kernel_rfl) (fun _ _ _ h=>h) (by rfl) ?_ hHeld ?_;rotate_left;(· (intro wS hSw;(try dsimp only at hSw);go_simp;first|done|with_reducible rfl));simp only [Act.put,sta_,scz_,scs_])
  (refine call_op (i:=11) rfl (by kernel_rfl) (by rfl) (fun K hK=>?_);go_simp;(go_at_call 58;(with_reducible refine (Hfo.out _ kk).mono ?_);rintro e w2 ⟨A2,c2,rfl,hi2,hb2⟩;replace PA:=PA.keep hb2;replace PX:=PX.keep hb2;replace PR:=PR.keep hb2;replace kk:=below_call kk hb2 kk.size);refine hK.out _ _ ⟨PA.cell,PX.cell⟩ (fun hHeld2=>?_);clear hK K hHeld;have hHeld:=hHeld2;clear hHeld2;(try simp only [Act.put,sta_,scz_,scs_]))
  (refine call_op (i:=12) rfl (by kernel_rfl) (by rfl) (fun K hK=>?_);go_simp;(go_at_call 15;(with_reducible refine (Hsm.out _ _ kk hi2.holds).mono ?_);rintro e w3 ⟨rfl,hb3⟩;replace PA:=PA.keep hb3;replace PX:=PX.keep hb3;replace PR:=PR.keep hb3;replace kk:=below_call kk hb3 kk.size);refine hK.out _ _ ⟨PA.cell,PX.cell⟩ (fun hHeld2=>?_);clear hK K hHeld;have hHeld:=hHeld2;clear hHeld2;(try simp only [Act.put,sta_,scz_,scs_]))
  (refine take_op (i:=13) (v:=?_) rfl (by kernel_rfl) (by kernel_rfl) (by kernel_rfl) (fun _ _ _ h=>h) (by rfl) ?_ hHeld ?_;rotate_left;(· (intro wS hSw;(try dsimp only at hSw);go_simp;first|done|with_reducible rfl));simp only [Act.put,sta_,scz_,scs_]);(refine take_op (i:=14) (v:=?_) rfl (by kernel_rfl) (by kernel_rfl) (by kernel_rfl) (fun _ _ _ h=>h) (by rfl) ?_ hHeld ?_;rotate_left;(· (intro wS hSw;(try dsimp only at hSw);go_simp;first|done|with_reducible rfl));simp only [Act.put,sta_,scz_,scs_])
  (refine wpAnyH_done (by kernel_rfl) ?_ _)
  have PRc:=PR.cell
  have PRf:=PR.frozen
  have PAc:=PA.cell
  clear hHeld
  go_wp2_with fail
  refine bodyPost_ret (v:=.tuple #[.agg #[.slice none 0 0,.int .i64 0,.int .i64 0],.bool false]) (by simp [results,Tryd.results83,go_sem, *] <;> rfl) rfl ?_
  exact ⟨blw,_,_,_,_,_,rfl,fun h=>(by cases h),fun _=>⟨rfl,rfl,rfl,rfl,rfl⟩⟩
 ·go_enter Tryd.func83,Tryd.ntmps83
  go_upto_region 1 with fail
  have PA:=B0.drew;have PX:=X0.drew;have PR:=R0.drew;have kk:=k0.drew
  clear B0 X0 R0 k0
  (refine wp_region_held_drew (S:=(S11 w.heap.size (w.heap.size+1) #[.slice A m c,.int .i64 sq,.int .i64 tg] #[.int .i64 xk,.int .u64 (xn:Int),.string xs,.slice xA xm xc])) (by kernel_rfl) ?_ (fun hHeld=>?_);(· exact ⟨PA.cell,PX.cell⟩))
  revert hHeld PA PX PR kk
  generalize World.drew _=wd
  intro PA PX PR kk hHeld
  (refine take_op (i:=0) (v:=?_) rfl (by kernel_rfl) (by kernel_rfl) (by kernel_rfl) (fun _ _ _ h=>h) (by rfl) ?_ hHeld ?_;rotate_left;(· (intro wS hSw;(try dsimp only at hSw);go_simp;first|done|with_reducible rfl));simp only [Act.put,sta_,scz_,scs_]);(refine take_op (i:=1) (v:=?_) rfl (by kernel_rfl) (by kernel_rfl) (by kernel_rfl) (fun _ _ _ h=>h) (by rfl) ?_ hHeld ?_;rotate_left;(· (intro wS hSw;(try dsimp only at hSw);go_simp;first|done|with_reducible rfl));simp only [Act.put,sta_,scz_,scs_]);(refine take_op (i:=2) (v:=?_) rfl (by kernel_rfl) (by kernel_rfl) (by kernel_rfl) (fun _ _ _ h=>h) (by rfl) ?_ hHeld ?_;rotate_left;(· (intro wS hSw;(try dsimp only at hSw);go_simp;first|done|with_reducible rfl));simp only [Act.put,sta_,scz_,scs_]);(refine take_op (i:=3) (v:=?_) rfl (by kernel_rfl) (by kernel_rfl) (by kernel_rfl) (fun _ _ _ h=>h) (by rfl) ?_ hHeld ?_;rotate_left;(· (intro wS hSw;(try dsimp only at hSw);go_simp;first|done|with_reducible rfl));simp only [Act.put,sta_,scz_,scs_])
  (refine call_op (i:=4) rfl (by kernel_rfl) (by rfl) (fun K hK=>?_);go_simp;(go_at_call 70;(with_reducible refine (Hck.out _ kk).mono ?_);rintro e w1 ⟨rfl,hb1⟩;replace PA:=PA.keep hb1;replace PX:=PX.keep hb1;replace PR:=PR.keep hb1;replace kk:=below_call kk hb1 kk.size);refine hK.out _ _ ⟨PA.cell,PX.cell⟩ (fun hHeld2=>?_);clear hK K hHeld;have hHeld:=hHeld2;clear hHeld2;(try simp only [Act.put,sta_,scz_,scs_]))
  (refine take_op (i:=5) (v:=?_) rfl (by kernel_rfl) (by kernel_rfl) (by kernel_rfl) (fun _ _ _ h=>h) (by rfl) ?_ hHeld ?_;rotate_left;(· (intro wS hSw;(try dsimp only at hSw);go_simp;first|done|with_reducible rfl));simp only [Act.put,sta_,scz_,scs_]);(refine take_op (i:=6) (v:=?_) rfl (by kernel_rfl) (by kernel_rfl) (by kernel_rfl) (fun _ _ _ h=>h) (by rfl) ?_ hHeld ?_;rotate_left;(· (intro wS hSw;(try dsimp only at hSw);go_simp;first|done|with_reducible rfl));simp only [Act.put,sta_,scz_,scs_]);(refine take_op (i:=7) (v:=?_) rfl (by kernel_rfl) (by kernel_rfl) (by kernel_rfl) (fun _ _ _ h=>h) (by rfl) ?_ hHeld ?_;rotate_left;(· (intro wS hSw;(try dsimp only at hSw);go_simp;first|done|with_reducible rfl));simp only [Act.put,sta_,scz_,scs_]);(refine take_op (i:=8) (v:=?_) rfl (by kernel_rfl) (by kernel_rfl) (by kernel_rfl) (fun _ _ _ h=>h) (by rfl) ?_ hHeld ?_;rotate_left;(· (intro wS hSw;(try dsimp only at hSw);go_simp;first|done|with_reducible rfl));simp only [Act.put,sta_,scz_,scs_]);(refine take_op (i:=9) (v:=?_) rfl (by kernel_rfl) (by kernel_rfl) (by kernel_rfl) (fun _ _ _ h=>h) (by rfl) ?_ hHeld ?_;rotate_left;(· (intro wS hSw;(try dsimp only at hSw);go_simp;first|done|with_reducible rfl));simp only [Act.put,sta_,scz_,scs_]);(refine take_op (i:=10) (v:=?_) rfl (by kernel_rfl) (by kernel_rfl) (by kernel_rfl) (fun _ _ _ h=>h) (by rfl) ?_ hHeld ?_;rotate_left;(· (intro wS hSw;(try dsimp only at hSw);go_simp;first|done|with_reducible rfl));simp only [Act.put,sta_,scz_,scs_])
  (refine call_op (i:=11) rfl (by kernel_rfl) (by rfl) (fun K hK=>?_);go_simp;(go_at_call 58;(with_reducible refine (Hfo.out _ kk).mono ?_);rintro e w2 ⟨A2,c2,rfl,hi2,hb2⟩;replace PA:=PA.keep hb2;replace PX:=PX.keep hb2;replace PR:=PR.keep hb2;replace kk:=below_call kk hb2 kk.size);refine hK.out _ _ ⟨PA.cell,PX.cell⟩ (fun hHeld2=>?_);clear hK K hHeld;have hHeld:=hHeld2;clear hHeld2;(try simp only [Act.put,sta_,scz_,scs_]))
  (refine call_op (i:=12) rfl (by kernel_rfl) (by rfl) (fun K hK=>?_);go_simp;(go_at_call 15;(with_reducible refine (Hsm.out _ _ kk hi2.holds).mono ?_);rintro e w3 ⟨rfl,hb3⟩;replace PA:=PA.keep hb3;replace PX:=PX.keep hb3;replace PR:=PR.keep hb3;replace kk:=below_call kk hb3 kk.size);refine hK.out _ _ ⟨PA.cell,PX.cell⟩ (fun hHeld2=>?_);clear hK K hHeld;have hHeld:=hHeld2;clear hHeld2;(try simp only [Act.put,sta_,scz_,scs_]))
  (refine take_op (i:=13) (v:=?_) rfl (by kernel_rfl) (by kernel_rfl) (by kernel_rfl) (fun _ _ _ h=>h) (by rfl) ?_ hHeld ?_;rotate_left;(· (intro wS hSw;(try dsimp only at hSw);go_simp;first|done|with_reducible rfl));simp only [Act.put,sta_,scz_,scs_]);(refine take_op (i:=14) (v:=?_) rfl (by kernel_rfl) (by kernel_rfl) (by kernel_rfl) (fun _ _ _ h=>h) (by rfl) ?_ hHeld ?_;rotate_left;(· (intro wS hSw;(try dsimp only at hSw);go_simp;first|done|with_reducible rfl));simp only [Act.put,sta_,scz_,scs_])
  (refine wpAnyH_done (by kernel_rfl) ?_ _)
  have PRc:=PR.cell
  have PRf:=PR.frozen
  have PAc:=PA.cell
  clear hHeld
  go_wp2_with fail
  refine bodyPost_ret (v:=.tuple #[.agg #[.slice A m c,.int .i64 sq,.int .i64 tg],.bool true]) (by simp [results,Tryd.results83,go_sem, *] <;> rfl) rfl ?_
  exact ⟨blw,_,_,_,_,_,rfl,fun _=>⟨rfl,rfl,rfl,rfl,rfl⟩,fun h=>(by cases h)⟩
set_option maxHeartbeats 4000000 in
theorem taken_old (A:Option Addr) (m c:Nat) (sq tg:Int) (l:List IdP) (ok:Bool) (t:Tree) (v:Value) (w:World) (h1:IdsAt w A m l) (hv:Holds w t v) (hm:m≤1000000):
  Calls Tryd.prog 83 #[.agg #[.slice A m c,.int .i64 sq,.int .i64 tg],.bool ok,v,.func (.func 86) #[] #[]] w
   (fun e w'=>Below w.heap.size w w'∧∃A' m' c' q' t',e= .returned (.tuple #[.agg #[.slice A' m' c',.int .i64 q',.int .i64 t'],.bool (ok&&decide (acheck ⟨l,sq,tg⟩=0)&&tsame t (otree l sq))])∧
    ((ok&&decide (acheck ⟨l,sq,tg⟩=0)&&tsame t (otree l sq))=true→A'=A∧m'=m∧c'=c∧q'=sq∧t'=tg)∧((ok&&decide (acheck ⟨l,sq,tg⟩=0)&&tsame t (otree l sq))=false→A'=none∧m'=0∧c'=0∧q'=0∧t'=0)):=by
 have hck:=fun W (hb:Below w.heap.size w W)=>attrcheck_any A m c sq tg l W (h1.keep hb)
 have hfo:=fun W (hb:Below w.heap.size w W)=>attroldi_any A m c sq tg l W (h1.keep hb) hm
 have hsm:=fun x W (hb:Below w.heap.size w W) (hx:Holds W (otree l sq) x)=>codecsame_any t (otree l sq) v x W (Holds.keep hb hv) hx
 obtain ⟨R,hR⟩:∃R,tsame t (otree l sq)=R:=⟨_,rfl⟩
 rw [hR] at hsm ⊢
 obtain ⟨g7,hg7⟩:∃g,acheck ⟨l,sq,tg⟩=g:=⟨_,rfl⟩
 rw [hg7] at hck ⊢
 obtain ⟨xk,xn,xs,lt⟩:=t
 obtain ⟨xA,xm,xc,rfl, -, -, -, -, -, -, -⟩:=hv.open_
 unfold listV at hfo
 have Hck:=Lib.hid hck
 have Hfo:=Lib.hid hfo
 have Hsm:=Lib.hid hsm
 clear hck hfo hsm hR hg7 h1 hv
 have B0:Blk (((w.alloc (.cells #[.slice A m c,.int .i64 sq,.int .i64 tg] 48)).alloc (.cells #[.int .i64 xk,.int .u64 (xn:Int),.string xs,.slice xA xm xc] 25)).alloc (.cells #[.slice none 0 0,.int .i64 0,.int .i64 0] 48)) w.heap.size 48 #[.slice A m c,.int .i64 sq,.int .i64 tg]:=((Blk.new w _ _).alloc _).alloc _
 have X0:Blk (((w.alloc (.cells #[.slice A m c,.int .i64 sq,.int .i64 tg] 48)).alloc (.cells #[.int .i64 xk,.int .u64 (xn:Int),.string xs,.slice xA xm xc] 25)).alloc (.cells #[.slice none 0 0,.int .i64 0,.int .i64 0] 48)) (w.heap.size+1) 25 #[.int .i64 xk,.int .u64 (xn:Int),.string xs,.slice xA xm xc]:=(Blk.newAt (by simp)).alloc _
 have R0:Blk (((w.alloc (.cells #[.slice A m c,.int .i64 sq,.int .i64 tg] 48)).alloc (.cells #[.int .i64 xk,.int .u64 (xn:Int),.string xs,.slice xA xm xc] 25)).alloc (.cells #[.slice none 0 0,.int .i64 0,.int .i64 0] 48)) (w.heap.size+1+1) 48 #[.slice none 0 0,.int .i64 0,.int .i64 0]:=Blk.newAt (by simp)
 have k0:Below w.heap.size w (((w.alloc (.cells #[.slice A m c,.int .i64 sq,.int .i64 tg] 48)).alloc (.cells #[.int .i64 xk,.int .u64 (xn:Int),.string xs,.slice xA xm xc] 25)).alloc (.cells #[.slice none 0 0,.int .i64 0,.int .i64 0] 48)):=blw
 cases ok
 ·go_enter Tryd.func83,Tryd.ntmps83
  go_upto_region 1 with fail
  have PA:=B0.drew;have PX:=X0.drew;have PR:=R0.drew;have kk:=k0.drew
  clear B0 X0 R0 k0
  (refine wp_region_held_drew (S:=(S11 w.heap.size (w.heap.size+1) #[.slice A m c,.int .i64 sq,.int .i64 tg] #[.int .i64 xk,.int .u64 (xn:Int),.string xs,.slice xA xm xc])) (by kernel_rfl) ?_ (fun hHeld=>?_);(· exact ⟨PA.cell,PX.cell⟩))
  revert hHeld PA PX PR kk
  generalize World.drew _=wd
  intro PA PX PR kk hHeld
  (refine take_op (i:=0) (v:=?_) rfl (by kernel_rfl) (by kernel_rfl) (by kernel_rfl) (fun _ _ _ h=>h) (by rfl) ?_ hHeld ?_;rotate_left;(· (intro wS hSw;(try dsimp only at hSw);go_simp;first|done|with_reducible rfl));simp only [Act.put,sta_,scz_,scs_]);(refine take_op (i:=1) (v:=?_) rfl (by kernel_rfl) (by kernel_rfl) (by kernel_rfl) (fun _ _ _ h=>h) (by rfl) ?_ hHeld ?_;rotate_left;(· (intro wS hSw;(try dsimp only at hSw);go_simp;first|done|with_reducible rfl));simp only [Act.put,sta_,scz_,scs_]);(refine take_op (i:=2) (v:=?_) rfl (by kernel_rfl) (by kernel_rfl) (by kernel_rfl) (fun _ _ _ h=>h) (by rfl) ?_ hHeld ?_;rotate_left;(· (intro wS hSw;(try dsimp only at hSw);go_simp;first|done|with_reducible rfl));simp only [Act.put,sta_,scz_,scs_])
  (refine skip_op (i:=3) rfl (by kernel_rfl) (by kernel_rfl) (by kernel_rfl) (fun _ _ _ h=>h) (by rfl) hHeld ?_;simp only [Act.put,sta_,scz_,scs_]);(refine skip_op (i:=4) rfl (by kernel_rfl) (by kernel_rfl) (by kernel_rfl) (fun _ _ _ h=>h) (by rfl) hHeld ?_;simp only [Act.put,sta_,scz_,scs_]);(refine skip_op (i:=5) rfl (by kernel_rfl) (by kernel_rfl) (by kernel_rfl) (fun _ _ _ h=>h) (by rfl) hHeld ?_;simp only [Act.put,sta_,scz_,scs_])
  (refine take_op (i:=6) (v:=?_) rfl (by kernel_rfl) (by kernel_rfl) (by kernel_rfl) (fun _ _ _ h=>h) (by rfl) ?_ hHeld ?_;rotate_left;(· (intro wS hSw;(try dsimp only at hSw);go_simp;first|done|with_reducible rfl));simp only [Act.put,sta_,scz_,scs_]);(refine take_op (i:=7) (v:=?_) rfl (by kernel_rfl) (by kernel_rfl) (by kernel_rfl) (fun _ _ _ h=>h) (by rfl) ?_ hHeld ?_;rotate_left;(· (intro wS hSw;(try dsimp only at hSw);go_simp;first|done|with_reducible rfl));simp only [Act.put,sta_,scz_,scs_])
  (refine skip_op (i:=8) rfl (by kernel_rfl) (by kernel_rfl) (by kernel_rfl) (fun _ _ _ h=>h) (by rfl) hHeld ?_;simp only [Act.put,sta_,scz_,scs_]);(refine skip_op (i:=9) rfl (by kernel_rfl) (by kernel_rfl) (by kernel_rfl) (fun _ _ _ h=>h) (by rfl) hHeld ?_;simp only [Act.put,sta_,scz_,scs_]);(refine skip_op (i:=10) rfl (by kernel_rfl) (by kernel_rfl) (by kernel_rfl) (fun _ _ _ h=>h) (by rfl) hHeld ?_;simp only [Act.put,sta_,scz_,scs_]);(refine skip_op (i:=11) rfl (by kernel_rfl) (by kernel_rfl) (by kernel_rfl) (fun _ _ _ h=>h) (by rfl) hHeld ?_;simp only [Act.put,sta_,scz_,scs_]);(refine skip_op (i:=12) rfl (by kernel_rfl) (by kernel_rfl) (by kernel_rfl) (fun _ _ _ h=>h) (by rfl) hHeld ?_;simp only [Act.put,sta_,scz_,scs_]);(refine skip_op (i:=13) rfl (by kernel_rfl) (by kernel_rfl) (by kernel_rfl) (fun _ _ _ h=>h) (by rfl) hHeld ?_;simp only [Act.put,sta_,scz_,scs_])
  (refine take_op (i:=14) (v:=?_) rfl (by kernel_rfl) (by kernel_rfl) (by kernel_rfl) (fun _ _ _ h=>h) (by rfl) ?_ hHeld ?_;rotate_left;(· (intro wS hSw;(try dsimp only at hSw);go_simp;first|done|with_reducible rfl));simp only [Act.put,sta_,scz_,scs_])
  (refine wpAnyH_done (by kernel_rfl) ?_ _)
  have PRc:=PR.cell
  have PRf:=PR.frozen
  have PAc:=PA.cell
  clear hHeld
  go_wp2_with fail
  refine bodyPost_ret (v:=.tuple #[.agg #[.slice none 0 0,.int .i64 0,.int .i64 0],.bool false]) (by simp [results,Tryd.results83,go_sem, *] <;> rfl) rfl ?_
  exact ⟨blw,_,_,_,_,_,rfl,fun h=>(by cases h),fun _=>⟨rfl,rfl,rfl,rfl,rfl⟩⟩
 by_cases z7:g7=0
 case neg=>
  have z7':((g7:Int) != 0)=true:=by simp;omega
  rw [decide_eq_false z7]
  go_enter Tryd.func83,Tryd.ntmps83
  go_upto_region 1 with fail
  have PA:=B0.drew;have PX:=X0.drew;have PR:=R0.drew;have kk:=k0.drew
  clear B0 X0 R0 k0
  (refine wp_region_held_drew (S:=(S11 w.heap.size (w.heap.size+1) #[.slice A m c,.int .i64 sq,.int .i64 tg] #[.int .i64 xk,.int .u64 (xn:Int),.string xs,.slice xA xm xc])) (by kernel_rfl) ?_ (fun hHeld=>?_);(· exact ⟨PA.cell,PX.cell⟩))
  revert hHeld PA PX PR kk
  generalize World.drew _=wd
  intro PA PX PR kk hHeld
  (refine take_op (i:=0) (v:=?_) rfl (by kernel_rfl) (by kernel_rfl) (by kernel_rfl) (fun _ _ _ h=>h) (by rfl) ?_ hHeld ?_;rotate_left;(· (intro wS hSw;(try dsimp only at hSw);go_simp;first|done|with_reducible rfl));simp only [Act.put,sta_,scz_,scs_]);(refine take_op (i:=1) (v:=?_) rfl (by kernel_rfl) (by kernel_rfl) (by kernel_rfl) (fun _ _ _ h=>h) (by rfl) ?_ hHeld ?_;rotate_left;(· (intro wS hSw;(try dsimp only at hSw);go_simp;first|done|with_reducible rfl));simp only [Act.put,sta_,scz_,scs_]);(refine take_op (i:=2) (v:=?_) rfl (by kernel_rfl) (by kernel_rfl) (by kernel_rfl) (fun _ _ _ h=>h) (by rfl) ?_ hHeld ?_;rotate_left;(· (intro wS hSw;(try dsimp only at hSw);go_simp;first|done|with_reducible rfl));simp only [Act.put,sta_,scz_,scs_]);(refine take_op (i:=3) (v:=?_) rfl (by kernel_rfl) (by kernel_rfl) (by kernel_rfl) (fun _ _ _ h=>h) (by rfl) ?_ hHeld ?_;rotate_left;(· (intro wS hSw;(try dsimp only at hSw);go_simp;first|done|with_reducible rfl));simp only [Act.put,sta_,scz_,scs_])
  (refine call_op (i:=4) rfl (by kernel_rfl) (by rfl) (fun K hK=>?_);go_simp;(go_at_call 70;(with_reducible refine (Hck.out _ kk).mono ?_);rintro e w1 ⟨rfl,hb1⟩;replace PA:=PA.keep hb1;replace PX:=PX.keep hb1;replace PR:=PR.keep hb1;replace kk:=below_call kk hb1 kk.size);refine hK.out _ _ ⟨PA.cell,PX.cell⟩ (fun hHeld2=>?_);clear hK K hHeld;have hHeld:=hHeld2;clear hHeld2;(try simp only [Act.put,sta_,scz_,scs_]))
  (refine take_op (i:=5) (v:=?_) rfl (by kernel_rfl) (by kernel_rfl) (by kernel_rfl) (fun _ _ _ h=>h) (by rfl) ?_ hHeld ?_;rotate_left;(· (intro wS hSw;(try dsimp only at hSw);go_simp;first|done|with_reducible rfl));simp only [Act.put,sta_,scz_,scs_]);(refine take_op (i:=6) (v:=?_) rfl (by kernel_rfl) (by kernel_rfl) (by kernel_rfl) (fun _ _ _ h=>h) (by rfl) ?_ hHeld ?_;rotate_left;(· (intro wS hSw;(try dsimp only at hSw);go_simp;first|done|with_reducible rfl));simp only [Act.put,sta_,scz_,scs_]);(refine take_op (i:=7) (v:=?_) rfl (by kernel_rfl) (by kernel_rfl) (by kernel_rfl) (fun _ _ _ h=>h) (by rfl) ?_ hHeld ?_;rotate_left;(· (intro wS hSw;(try dsimp only at hSw);go_simp;first|done|with_reducible rfl));simp only [Act.put,sta_,scz_,scs_])
  (refine skip_op (i:=8) rfl (by kernel_rfl) (by kernel_rfl) (by kernel_rfl) (fun _ _ _ h=>h) (by rfl) hHeld ?_;simp only [Act.put,sta_,scz_,scs_]);(refine skip_op (i:=9) rfl (by kernel_rfl) (by kernel_rfl) (by kernel_rfl) (fun _ _ _ h=>h) (by rfl) hHeld ?_;simp only [Act.put,sta_,scz_,scs_]);(refine skip_op (i:=10) rfl (by kernel_rfl) (by kernel_rfl) (by kernel_rfl) (fun _ _ _ h=>h) (by rfl) hHeld ?_;simp only [Act.put,sta_,scz_,scs_]);(refine skip_op (i:=11) rfl (by kernel_rfl) (by kernel_rfl) (by kernel_rfl) (fun _ _ _ h=>h) (by rfl) hHeld ?_;simp only [Act.put,sta_,scz_,scs_]);(refine skip_op (i:=12) rfl (by kernel_rfl) (by kernel_rfl) (by kernel_rfl) (fun _ _ _ h=>h) (by rfl) hHeld ?_;simp only [Act.put,sta_,scz_,scs_]);(refine skip_op (i:=13) rfl (by kernel_rfl) (by kernel_rfl) (by kernel_rfl) (fun _ _ _ h=>h) (by rfl) hHeld ?_;simp only [Act.put,sta_,scz_,scs_])
  (refine take_op (i:=14) (v:=?_) rfl (by kernel_rfl) (by kernel_rfl) (by kernel_rfl) (fun _ _ _ h=>h) (by rfl) ?_ hHeld ?_;rotate_left;(· (intro wS hSw;(try dsimp only at hSw);go_simp;first|done|with_reducible rfl));simp only [Act.put,sta_,scz_,scs_])
  (refine wpAnyH_done (by kernel_rfl) ?_ _)
  have PRc:=PR.cell
  have PRf:=PR.frozen
  have PAc:=PA.cell
  clear hHeld
  go_wp2_with fail
  refine bodyPost_ret (v:=.tuple #[.agg #[.slice none 0 0,.int .i64 0,.int .i64 0],.bool false]) (by simp [results,Tryd.results83,go_sem, *] <;> rfl) rfl ?_
  exact ⟨blw,_,_,_,_,_,rfl,fun h=>(by cases h),fun _=>⟨rfl,rfl,rfl,rfl,rfl⟩⟩
 subst z7
 cases R
 ·go_enter Tryd.func83,Tryd.ntmps83
  go_upto_region 1 with fail
  have PA:=B0.drew;have PX:=X0.drew;have PR:=R0.drew;have kk:=k0.drew
  clear B0 X0 R0 k0
  (refine wp_region_held_drew (S:=(S11 w.heap.size (w.heap.size+1) #[.slice A m c,.int .i64 sq,.int .i64 tg] #[.int .i64 xk,.int .u64 (xn:Int),.string xs,.slice xA xm xc])) (by kernel_rfl) ?_ (fun hHeld=>?_);(· exact ⟨PA.cell,PX.cell⟩))
  revert hHeld PA PX PR kk
  generalize World.drew _=wd
  intro PA PX PR kk hHeld
  (refine take_op (i:=0) (v:=?_) rfl (by kernel_rfl) (by kernel_rfl) (by kernel_rfl) (fun _ _ _ h=>h) (by rfl) ?_ hHeld ?_;rotate_left;(· (intro wS hSw;(try dsimp only at hSw);go_simp;first|done|with_reducible rfl));simp only [Act.put,sta_,scz_,scs_]);(refine take_op (i:=1) (v:=?_) rfl (by kernel_rfl) (by kernel_rfl) (by kernel_rfl) (fun _ _ _ h=>h) (by rfl) ?_ hHeld ?_;rotate_left;(· (intro wS hSw;(try dsimp only at hSw);go_simp;first|done|with_reducible rfl));simp only [Act.put,sta_,scz_,scs_]);(refine take_op (i:=2) (v:=?_) rfl (by kernel_rfl) (by kernel_rfl) (by kernel_rfl) (fun _ _ _ h=>h) (by rfl) ?_ hHeld ?_;rotate_left;(· (intro wS hSw;(try dsimp only at hSw);go_simp;first|done|with_reducible rfl));simp only [Act.put,sta_,scz_,scs_]);(refine take_op (i:=3) (v:=?_) rfl (by kernel_rfl) (by kernel_rfl) (by kernel_rfl) (fun _ _ _ h=>h) (by rfl) ?_ hHeld ?_;rotate_left;(· (intro wS hSw;(try dsimp only at hSw);go_simp;first|done|with_reducible rfl));simp only [Act.put,sta_,scz_,scs_])
  (refine call_op (i:=4) rfl (by kernel_rfl) (by rfl) (fun K hK=>?_);go_simp;(go_at_call 70;(with_reducible refine (Hck.out _ kk).mono ?_);rintro e w1 ⟨rfl,hb1⟩;replace PA:=PA.keep hb1;replace PX:=PX.keep hb1;replace PR:=PR.keep hb1;replace kk:=below_call kk hb1 kk.size);refine hK.out _ _ ⟨PA.cell,PX.cell⟩ (fun hHeld2=>?_);clear hK K hHeld;have hHeld:=hHeld2;clear hHeld2;(try simp only [Act.put,sta_,scz_,scs_]))
  (refine take_op (i:=5) (v:=?_) rfl (by kernel_rfl) (by kernel_rfl) (by kernel_rfl) (fun _ _ _ h=>h) (by rfl) ?_ hHeld ?_;rotate_left;(· (intro wS hSw;(try dsimp only at hSw);go_simp;first|done|with_reducible rfl));simp only [Act.put,sta_,scz_,scs_]);(refine take_op (i:=6) (v:=?_) rfl (by kernel_rfl) (by kernel_rfl) (by kernel_rfl) (fun _ _ _ h=>h) (by rfl) ?_ hHeld ?_;rotate_left;(· (intro wS hSw;(try dsimp only at hSw);go_simp;first|done|with_reducible rfl));simp only [Act.put,sta_,scz_,scs_]);(refine take_op (i:=7) (v:=?_) rfl (by kernel_rfl) (by kernel_rfl) (by kernel_rfl) (fun _ _ _ h=>h) (by rfl) ?_ hHeld ?_;rotate_left;(· (intro wS hSw;(try dsimp only at hSw);go_simp;first|done|with_reducible rfl));simp only [Act.put,sta_,scz_,scs_]);(refine take_op (i:=8) (v:=?_) rfl (by kernel_rfl) (by kernel_rfl) (by kernel_rfl) (fun _ _ _ h=>h) (by rfl) ?_ hHeld ?_;rotate_left;(· (intro wS hSw;(try dsimp only at hSw);go_simp;first|done|with_reducible rfl));simp only [Act.put,sta_,scz_,scs_]);(refine take_op (i:=9) (v:=?_) rfl (by kernel_rfl) (by kernel_rfl) (by kernel_rfl) (fun _ _ _ h=>h) (by rfl) ?_ hHeld ?_;rotate_left;(· (intro wS hSw;(try dsimp only at hSw);go_simp;first|done|with_reducible rfl));simp only [Act.put,sta_,scz_,scs_]);(refine take_op (i:=10) (v:=?_) rfl (by kernel_rfl) (by kernel_rfl) (by kernel_rfl) (fun _ _ _ h=>h) (by rfl) ?_ hHeld ?_;rotate_left;(· (intro wS hSw;(try dsimp only at hSw);go_simp;first|done|with_reducible rfl));simp only [Act.put,sta_,scz_,scs_])
  (refine call_op (i:=11) rfl (by kernel_rfl) (by rfl) (fun K hK=>?_);go_simp;(go_at_call 86;(with_reducible refine (Hfo.out _ kk).mono ?_);rintro e w2 ⟨A2,c2,rfl,hi2,hb2⟩;replace PA:=PA.keep hb2;replace PX:=PX.keep hb2;replace PR:=PR.keep hb2;replace kk:=below_call kk hb2 kk.size);refine hK.out _ _ ⟨PA.cell,PX.cell⟩ (fun hHeld2=>?_);clear hK K hHeld;have hHeld:=hHeld2;clear hHeld2;(try simp only [Act.put,sta_,scz_,scs_]))
  (refine call_op (i:=12) rfl (by kernel_rfl) (by rfl) (fun K hK=>?_);go_simp;(go_at_call 15;(with_reducible refine (Hsm.out _ _ kk hi2.holds).mono ?_);rintro e w3 ⟨rfl,hb3⟩;replace PA:=PA.keep hb3;replace PX:=PX.keep hb3;replace PR:=PR.keep hb3;replace kk:=below_call kk hb3 kk.size);refine hK.out _ _ ⟨PA.cell,PX.cell⟩ (fun hHeld2=>?_);clear hK K hHeld;have hHeld:=hHeld2;clear hHeld2;(try simp only [Act.put,sta_,scz_,scs_]))
  (refine take_op (i:=13) (v:=?_) rfl (by kernel_rfl) (by kernel_rfl) (by kernel_rfl) (fun _ _ _ h=>h) (by rfl) ?_ hHeld ?_;rotate_left;(· (intro wS hSw;(try dsimp only at hSw);go_simp;first|done|with_reducible rfl));simp only [Act.put,sta_,scz_,scs_]);(refine take_op (i:=14) (v:=?_) rfl (by kernel_rfl) (by kernel_rfl) (by kernel_rfl) (fun _ _ _ h=>h) (by rfl) ?_ hHeld ?_;rotate_left;(· (intro wS hSw;(try dsimp only at hSw);go_simp;first|done|with_reducible rfl));simp only [Act.put,sta_,scz_,scs_])
  (refine wpAnyH_done (by kernel_rfl) ?_ _)
  have PRc:=PR.cell
  have PRf:=PR.frozen
  have PAc:=PA.cell
  clear hHeld
  go_wp2_with fail
  refine bodyPost_ret (v:=.tuple #[.agg #[.slice none 0 0,.int .i64 0,.int .i64 0],.bool false]) (by simp [results,Tryd.results83,go_sem, *] <;> rfl) rfl ?_
  exact ⟨blw,_,_,_,_,_,rfl,fun h=>(by cases h),fun _=>⟨rfl,rfl,rfl,rfl,rfl⟩⟩
 ·go_enter Tryd.func83,Tryd.ntmps83
  go_upto_region 1 with fail
  have PA:=B0.drew;have PX:=X0.drew;have PR:=R0.drew;have kk:=k0.drew
  clear B0 X0 R0 k0
  (refine wp_region_held_drew (S:=(S11 w.heap.size (w.heap.size+1) #[.slice A m c,.int .i64 sq,.int .i64 tg] #[.int .i64 xk,.int .u64 (xn:Int),.string xs,.slice xA xm xc])) (by kernel_rfl) ?_ (fun hHeld=>?_);(· exact ⟨PA.cell,PX.cell⟩))
  revert hHeld PA PX PR kk
  generalize World.drew _=wd
  intro PA PX PR kk hHeld
  (refine take_op (i:=0) (v:=?_) rfl (by kernel_rfl) (by kernel_rfl) (by kernel_rfl) (fun _ _ _ h=>h) (by rfl) ?_ hHeld ?_;rotate_left;(· (intro wS hSw;(try dsimp only at hSw);go_simp;first|done|with_reducible rfl));simp only [Act.put,sta_,scz_,scs_]);(refine take_op (i:=1) (v:=?_) rfl (by kernel_rfl) (by kernel_rfl) (by kernel_rfl) (fun _ _ _ h=>h) (by rfl) ?_ hHeld ?_;rotate_left;(· (intro wS hSw;(try dsimp only at hSw);go_simp;first|done|with_reducible rfl));simp only [Act.put,sta_,scz_,scs_]);(refine take_op (i:=2) (v:=?_) rfl (by kernel_rfl) (by kernel_rfl) (by kernel_rfl) (fun _ _ _ h=>h) (by rfl) ?_ hHeld ?_;rotate_left;(· (intro wS hSw;(try dsimp only at hSw);go_simp;first|done|with_reducible rfl));simp only [Act.put,sta_,scz_,scs_]);(refine take_op (i:=3) (v:=?_) rfl (by kernel_rfl) (by kernel_rfl) (by kernel_rfl) (fun _ _ _ h=>h) (by rfl) ?_ hHeld ?_;rotate_left;(· (intro wS hSw;(try dsimp only at hSw);go_simp;first|done|with_reducible rfl));simp only [Act.put,sta_,scz_,scs_])
  (refine call_op (i:=4) rfl (by kernel_rfl) (by rfl) (fun K hK=>?_);go_simp;(go_at_call 70;(with_reducible refine (Hck.out _ kk).mono ?_);rintro e w1 ⟨rfl,hb1⟩;replace PA:=PA.keep hb1;replace PX:=PX.keep hb1;replace PR:=PR.keep hb1;replace kk:=below_call kk hb1 kk.size);refine hK.out _ _ ⟨PA.cell,PX.cell⟩ (fun hHeld2=>?_);clear hK K hHeld;have hHeld:=hHeld2;clear hHeld2;(try simp only [Act.put,sta_,scz_,scs_]))
  (refine take_op (i:=5) (v:=?_) rfl (by kernel_rfl) (by kernel_rfl) (by kernel_rfl) (fun _ _ _ h=>h) (by rfl) ?_ hHeld ?_;rotate_left;(· (intro wS hSw;(try dsimp only at hSw);go_simp;first|done|with_reducible rfl));simp only [Act.put,sta_,scz_,scs_]);(refine take_op (i:=6) (v:=?_) rfl (by kernel_rfl) (by kernel_rfl) (by kernel_rfl) (fun _ _ _ h=>h) (by rfl) ?_ hHeld ?_;rotate_left;(· (intro wS hSw;(try dsimp only at hSw);go_simp;first|done|with_reducible rfl));simp only [Act.put,sta_,scz_,scs_]);(refine take_op (i:=7) (v:=?_) rfl (by kernel_rfl) (by kernel_rfl) (by kernel_rfl) (fun _ _ _ h=>h) (by rfl) ?_ hHeld ?_;rotate_left;(· (intro wS hSw;(try dsimp only at hSw);go_simp;first|done|with_reducible rfl));simp only [Act.put,sta_,scz_,scs_]);(refine take_op (i:=8) (v:=?_) rfl (by kernel_rfl) (by kernel_rfl) (by kernel_rfl) (fun _ _ _ h=>h) (by rfl) ?_ hHeld ?_;rotate_left;(· (intro wS hSw;(try dsimp only at hSw);go_simp;first|done|with_reducible rfl));simp only [Act.put,sta_,scz_,scs_]);(refine take_op (i:=9) (v:=?_) rfl (by kernel_rfl) (by kernel_rfl) (by kernel_rfl) (fun _ _ _ h=>h) (by rfl) ?_ hHeld ?_;rotate_left;(· (intro wS hSw;(try dsimp only at hSw);go_simp;first|done|with_reducible rfl));simp only [Act.put,sta_,scz_,scs_]);(refine take_op (i:=10) (v:=?_) rfl (by kernel_rfl) (by kernel_rfl) (by kernel_rfl) (fun _ _ _ h=>h) (by rfl) ?_ hHeld ?_;rotate_left;(· (intro wS hSw;(try dsimp only at hSw);go_simp;first|done|with_reducible rfl));simp only [Act.put,sta_,scz_,scs_])
  (refine call_op (i:=11) rfl (by kernel_rfl) (by rfl) (fun K hK=>?_);go_simp;(go_at_call 86;(with_reducible refine (Hfo.out _ kk).mono ?_);rintro e w2 ⟨A2,c2,rfl,hi2,hb2⟩;replace PA:=PA.keep hb2;replace PX:=PX.keep hb2;replace PR:=PR.keep hb2;replace kk:=below_call kk hb2 kk.size);refine hK.out _ _ ⟨PA.cell,PX.cell⟩ (fun hHeld2=>?_);clear hK K hHeld;have hHeld:=hHeld2;clear hHeld2;(try simp only [Act.put,sta_,scz_,scs_]))
  (refine call_op (i:=12) rfl (by kernel_rfl) (by rfl) (fun K hK=>?_);go_simp;(go_at_call 15;(with_reducible refine (Hsm.out _ _ kk hi2.holds).mono ?_);rintro e w3 ⟨rfl,hb3⟩;replace PA:=PA.keep hb3;replace PX:=PX.keep hb3;replace PR:=PR.keep hb3;replace kk:=below_call kk hb3 kk.size);refine hK.out _ _ ⟨PA.cell,PX.cell⟩ (fun hHeld2=>?_);clear hK K hHeld;have hHeld:=hHeld2;clear hHeld2;(try simp only [Act.put,sta_,scz_,scs_]))
  (refine take_op (i:=13) (v:=?_) rfl (by kernel_rfl) (by kernel_rfl) (by kernel_rfl) (fun _ _ _ h=>h) (by rfl) ?_ hHeld ?_;rotate_left;(· (intro wS hSw;(try dsimp only at hSw);go_simp;first|done|with_reducible rfl));simp only [Act.put,sta_,scz_,scs_]);(refine take_op (i:=14) (v:=?_) rfl (by kernel_rfl) (by kernel_rfl) (by kernel_rfl) (fun _ _ _ h=>h) (by rfl) ?_ hHeld ?_;rotate_left;(· (intro wS hSw;(try dsimp only at hSw);go_simp;first|done|with_reducible rfl));simp only [Act.put,sta_,scz_,scs_])
  (refine wpAnyH_done (by kernel_rfl) ?_ _)
  have PRc:=PR.cell
  have PRf:=PR.frozen
  have PAc:=PA.cell
  clear hHeld
  go_wp2_with fail
  refine bodyPost_ret (v:=.tuple #[.agg #[.slice A m c,.int .i64 sq,.int .i64 tg],.bool true]) (by simp [results,Tryd.results83,go_sem, *] <;> rfl) rfl ?_
  exact ⟨blw,_,_,_,_,_,rfl,fun _=>⟨rfl,rfl,rfl,rfl,rfl⟩,fun h=>(by cases h)⟩
/-- An attribute that was taken, none as the zero one. -/
def TkA (w:World) (r:Option AttrP) (e:Ending) (w':World):Prop:=
 ∃A c,e= .returned (.tuple #[.agg #[.slice A (r.getD azero).l.length c,.int .i64 (r.getD azero).q,.int .i64 (r.getD azero).t],.bool r.isSome])∧IdsAt w' A (r.getD azero).l.length (r.getD azero).l∧((r.getD azero).l.length≤c∧∀ad,A=some ad→w.heap.size≤ad.block)∧Below w.heap.size w w'
noncomputable def aTk (b:Bool) (l:List IdP) (sq tg:Int) (t T:Tree):Option AttrP:=if (b&&decide (acheck ⟨l,sq,tg⟩=0)&&tsame t T)=true then some ⟨l,sq,tg⟩ else none
noncomputable def atake:Tree→Option AttrP
 | .mk k n s [t0,t1,t2]=>aTk (itake t2).isSome ((itake t2).getD []) (clamp (tN t1)) (clamp (tN t0)) (.mk k n s [t0,t1,t2]) (atree ((itake t2).getD []) (clamp (tN t1)) (clamp (tN t0)))
 |_=>none
noncomputable def otake:Tree→Option AttrP
 | .mk k n s [t0,t1]=>aTk (itake t1).isSome ((itake t1).getD []) (clamp (tN t0)) 1 (.mk k n s [t0,t1]) (otree ((itake t1).getD []) (clamp (tN t0)))
 |_=>none
theorem IdsAt.set {w:World} {A:Option Addr} {m:Nat} {l:List IdP} (h:IdsAt w A m l) {p:Addr} (hp:∀ad,A=some ad→ad.block≠p.block) (u:Value):IdsAt (w.setCell p u) A m l:=
 ⟨h.1,h.2.1,fun i x hi=>by
  obtain ⟨w1,w2,b,o,e,h1,h2⟩:=h.2.2 i x hi
  have hb:=hp _ e
  exact ⟨w1,w2,b,o,e,by rw [World.cell?_setCell_other _ _ _ _ (fun e=>hb (by rw [e]))];exact h1,by rw [World.cell?_setCell_other _ _ _ _ (fun e=>hb (by rw [e]))];exact h2⟩⟩
/-- Where a list's items lie. -/
theorem Items.rows {w:World} {A:Option Addr} {m c:Nat} {l:List Tree} (h:Items w A m c l) (hl:0<l.length):∃eb eo,A=some ⟨eb,eo,none⟩∧∀(i:Nat) (t:Tree),l[i]? =some t→
  ∃(k:Int) (n:Nat) (s:ByteArray) (A0:Option Addr) (m0 c0:Nat),Holds w t (.agg #[.int .i64 k,.int .u64 (n:Int),.string s,.slice A0 m0 c0])∧w.cell? ⟨eb,eo+4*i,none⟩=some (.int .i64 k)∧w.cell? ⟨eb,eo+(4*i+1),none⟩=some (.int .u64 (n:Int))∧w.cell? ⟨eb,eo+(4*i+2),none⟩=some (.string s)∧w.cell? ⟨eb,eo+(4*i+3),none⟩=some (.slice A0 m0 c0)∧tN t=n:=by
 obtain ⟨ad,u0,rfl,_,b,o,k,n,s,A0,m0,c0,ha,_⟩:=h.elem (List.getElem?_eq_getElem hl)
 obtain ⟨eb,eo,sp⟩:=ad
 have ha':sp=none:=by
  cases sp with
  |none=>rfl
  |some x=>simp [Addr.add] at ha
 subst ha'
 refine ⟨eb,eo,rfl,fun i t hi=>?_⟩
 obtain ⟨ad',u,e,hu,b',o',k',n',s',A',m',c',ha',rfl,q0,q1,q2,q3⟩:=h.elem hi
 injection e with e
 subst e
 rw [addr_add] at ha'
 injection ha' with e1 e2
 subst e1 e2
 obtain ⟨kk,nn,ss,ll⟩:=t
 obtain ⟨A3,m3,c3,e3,_,hn,_⟩:=hu.open_
 injection e3 with e3
 simp at e3
 obtain ⟨rfl,rfl,rfl,rfl,rfl,rfl⟩:=e3
 rw [show i*4=4*i by omega] at q0 q1 q2 q3
 exact ⟨_,_,_,_,_,_,hu,q0,by rw [←Nat.add_assoc];exact q1,by rw [←Nat.add_assoc];exact q2,by rw [←Nat.add_assoc];exact q3,rfl⟩
set_option maxHeartbeats 4000000 in
theorem attrtake_many (k:Int) (n:Nat) (s:ByteArray) (A:Option Addr) (m c:Nat) (w:World) (hm:m≠3):
  Calls Tryd.prog 63 #[.agg #[.int .i64 k,.int .u64 (n:Int),.string s,.slice A m c]] w (Gives w (.tuple #[.agg #[.slice none 0 0,.int .i64 0,.int .i64 0],.bool false])):=by
 have g1:((m:Int) != 3)=true:=by simp;omega
 go_enter Tryd.func63,Tryd.ntmps63
 go_wp2_with fail
 refine bodyPost_ret (v:=.tuple #[.agg #[.slice none 0 0,.int .i64 0,.int .i64 0],.bool false]) (by simp [results,Tryd.results63,go_sem, *] <;> rfl) rfl ?_
 exact ⟨rfl,blw⟩
set_option maxHeartbeats 4000000 in
theorem attrtake_good (k:Int) (n:Nat) (s:ByteArray) (A:Option Addr) (c:Nat) (t0 t1 t2:Tree) (w:World) (hv:Holds w (.mk k n s [t0,t1,t2]) (.agg #[.int .i64 k,.int .u64 (n:Int),.string s,.slice A 3 c])):
  Calls Tryd.prog 63 #[.agg #[.int .i64 k,.int .u64 (n:Int),.string s,.slice A 3 c]] w (TkA w (atake (.mk k n s [t0,t1,t2]))):=by
 obtain ⟨eb,eo,rfl,hrow⟩:=hv.items.rows (by simp)
 obtain ⟨k0,n0,s0,A0,m0,c0,h0,p00,p01,p02,p03,hn0⟩:=hrow 0 t0 rfl
 simp only [Nat.reduceMul,Nat.add_zero,Nat.add_assoc,Nat.reduceAdd] at p00 p01 p02 p03
 obtain ⟨k1,n1,s1,A1,m1,c1,h1,p10,p11,p12,p13,hn1⟩:=hrow 1 t1 rfl
 simp only [Nat.reduceMul,Nat.add_zero,Nat.add_assoc,Nat.reduceAdd] at p10 p11 p12 p13
 obtain ⟨k2,n2,s2,A2,m2,c2,h2,p20,p21,p22,p23,hn2⟩:=hrow 2 t2 rfl
 simp only [Nat.reduceMul,Nat.add_zero,Nat.add_assoc,Nat.reduceAdd] at p20 p21 p22 p23
 have hid:=fun W (hb:Below w.heap.size w W)=>idstake_ids t2 _ W (h2.keep hb)
 have hnu0:=fun W (hb:Below w.heap.size w W)=>attrnum_any t0 _ W (h0.keep hb)
 have hnu1:=fun W (hb:Below w.heap.size w W)=>attrnum_any t1 _ W (h1.keep hb)
 rw [hn0] at hnu0
 rw [hn1] at hnu1
 obtain ⟨J,hJ⟩:∃J,itake t2=J:=⟨_,rfl⟩
 rw [hJ] at hid
 unfold TkIds at hid
 have hw:=fun l h=>itake_wf (t:=t2) (l:=l) h
 rw [hJ] at hw
 have htk:=fun W (hb:Below w.heap.size w W) A' c' (hi:IdsAt W A' (J.getD []).length (J.getD [])) (hl:(J.getD []).length≤1000000)=>taken_item A' (J.getD []).length c' (clamp n1:Int) (clamp n0:Int) (J.getD []) J.isSome (.mk k n s [t0,t1,t2]) _ W hi (hv.keep hb) hl
 have hplain:atake (.mk k n s [t0,t1,t2])=aTk J.isSome (J.getD []) (clamp n1:Int) (clamp n0:Int) (.mk k n s [t0,t1,t2]) (atree (J.getD []) (clamp n1) (clamp n0)):=by rw [←hJ,←hn0,←hn1];rfl
 rw [hplain]
 unfold aTk
 have hl4:(J.getD []).length≤1000000:=by cases J with|none=>simp|some j=>have:=(hw _ rfl).2.1;simp;omega
 generalize J.getD []=G at*
 generalize J.isSome=b at*
 obtain ⟨R,hR⟩:∃R,(b&&decide (acheck ⟨G,(clamp n1:Int),(clamp n0:Int)⟩=0)&&tsame (.mk k n s [t0,t1,t2]) (atree G (clamp n1) (clamp n0)))=R:=⟨_,rfl⟩
 rw [hR] at htk ⊢
 obtain ⟨RES,hRES⟩:∃r,(if R=true then some (AttrP.mk G (clamp n1:Int) (clamp n0:Int)) else none)=r:=⟨_,rfl⟩
 rw [hRES]
 have HRES:=Lib.hid hRES
 clear hRES
 have Hid:=Lib.hid hid
 have Htk:=Lib.hid htk
 have HL:=Lib.hid hl4
 have Hnu0:=Lib.hid hnu0
 have Hnu1:=Lib.hid hnu1
 clear hid htk hR hplain hJ hv hrow hw hl4 hnu0 hn0 hnu1 hn1 h0 h1 h2 hn2
 have X0:Blk ((w.alloc (.cells #[.int .i64 k,.int .u64 (n:Int),.string s,.slice (some ⟨eb,eo,none⟩) 3 c] 25)).alloc (.cells #[.slice none 0 0,.int .i64 0,.int .i64 0] 48)) w.heap.size 25 #[.int .i64 k,.int .u64 (n:Int),.string s,.slice (some ⟨eb,eo,none⟩) 3 c]:=(Blk.new w _ _).alloc _
 have R0:Blk ((w.alloc (.cells #[.int .i64 k,.int .u64 (n:Int),.string s,.slice (some ⟨eb,eo,none⟩) 3 c] 25)).alloc (.cells #[.slice none 0 0,.int .i64 0,.int .i64 0] 48)) (w.heap.size+1) 48 #[.slice none 0 0,.int .i64 0,.int .i64 0]:=Blk.newAt (by simp)
 have k0:Below w.heap.size w ((w.alloc (.cells #[.int .i64 k,.int .u64 (n:Int),.string s,.slice (some ⟨eb,eo,none⟩) 3 c] 25)).alloc (.cells #[.slice none 0 0,.int .i64 0,.int .i64 0] 48)):=blw
 have x0:=X0.cell
 have z00:=cell_keep k0 p00
 have z01:=cell_keep k0 p01
 have z02:=cell_keep k0 p02
 have z03:=cell_keep k0 p03
 have z10:=cell_keep k0 p10
 have z11:=cell_keep k0 p11
 have z12:=cell_keep k0 p12
 have z13:=cell_keep k0 p13
 have z20:=cell_keep k0 p20
 have z21:=cell_keep k0 p21
 have z22:=cell_keep k0 p22
 have z23:=cell_keep k0 p23
 go_enter Tryd.func63,Tryd.ntmps63
 go_upto_region 4 with (go_at_call 82;(with_reducible refine (Hid.out _ k0).mono ?_);rintro e w1 ⟨A9,c9,rfl,i9,le9,hb1⟩;have PX:=X0.keep hb1;have PR:=R0.keep hb1;have kk:=below_call k0 hb1 k0.size;clear x0 X0 R0 k0 z00 z01 z02 z03 z10 z11 z12 z13 z20 z21 z22 z23)
 obtain ⟨SX,hSX⟩:∃S:World→Prop,S=fun wx=>((wx.cell? ⟨w.heap.size,0,none⟩=some (.int .i64 k)∧wx.cell? ⟨w.heap.size,1,none⟩=some (.int .u64 (n:Int))∧wx.cell? ⟨w.heap.size,2,none⟩=some (.string s)∧wx.cell? ⟨w.heap.size,3,none⟩=some (.slice (some ⟨eb,eo,none⟩) 3 c))∧(wx.cell? ⟨eb,eo,none⟩=some (.int .i64 k0)∧wx.cell? ⟨eb,eo+1,none⟩=some (.int .u64 (n0:Int))∧wx.cell? ⟨eb,eo+2,none⟩=some (.string s0)∧wx.cell? ⟨eb,eo+3,none⟩=some (.slice A0 m0 c0))∧(wx.cell? ⟨eb,eo+4,none⟩=some (.int .i64 k1)∧wx.cell? ⟨eb,eo+5,none⟩=some (.int .u64 (n1:Int))∧wx.cell? ⟨eb,eo+6,none⟩=some (.string s1)∧wx.cell? ⟨eb,eo+7,none⟩=some (.slice A1 m1 c1))∧(wx.cell? ⟨eb,eo+8,none⟩=some (.int .i64 k2)∧wx.cell? ⟨eb,eo+9,none⟩=some (.int .u64 (n2:Int))∧wx.cell? ⟨eb,eo+10,none⟩=some (.string s2)∧wx.cell? ⟨eb,eo+11,none⟩=some (.slice A2 m2 c2))):=⟨_,rfl⟩
 have mkS:∀W,Below w.heap.size w W→Blk W w.heap.size 25 #[.int .i64 k,.int .u64 (n:Int),.string s,.slice (some ⟨eb,eo,none⟩) 3 c]→SX W:=fun W k B=>by
  subst hSX
  exact ⟨⟨B.cell 0,B.cell 1,B.cell 2,B.cell 3⟩,⟨cell_keep k p00,cell_keep k p01,cell_keep k p02,cell_keep k p03⟩,⟨cell_keep k p10,cell_keep k p11,cell_keep k p12,cell_keep k p13⟩,⟨cell_keep k p20,cell_keep k p21,cell_keep k p22,cell_keep k p23⟩⟩
 replace PX:=PX.drew
 replace PR:=PR.drew
 replace i9:=i9.keep (Below.refl w1.heap.size w1).drew
 replace kk:=kk.drew
 (refine wp_region_held_drew (S:=SX) (by kernel_rfl) ?_ (fun hHeld=>?_);(· exact mkS _ kk PX))
 revert hHeld PX PR kk i9
 generalize World.drew _=wd
 intro PX PR i9 kk hHeld
 subst hSX
 (refine take_op (i:=0) (v:=?_) rfl (by kernel_rfl) (by kernel_rfl) (by kernel_rfl) (fun _ _ _ h=>h) (by rfl) ?_ hHeld ?_;rotate_left;(· (intro wS hSw;(try dsimp only at hSw);go_simp;first|done|with_reducible rfl));simp only [Act.put,sta_,scz_,scs_]);(refine take_op (i:=1) (v:=?_) rfl (by kernel_rfl) (by kernel_rfl) (by kernel_rfl) (fun _ _ _ h=>h) (by rfl) ?_ hHeld ?_;rotate_left;(· (intro wS hSw;(try dsimp only at hSw);go_simp;first|done|with_reducible rfl));simp only [Act.put,sta_,scz_,scs_]);(refine take_op (i:=2) (v:=?_) rfl (by kernel_rfl) (by kernel_rfl) (by kernel_rfl) (fun _ _ _ h=>h) (by rfl) ?_ hHeld ?_;rotate_left;(· (intro wS hSw;(try dsimp only at hSw);go_simp;first|done|with_reducible rfl));simp only [Act.put,sta_,scz_,scs_]);(refine take_op (i:=3) (v:=?_) rfl (by kernel_rfl) (by kernel_rfl) (by kernel_rfl) (fun _ _ _ h=>h) (by rfl) ?_ hHeld ?_;rotate_left;(· (intro wS hSw;(try dsimp only at hSw);go_simp;first|done|with_reducible rfl));simp only [Act.put,sta_,scz_,scs_]);(refine take_op (i:=4) (v:=?_) rfl (by kernel_rfl) (by kernel_rfl) (by kernel_rfl) (fun _ _ _ h=>h) (by rfl) ?_ hHeld ?_;rotate_left;(· (intro wS hSw;(try dsimp only at hSw);go_simp;first|done|with_reducible rfl));simp only [Act.put,sta_,scz_,scs_]);(refine take_op (i:=6) (v:=?_) rfl (by kernel_rfl) (by kernel_rfl) (by kernel_rfl) (fun _ _ _ h=>h) (by rfl) ?_ hHeld ?_;rotate_left;(· (intro wS hSw;(try dsimp only at hSw);go_simp;first|done|with_reducible rfl));simp only [Act.put,sta_,scz_,scs_]);(refine take_op (i:=7) (v:=?_) rfl (by kernel_rfl) (by kernel_rfl) (by kernel_rfl) (fun _ _ _ h=>h) (by rfl) ?_ hHeld ?_;rotate_left;(· (intro wS hSw;(try dsimp only at hSw);go_simp;first|done|with_reducible rfl));simp only [Act.put,sta_,scz_,scs_]);(refine take_op (i:=8) (v:=?_) rfl (by kernel_rfl) (by kernel_rfl) (by kernel_rfl) (fun _ _ _ h=>h) (by rfl) ?_ hHeld ?_;rotate_left;(· (intro wS hSw;(try dsimp only at hSw);go_simp;first|done|with_reducible rfl));simp only [Act.put,sta_,scz_,scs_]);(refine take_op (i:=9) (v:=?_) rfl (by kernel_rfl) (by kernel_rfl) (by kernel_rfl) (fun _ _ _ h=>h) (by rfl) ?_ hHeld ?_;rotate_left;(· (intro wS hSw;(try dsimp only at hSw);go_simp;first|done|with_reducible rfl));simp only [Act.put,sta_,scz_,scs_]);(refine take_op (i:=12) (v:=?_) rfl (by kernel_rfl) (by kernel_rfl) (by kernel_rfl) (fun _ _ _ h=>h) (by rfl) ?_ hHeld ?_;rotate_left;(· (intro wS hSw;(try dsimp only at hSw);go_simp;first|done|with_reducible rfl));simp only [Act.put,sta_,scz_,scs_]);(refine take_op (i:=13) (v:=?_) rfl (by kernel_rfl) (by kernel_rfl) (by kernel_rfl) (fun _ _ _ h=>h) (by rfl) ?_ hHeld ?_;rotate_left;(· (intro wS hSw;(try dsimp only at hSw);go_simp;first|done|with_reducible rfl));simp only [Act.put,sta_,scz_,scs_])
 (refine call_op (i:=5) rfl (by kernel_rfl) (by rfl) (fun K hK=>?_);go_simp;(go_at_call 84;(with_reducible refine (Hnu1.out _ kk).mono ?_);clear Hnu1;rintro e w2 ⟨rfl,hb2⟩;replace i9:=i9.keep hb2;replace PX:=PX.keep hb2;replace PR:=PR.keep hb2;replace kk:=below_call kk hb2 kk.size);refine hK.out _ _ (mkS _ kk PX) (fun hHeld2=>?_);clear hK K hHeld;have hHeld:=hHeld2;clear hHeld2;(try simp only [Act.put,sta_,scz_,scs_]))
 (refine call_op (i:=10) rfl (by kernel_rfl) (by rfl) (fun K hK=>?_);go_simp;(go_at_call 84;(with_reducible refine (Hnu0.out _ kk).mono ?_);clear Hnu0;rintro e w2 ⟨rfl,hb2⟩;replace i9:=i9.keep hb2;replace PX:=PX.keep hb2;replace PR:=PR.keep hb2;replace kk:=below_call kk hb2 kk.size);refine hK.out _ _ (mkS _ kk PX) (fun hHeld2=>?_);clear hK K hHeld;have hHeld:=hHeld2;clear hHeld2;(try simp only [Act.put,sta_,scz_,scs_]))
 (refine take_op (i:=11) (v:=?_) rfl (by kernel_rfl) (by kernel_rfl) (by kernel_rfl) (fun _ _ _ h=>h) (by rfl) ?_ hHeld ?_;rotate_left;(· (intro wS hSw;(try dsimp only at hSw);go_simp;first|done|with_reducible rfl));simp only [Act.put,sta_,scz_,scs_])
 (refine call_op (i:=14) rfl (by kernel_rfl) (by rfl) (fun K hK=>?_);go_simp;(go_at_call 83;(with_reducible refine (Htk.out _ kk _ _ i9 HL.out).mono ?_);clear Htk;rintro e w3 ⟨hb3,A8,m8,c8,q8,t8,rfl,yes8,no8⟩;replace i9:=i9.keep hb3;replace PX:=PX.keep hb3;replace PR:=PR.keep hb3;replace kk:=below_call kk hb3 kk.size);refine hK.out _ _ (mkS _ kk PX) (fun hHeld2=>?_);clear hK K hHeld;have hHeld:=hHeld2;clear hHeld2;(try simp only [Act.put,sta_,scz_,scs_]))
 (refine take_op (i:=15) (v:=?_) rfl (by kernel_rfl) (by kernel_rfl) (by kernel_rfl) (fun _ _ _ h=>h) (by rfl) ?_ hHeld ?_;rotate_left;(· (intro wS hSw;(try dsimp only at hSw);go_simp;first|done|with_reducible rfl));simp only [Act.put,sta_,scz_,scs_]);(refine take_op (i:=16) (v:=?_) rfl (by kernel_rfl) (by kernel_rfl) (by kernel_rfl) (fun _ _ _ h=>h) (by rfl) ?_ hHeld ?_;rotate_left;(· (intro wS hSw;(try dsimp only at hSw);go_simp;first|done|with_reducible rfl));simp only [Act.put,sta_,scz_,scs_])
 have PRc:=PR.cell
 have PRf:=PR.frozen
 have PE:Blk (((w3.setCell ⟨w.heap.size+1,0,none⟩ (.slice A8 m8 c8)).setCell ⟨w.heap.size+1,1,none⟩ (.int .i64 q8)).setCell ⟨w.heap.size+1,2,none⟩ (.int .i64 t8)) (w.heap.size+1) 48 #[.slice A8 m8 c8,.int .i64 q8,.int .i64 t8]:=by
  have:=((PR.set_ 0 (.slice A8 m8 c8)).set_ 1 (.int .i64 q8)).set_ 2 (.int .i64 t8)
  simpa using this
 have XE:=((PX.far (p:=⟨w.heap.size+1,0,none⟩) (by simp) (.slice A8 m8 c8)).far (p:=⟨w.heap.size+1,1,none⟩) (by simp) (.int .i64 q8)).far (p:=⟨w.heap.size+1,2,none⟩) (by simp) (.int .i64 t8)
 have kE:=((kk.setCell (p:=⟨w.heap.size+1,0,none⟩) (Nat.le_succ _) (.slice A8 m8 c8)).setCell (p:=⟨w.heap.size+1,1,none⟩) (Nat.le_succ _) (.int .i64 q8)).setCell (p:=⟨w.heap.size+1,2,none⟩) (Nat.le_succ _) (.int .i64 t8)
 (refine call_op (i:=17) rfl (by kernel_rfl) (by rfl) (fun K hK=>?_);go_simp;skip;refine hK.out _ _ (mkS _ kE XE) (fun hHeld2=>?_);clear hK K hHeld;have hHeld:=hHeld2;clear hHeld2;(try simp only [Act.put,sta_,scz_,scs_]))
 (refine take_op (i:=18) (v:=?_) rfl (by kernel_rfl) (by kernel_rfl) (by kernel_rfl) (fun _ _ _ h=>h) (by rfl) ?_ hHeld ?_;rotate_left;(· (intro wS hSw;(try dsimp only at hSw);go_simp;first|done|with_reducible rfl));simp only [Act.put,sta_,scz_,scs_])
 (refine wpAnyH_done (by kernel_rfl) ?_ _)
 have PEc:=PE.cell
 clear hHeld
 go_wp2_with fail
 refine bodyPost_ret (v:=.tuple #[.agg #[.slice A8 m8 c8,.int .i64 q8,.int .i64 t8],.bool R]) (by simp [results,Tryd.results63,go_sem, *] <;> rfl) rfl ?_
 cases R
 ·obtain rfl:=HRES.out
  obtain ⟨rfl,rfl,rfl,rfl,rfl⟩:=no8 rfl
  exact ⟨none,0,rfl,IdsAt.nil,⟨Nat.le_refl _,fun ad h=>by cases h⟩,kE⟩
 ·obtain rfl:=HRES.out
  obtain ⟨rfl,rfl,rfl,rfl,rfl⟩:=yes8 rfl
  have hq:∀ad,A8=some ad→ad.block≠w.heap.size+1:=fun ad e=>by have:=le9.2 ad e;simp at this;omega
  exact ⟨_,_,rfl,((i9.set (p:=⟨w.heap.size+1,0,none⟩) hq _).set (p:=⟨w.heap.size+1,1,none⟩) hq _).set (p:=⟨w.heap.size+1,2,none⟩) hq _,⟨le9.1,fun ad e=>by have:=le9.2 ad e;simp at this;omega⟩,kE⟩
set_option maxHeartbeats 4000000 in
theorem attrtakeold_many (k:Int) (n:Nat) (s:ByteArray) (A:Option Addr) (m c:Nat) (w:World) (hm:m≠2):
  Calls Tryd.prog 66 #[.agg #[.int .i64 k,.int .u64 (n:Int),.string s,.slice A m c]] w (Gives w (.tuple #[.agg #[.slice none 0 0,.int .i64 0,.int .i64 0],.bool false])):=by
 have g1:((m:Int) != 2)=true:=by simp;omega
 go_enter Tryd.func66,Tryd.ntmps66
 go_wp2_with fail
 refine bodyPost_ret (v:=.tuple #[.agg #[.slice none 0 0,.int .i64 0,.int .i64 0],.bool false]) (by simp [results,Tryd.results66,go_sem, *] <;> rfl) rfl ?_
 exact ⟨rfl,blw⟩
set_option maxHeartbeats 4000000 in
theorem attrtakeold_good (k:Int) (n:Nat) (s:ByteArray) (A:Option Addr) (c:Nat) (t0 t1:Tree) (w:World) (hv:Holds w (.mk k n s [t0,t1]) (.agg #[.int .i64 k,.int .u64 (n:Int),.string s,.slice A 2 c])):
  Calls Tryd.prog 66 #[.agg #[.int .i64 k,.int .u64 (n:Int),.string s,.slice A 2 c]] w (TkA w (otake (.mk k n s [t0,t1]))):=by
 obtain ⟨eb,eo,rfl,hrow⟩:=hv.items.rows (by simp)
 obtain ⟨k0,n0,s0,A0,m0,c0,h0,p00,p01,p02,p03,hn0⟩:=hrow 0 t0 rfl
 simp only [Nat.reduceMul,Nat.add_zero,Nat.add_assoc,Nat.reduceAdd] at p00 p01 p02 p03
 obtain ⟨k1,n1,s1,A1,m1,c1,h1,p10,p11,p12,p13,hn1⟩:=hrow 1 t1 rfl
 simp only [Nat.reduceMul,Nat.add_zero,Nat.add_assoc,Nat.reduceAdd] at p10 p11 p12 p13
 have hid:=fun W (hb:Below w.heap.size w W)=>idstake_ids t1 _ W (h1.keep hb)
 have hnu0:=fun W (hb:Below w.heap.size w W)=>attrnum_any t0 _ W (h0.keep hb)
 rw [hn0] at hnu0
 obtain ⟨J,hJ⟩:∃J,itake t1=J:=⟨_,rfl⟩
 rw [hJ] at hid
 unfold TkIds at hid
 have hw:=fun l h=>itake_wf (t:=t1) (l:=l) h
 rw [hJ] at hw
 have htk:=fun W (hb:Below w.heap.size w W) A' c' (hi:IdsAt W A' (J.getD []).length (J.getD [])) (hl:(J.getD []).length≤1000000)=>taken_old A' (J.getD []).length c' (clamp n0:Int) 1 (J.getD []) J.isSome (.mk k n s [t0,t1]) _ W hi (hv.keep hb) hl
 have hplain:otake (.mk k n s [t0,t1])=aTk J.isSome (J.getD []) (clamp n0:Int) 1 (.mk k n s [t0,t1]) (otree (J.getD []) (clamp n0)):=by rw [←hJ,←hn0];rfl
 rw [hplain]
 unfold aTk
 have hl4:(J.getD []).length≤1000000:=by cases J with|none=>simp|some j=>have:=(hw _ rfl).2.1;simp;omega
 generalize J.getD []=G at*
 generalize J.isSome=b at*
 obtain ⟨R,hR⟩:∃R,(b&&decide (acheck ⟨G,(clamp n0:Int),1⟩=0)&&tsame (.mk k n s [t0,t1]) (otree G (clamp n0)))=R:=⟨_,rfl⟩
 rw [hR] at htk ⊢
 obtain ⟨RES,hRES⟩:∃r,(if R=true then some (AttrP.mk G (clamp n0:Int) 1) else none)=r:=⟨_,rfl⟩
 rw [hRES]
 have HRES:=Lib.hid hRES
 clear hRES
 have Hid:=Lib.hid hid
 have Htk:=Lib.hid htk
 have HL:=Lib.hid hl4
 have Hnu0:=Lib.hid hnu0
 clear hid htk hR hplain hJ hv hrow hw hl4 hnu0 hn0 h0 h1 hn1
 have X0:Blk ((w.alloc (.cells #[.int .i64 k,.int .u64 (n:Int),.string s,.slice (some ⟨eb,eo,none⟩) 2 c] 25)).alloc (.cells #[.slice none 0 0,.int .i64 0,.int .i64 0] 48)) w.heap.size 25 #[.int .i64 k,.int .u64 (n:Int),.string s,.slice (some ⟨eb,eo,none⟩) 2 c]:=(Blk.new w _ _).alloc _
 have R0:Blk ((w.alloc (.cells #[.int .i64 k,.int .u64 (n:Int),.string s,.slice (some ⟨eb,eo,none⟩) 2 c] 25)).alloc (.cells #[.slice none 0 0,.int .i64 0,.int .i64 0] 48)) (w.heap.size+1) 48 #[.slice none 0 0,.int .i64 0,.int .i64 0]:=Blk.newAt (by simp)
 have k0:Below w.heap.size w ((w.alloc (.cells #[.int .i64 k,.int .u64 (n:Int),.string s,.slice (some ⟨eb,eo,none⟩) 2 c] 25)).alloc (.cells #[.slice none 0 0,.int .i64 0,.int .i64 0] 48)):=blw
 have x0:=X0.cell
 have z00:=cell_keep k0 p00
 have z01:=cell_keep k0 p01
 have z02:=cell_keep k0 p02
 have z03:=cell_keep k0 p03
 have z10:=cell_keep k0 p10
 have z11:=cell_keep k0 p11
 have z12:=cell_keep k0 p12
 have z13:=cell_keep k0 p13
 go_enter Tryd.func66,Tryd.ntmps66
 go_upto_region 4 with (go_at_call 82;(with_reducible refine (Hid.out _ k0).mono ?_);rintro e w1 ⟨A9,c9,rfl,i9,le9,hb1⟩;have PX:=X0.keep hb1;have PR:=R0.keep hb1;have kk:=below_call k0 hb1 k0.size;clear x0 X0 R0 k0 z00 z01 z02 z03 z10 z11 z12 z13)
 obtain ⟨SX,hSX⟩:∃S:World→Prop,S=fun wx=>((wx.cell? ⟨w.heap.size,0,none⟩=some (.int .i64 k)∧wx.cell? ⟨w.heap.size,1,none⟩=some (.int .u64 (n:Int))∧wx.cell? ⟨w.heap.size,2,none⟩=some (.string s)∧wx.cell? ⟨w.heap.size,3,none⟩=some (.slice (some ⟨eb,eo,none⟩) 2 c))∧(wx.cell? ⟨eb,eo,none⟩=some (.int .i64 k0)∧wx.cell? ⟨eb,eo+1,none⟩=some (.int .u64 (n0:Int))∧wx.cell? ⟨eb,eo+2,none⟩=some (.string s0)∧wx.cell? ⟨eb,eo+3,none⟩=some (.slice A0 m0 c0))∧(wx.cell? ⟨eb,eo+4,none⟩=some (.int .i64 k1)∧wx.cell? ⟨eb,eo+5,none⟩=some (.int .u64 (n1:Int))∧wx.cell? ⟨eb,eo+6,none⟩=some (.string s1)∧wx.cell? ⟨eb,eo+7,none⟩=some (.slice A1 m1 c1))):=⟨_,rfl⟩
 have mkS:∀W,Below w.heap.size w W→Blk W w.heap.size 25 #[.int .i64 k,.int .u64 (n:Int),.string s,.slice (some ⟨eb,eo,none⟩) 2 c]→SX W:=fun W k B=>by
  subst hSX
  exact ⟨⟨B.cell 0,B.cell 1,B.cell 2,B.cell 3⟩,⟨cell_keep k p00,cell_keep k p01,cell_keep k p02,cell_keep k p03⟩,⟨cell_keep k p10,cell_keep k p11,cell_keep k p12,cell_keep k p13⟩⟩
 replace PX:=PX.drew
 replace PR:=PR.drew
 replace i9:=i9.keep (Below.refl w1.heap.size w1).drew
 replace kk:=kk.drew
 (refine wp_region_held_drew (S:=SX) (by kernel_rfl) ?_ (fun hHeld=>?_);(· exact mkS _ kk PX))
 revert hHeld PX PR kk i9
 generalize World.drew _=wd
 intro PX PR i9 kk hHeld
 subst hSX
 (refine take_op (i:=0) (v:=?_) rfl (by kernel_rfl) (by kernel_rfl) (by kernel_rfl) (fun _ _ _ h=>h) (by rfl) ?_ hHeld ?_;rotate_left;(· (intro wS hSw;(try dsimp only at hSw);go_simp;first|done|with_reducible rfl));simp only [Act.put,sta_,scz_,scs_]);(refine take_op (i:=1) (v:=?_) rfl (by kernel_rfl) (by kernel_rfl) (by kernel_rfl) (fun _ _ _ h=>h) (by rfl) ?_ hHeld ?_;rotate_left;(· (intro wS hSw;(try dsimp only at hSw);go_simp;first|done|with_reducible rfl));simp only [Act.put,sta_,scz_,scs_]);(refine take_op (i:=2) (v:=?_) rfl (by kernel_rfl) (by kernel_rfl) (by kernel_rfl) (fun _ _ _ h=>h) (by rfl) ?_ hHeld ?_;rotate_left;(· (intro wS hSw;(try dsimp only at hSw);go_simp;first|done|with_reducible rfl));simp only [Act.put,sta_,scz_,scs_]);(refine take_op (i:=3) (v:=?_) rfl (by kernel_rfl) (by kernel_rfl) (by kernel_rfl) (fun _ _ _ h=>h) (by rfl) ?_ hHeld ?_;rotate_left;(· (intro wS hSw;(try dsimp only at hSw);go_simp;first|done|with_reducible rfl));simp only [Act.put,sta_,scz_,scs_]);(refine take_op (i:=4) (v:=?_) rfl (by kernel_rfl) (by kernel_rfl) (by kernel_rfl) (fun _ _ _ h=>h) (by rfl) ?_ hHeld ?_;rotate_left;(· (intro wS hSw;(try dsimp only at hSw);go_simp;first|done|with_reducible rfl));simp only [Act.put,sta_,scz_,scs_]);(refine take_op (i:=7) (v:=?_) rfl (by kernel_rfl) (by kernel_rfl) (by kernel_rfl) (fun _ _ _ h=>h) (by rfl) ?_ hHeld ?_;rotate_left;(· (intro wS hSw;(try dsimp only at hSw);go_simp;first|done|with_reducible rfl));simp only [Act.put,sta_,scz_,scs_]);(refine take_op (i:=8) (v:=?_) rfl (by kernel_rfl) (by kernel_rfl) (by kernel_rfl) (fun _ _ _ h=>h) (by rfl) ?_ hHeld ?_;rotate_left;(· (intro wS hSw;(try dsimp only at hSw);go_simp;first|done|with_reducible rfl));simp only [Act.put,sta_,scz_,scs_])
 (refine call_op (i:=5) rfl (by kernel_rfl) (by rfl) (fun K hK=>?_);go_simp;(go_at_call 84;(with_reducible refine (Hnu0.out _ kk).mono ?_);clear Hnu0;rintro e w2 ⟨rfl,hb2⟩;replace i9:=i9.keep hb2;replace PX:=PX.keep hb2;replace PR:=PR.keep hb2;replace kk:=below_call kk hb2 kk.size);refine hK.out _ _ (mkS _ kk PX) (fun hHeld2=>?_);clear hK K hHeld;have hHeld:=hHeld2;clear hHeld2;(try simp only [Act.put,sta_,scz_,scs_]))
 (refine take_op (i:=6) (v:=?_) rfl (by kernel_rfl) (by kernel_rfl) (by kernel_rfl) (fun _ _ _ h=>h) (by rfl) ?_ hHeld ?_;rotate_left;(· (intro wS hSw;(try dsimp only at hSw);go_simp;first|done|with_reducible rfl));simp only [Act.put,sta_,scz_,scs_])
 (refine call_op (i:=9) rfl (by kernel_rfl) (by rfl) (fun K hK=>?_);go_simp;(go_at_call 83;(with_reducible refine (Htk.out _ kk _ _ i9 HL.out).mono ?_);clear Htk;rintro e w3 ⟨hb3,A8,m8,c8,q8,t8,rfl,yes8,no8⟩;replace i9:=i9.keep hb3;replace PX:=PX.keep hb3;replace PR:=PR.keep hb3;replace kk:=below_call kk hb3 kk.size);refine hK.out _ _ (mkS _ kk PX) (fun hHeld2=>?_);clear hK K hHeld;have hHeld:=hHeld2;clear hHeld2;(try simp only [Act.put,sta_,scz_,scs_]))
 (refine take_op (i:=10) (v:=?_) rfl (by kernel_rfl) (by kernel_rfl) (by kernel_rfl) (fun _ _ _ h=>h) (by rfl) ?_ hHeld ?_;rotate_left;(· (intro wS hSw;(try dsimp only at hSw);go_simp;first|done|with_reducible rfl));simp only [Act.put,sta_,scz_,scs_]);(refine take_op (i:=11) (v:=?_) rfl (by kernel_rfl) (by kernel_rfl) (by kernel_rfl) (fun _ _ _ h=>h) (by rfl) ?_ hHeld ?_;rotate_left;(· (intro wS hSw;(try dsimp only at hSw);go_simp;first|done|with_reducible rfl));simp only [Act.put,sta_,scz_,scs_])
 have PRc:=PR.cell
 have PRf:=PR.frozen
 have PE:Blk (((w3.setCell ⟨w.heap.size+1,0,none⟩ (.slice A8 m8 c8)).setCell ⟨w.heap.size+1,1,none⟩ (.int .i64 q8)).setCell ⟨w.heap.size+1,2,none⟩ (.int .i64 t8)) (w.heap.size+1) 48 #[.slice A8 m8 c8,.int .i64 q8,.int .i64 t8]:=by
  have:=((PR.set_ 0 (.slice A8 m8 c8)).set_ 1 (.int .i64 q8)).set_ 2 (.int .i64 t8)
  simpa using this
 have XE:=((PX.far (p:=⟨w.heap.size+1,0,none⟩) (by simp) (.slice A8 m8 c8)).far (p:=⟨w.heap.size+1,1,none⟩) (by simp) (.int .i64 q8)).far (p:=⟨w.heap.size+1,2,none⟩) (by simp) (.int .i64 t8)
 have kE:=((kk.setCell (p:=⟨w.heap.size+1,0,none⟩) (Nat.le_succ _) (.slice A8 m8 c8)).setCell (p:=⟨w.heap.size+1,1,none⟩) (Nat.le_succ _) (.int .i64 q8)).setCell (p:=⟨w.heap.size+1,2,none⟩) (Nat.le_succ _) (.int .i64 t8)
 (refine call_op (i:=12) rfl (by kernel_rfl) (by rfl) (fun K hK=>?_);go_simp;skip;refine hK.out _ _ (mkS _ kE XE) (fun hHeld2=>?_);clear hK K hHeld;have hHeld:=hHeld2;clear hHeld2;(try simp only [Act.put,sta_,scz_,scs_]))
 (refine take_op (i:=13) (v:=?_) rfl (by kernel_rfl) (by kernel_rfl) (by kernel_rfl) (fun _ _ _ h=>h) (by rfl) ?_ hHeld ?_;rotate_left;(· (intro wS hSw;(try dsimp only at hSw);go_simp;first|done|with_reducible rfl));simp only [Act.put,sta_,scz_,scs_])
 (refine wpAnyH_done (by kernel_rfl) ?_ _)
 have PEc:=PE.cell
 clear hHeld
 go_wp2_with fail
 refine bodyPost_ret (v:=.tuple #[.agg #[.slice A8 m8 c8,.int .i64 q8,.int .i64 t8],.bool R]) (by simp [results,Tryd.results66,go_sem, *] <;> rfl) rfl ?_
 cases R
 ·obtain rfl:=HRES.out
  obtain ⟨rfl,rfl,rfl,rfl,rfl⟩:=no8 rfl
  exact ⟨none,0,rfl,IdsAt.nil,⟨Nat.le_refl _,fun ad h=>by cases h⟩,kE⟩
 ·obtain rfl:=HRES.out
  obtain ⟨rfl,rfl,rfl,rfl,rfl⟩:=yes8 rfl
  have hq:∀ad,A8=some ad→ad.block≠w.heap.size+1:=fun ad e=>by have:=le9.2 ad e;simp at this;omega
  exact ⟨_,_,rfl,((i9.set (p:=⟨w.heap.size+1,0,none⟩) hq _).set (p:=⟨w.heap.size+1,1,none⟩) hq _).set (p:=⟨w.heap.size+1,2,none⟩) hq _,⟨le9.1,fun ad e=>by have:=le9.2 ad e;simp at this;omega⟩,kE⟩
end Go.Proofs.YtlolnakeancenaaDoor
