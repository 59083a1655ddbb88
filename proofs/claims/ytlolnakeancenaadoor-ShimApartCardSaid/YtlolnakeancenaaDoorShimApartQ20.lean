/- The walk of cmd.Take: a command of an item. -/
import Derived.Test.YtlolnakeancenaaDoorShimApartQ13
import Derived.Test.YtlolnakeancenaaDoorShimApartQ14
import Derived.Test.YtlolnakeancenaaDoorShimApartQ0
namespace Go.Proofs.YtlolnakeancenaaDoor
open Go.RowKit
set_option linter.unusedVariables false
set_option linter.unusedSimpArgs false
set_option maxRecDepth 20000
attribute [local go_sem ↓] Go.wp_at_zero Go.wp_at_succ
attribute [local go_sem] World.cell?_alloc_some frozen_alloc_some
attribute [local go_sem] lt2 lt3 lt4 lt5
attribute [local simp] lt2 lt3 lt4 lt5
set_option maxHeartbeats 2000000 in
theorem take1_any (g i n cc:Nat) (A:Option Addr) (ad:Addr) (w:World) (eb eo:Nat) (hi:i<6) (hn:n<2 ^ 64) (h3:w.cell? ⟨g,3,none⟩=some (.slice (some ad) 6 cc)) (ha:ad.add (i*4)=⟨eb,eo,none⟩)
  (h1:w.cell? ⟨eb,eo+1,none⟩=some (.int .u64 (n:Int))):
  Calls Tryd.prog 81 #[.int .i64 (i:Int),.pointer (some ⟨g,0,none⟩)] w (fun e w'=>e= .returned (.int .i64 (clamp n:Int))∧w'=w):=by
 have i0:(0:Int)≤(i:Int):=by omega
 have i1:(i:Int)<6:=by omega
 go_enter Tryd.func81,Tryd.ntmps81
 go_wp2_with fail
 go_ret
 exact ⟨by rw [clamp_int];rfl,rfl⟩
abbrev TkS (w:World) (kk nn:Int) (ss:ByteArray) (ad:Addr) (cc:Nat) (eb eo n:Nat→Nat) (s3 s4:ByteArray) (wx:World):Prop:=Below w.heap.size w wx∧w.heap.size+1<wx.heap.size∧wx.cell? ⟨w.heap.size,0,none⟩=some (.int .i64 kk)∧wx.cell? ⟨w.heap.size,1,none⟩=some (.int .u64 nn)∧wx.cell? ⟨w.heap.size,2,none⟩=some (.string ss)∧wx.cell? ⟨w.heap.size,3,none⟩=some (.slice (some ad) 6 cc)∧wx.cell? ⟨w.heap.size+1,0,none⟩=some (.int .i64 0)∧wx.cell? ⟨w.heap.size+1,1,none⟩=some (.int .i64 0)∧wx.cell? ⟨w.heap.size+1,2,none⟩=some (.int .i64 0)∧wx.cell? ⟨w.heap.size+1,3,none⟩=some (.string ByteArray.empty)∧wx.cell? ⟨w.heap.size+1,4,none⟩=some (.string ByteArray.empty)∧wx.cell? ⟨w.heap.size+1,5,none⟩=some (.int .i64 0)∧wx.frozen? ⟨w.heap.size+1,0,none⟩=false∧wx.frozen? ⟨w.heap.size+1,1,none⟩=false∧wx.frozen? ⟨w.heap.size+1,2,none⟩=false∧wx.frozen? ⟨w.heap.size+1,3,none⟩=false∧wx.frozen? ⟨w.heap.size+1,4,none⟩=false∧wx.frozen? ⟨w.heap.size+1,5,none⟩=false∧wx.cell? ⟨eb 0,eo 0+1,none⟩=some (.int .u64 (n 0:Int))∧wx.cell? ⟨eb 1,eo 1+1,none⟩=some (.int .u64 (n 1:Int))∧wx.cell? ⟨eb 2,eo 2+1,none⟩=some (.int .u64 (n 2:Int))∧wx.cell? ⟨eb 5,eo 5+1,none⟩=some (.int .u64 (n 5:Int))∧wx.cell? ⟨eb 3,eo 3+2,none⟩=some (.string s3)∧wx.cell? ⟨eb 4,eo 4+2,none⟩=some (.string s4)
theorem TkS.drew {w:World} {kk nn:Int} {ss:ByteArray} {ad:Addr} {cc:Nat} {eb eo n:Nat→Nat} {s3 s4:ByteArray} {W:World} (h:TkS w kk nn ss ad cc eb eo n s3 s4 W):TkS w kk nn ss ad cc eb eo n s3 s4 W.drew:=⟨h.1.drew,h.2⟩
theorem TkS.keep {w:World} {kk nn:Int} {ss:ByteArray} {ad:Addr} {cc:Nat} {eb eo n:Nat→Nat} {s3 s4:ByteArray} {W w1:World} (hb:Below W.heap.size W w1) (h:TkS w kk nn ss ad cc eb eo n s3 s4 W):TkS w kk nn ss ad cc eb eo n s3 s4 w1:=by
 obtain ⟨h1,h2,a0,a1,a2,a3,z0,z1,z2,z3,z4,z5,f0,f1,f2,f3,f4,f5,e0,e1,e2,e5,t3,t4⟩:=h
 have hz:=hb.size
 exact ⟨below_call h1 hb (by omega),by omega,cell_keep hb a0,cell_keep hb a1,cell_keep hb a2,cell_keep hb a3,cell_keep hb z0,cell_keep hb z1,cell_keep hb z2,cell_keep hb z3,cell_keep hb z4,cell_keep hb z5,frozen_keep hb z0 f0,frozen_keep hb z1 f1,frozen_keep hb z2 f2,frozen_keep hb z3 f3,frozen_keep hb z4 f4,frozen_keep hb z5 f5,cell_keep hb e0,cell_keep hb e1,cell_keep hb e2,cell_keep hb e5,cell_keep hb t3,cell_keep hb t4⟩
theorem TkS.alloc {w:World} {kk nn:Int} {ss:ByteArray} {ad:Addr} {cc:Nat} {eb eo n:Nat→Nat} {s3 s4:ByteArray} {W:World} (h:TkS w kk nn ss ad cc eb eo n s3 s4 W) (o:Obj):TkS w kk nn ss ad cc eb eo n s3 s4 (W.alloc o):=h.keep (below_one o)
abbrev TgS (G:Nat) (w:World) (kk nn:Int) (ss:ByteArray) (ad:Addr) (cc:Nat) (eb eo n:Nat→Nat) (s3 s4:ByteArray) (wx:World):Prop:=TkS w kk nn ss ad cc eb eo n s3 s4 wx∧G<wx.heap.size∧wx.cell? ⟨G,0,none⟩=some (.int .i64 (clamp (n 0):Int))∧wx.cell? ⟨G,1,none⟩=some (.int .i64 (clamp (n 1):Int))∧wx.cell? ⟨G,2,none⟩=some (.int .i64 (clamp (n 2):Int))∧wx.cell? ⟨G,3,none⟩=some (.string s3)∧wx.cell? ⟨G,4,none⟩=some (.string s4)∧wx.cell? ⟨G,5,none⟩=some (.int .i64 (clamp (n 5):Int))
theorem TgS.keep {G:Nat} {w:World} {kk nn:Int} {ss:ByteArray} {ad:Addr} {cc:Nat} {eb eo n:Nat→Nat} {s3 s4:ByteArray} {W w1:World} (hb:Below W.heap.size W w1) (h:TgS G w kk nn ss ad cc eb eo n s3 s4 W):TgS G w kk nn ss ad cc eb eo n s3 s4 w1:=by
 obtain ⟨h0,hG,g0,g1,g2,g3,g4,g5⟩:=h
 have hz:=hb.size
 exact ⟨h0.keep hb,by omega,cell_keep hb g0,cell_keep hb g1,cell_keep hb g2,cell_keep hb g3,cell_keep hb g4,cell_keep hb g5⟩
theorem TgS.drew {G:Nat} {w:World} {kk nn:Int} {ss:ByteArray} {ad:Addr} {cc:Nat} {eb eo n:Nat→Nat} {s3 s4:ByteArray} {W:World} (h:TgS G w kk nn ss ad cc eb eo n s3 s4 W):TgS G w kk nn ss ad cc eb eo n s3 s4 W.drew:=⟨h.1.drew,h.2⟩
set_option maxHeartbeats 16000000 in
theorem take_six (t:Tree) (kk nn:Int) (ss:ByteArray) (ad:Addr) (cc:Nat) (eb eo n:Nat→Nat) (s3 s4:ByteArray) (w:World) (hT:Tabs w) (hx:Holds w t (.agg #[.int .i64 kk,.int .u64 nn,.string ss,.slice (some ad) 6 cc])) (hs3:s3.size≤maxLen) (hs4:s4.size≤maxLen) (hn:∀i,i<6→n i<2 ^ 64) (ha:∀i,i<6→ad.add (i*4)=⟨eb i,eo i,none⟩)
  (he:∀i,i<6→w.cell? ⟨eb i,eo i+1,none⟩=some (.int .u64 (n i:Int))) (h3:w.cell? ⟨eb 3,eo 3+2,none⟩=some (.string s3)) (h4:w.cell? ⟨eb 4,eo 4+2,none⟩=some (.string s4)):
  Calls Tryd.prog 62 #[(.agg #[.int .i64 kk,.int .u64 nn,.string ss,.slice (some ad) 6 cc])] w (fun e w'=>e= .returned (if (ccheck (clamp (n 0):Int) (clamp (n 1):Int) (clamp (n 2):Int) s3 s4 (clamp (n 5):Int))=0∧tsame t (ctree (clamp (n 0)) (clamp (n 1)) (clamp (n 2)) s3 s4 (clamp (n 5)))=true then .tuple #[.agg #[.int .i64 (clamp (n 0):Int),.int .i64 (clamp (n 1):Int),.int .i64 (clamp (n 2):Int),.string s3,.string s4,.int .i64 (clamp (n 5):Int)],.bool true] else .tuple #[.agg #[.int .i64 0,.int .i64 0,.int .i64 0,.string ByteArray.empty,.string ByteArray.empty,.int .i64 0],.bool false])∧Below w.heap.size w w'):=by
 have hT0:∀W,TkS w kk nn ss ad cc eb eo n s3 s4 W→Calls Tryd.prog 81 #[.int .i64 0,.pointer (some ⟨w.heap.size,0,none⟩)] W (fun e w'=>e= .returned (.int .i64 (clamp (n 0):Int))∧w'=W):=fun W h=>by
  obtain ⟨h1,h2,a0,a1,a2,a3,z0,z1,z2,z3,z4,z5,f0,f1,f2,f3,f4,f5,e0,e1,e2,e5,t3,t4⟩:=h
  have:=take1_any w.heap.size 0 (n 0) cc none ad W (eb 0) (eo 0) (by decide) (hn 0 (by decide)) a3 (ha 0 (by decide)) e0
  simpa using this
 have hT1:∀W,TkS w kk nn ss ad cc eb eo n s3 s4 W→Calls Tryd.prog 81 #[.int .i64 1,.pointer (some ⟨w.heap.size,0,none⟩)] W (fun e w'=>e= .returned (.int .i64 (clamp (n 1):Int))∧w'=W):=fun W h=>by
  obtain ⟨h1,h2,a0,a1,a2,a3,z0,z1,z2,z3,z4,z5,f0,f1,f2,f3,f4,f5,e0,e1,e2,e5,t3,t4⟩:=h
  have:=take1_any w.heap.size 1 (n 1) cc none ad W (eb 1) (eo 1) (by decide) (hn 1 (by decide)) a3 (ha 1 (by decide)) e1
  simpa using this
 have hT2:∀W,TkS w kk nn ss ad cc eb eo n s3 s4 W→Calls Tryd.prog 81 #[.int .i64 2,.pointer (some ⟨w.heap.size,0,none⟩)] W (fun e w'=>e= .returned (.int .i64 (clamp (n 2):Int))∧w'=W):=fun W h=>by
  obtain ⟨h1,h2,a0,a1,a2,a3,z0,z1,z2,z3,z4,z5,f0,f1,f2,f3,f4,f5,e0,e1,e2,e5,t3,t4⟩:=h
  have:=take1_any w.heap.size 2 (n 2) cc none ad W (eb 2) (eo 2) (by decide) (hn 2 (by decide)) a3 (ha 2 (by decide)) e2
  simpa using this
 have hT5:∀W,TkS w kk nn ss ad cc eb eo n s3 s4 W→Calls Tryd.prog 81 #[.int .i64 5,.pointer (some ⟨w.heap.size,0,none⟩)] W (fun e w'=>e= .returned (.int .i64 (clamp (n 5):Int))∧w'=W):=fun W h=>by
  obtain ⟨h1,h2,a0,a1,a2,a3,z0,z1,z2,z3,z4,z5,f0,f1,f2,f3,f4,f5,e0,e1,e2,e5,t3,t4⟩:=h
  have:=take1_any w.heap.size 5 (n 5) cc none ad W (eb 5) (eo 5) (by decide) (hn 5 (by decide)) a3 (ha 5 (by decide)) e5
  simpa using this
 have ha3:ad.add 12=⟨eb 3,eo 3,none⟩:=ha 3 (by decide)
 have ha4:ad.add 16=⟨eb 4,eo 4,none⟩:=ha 4 (by decide)
 have g0:=he 0 (by decide)
 have g1:=he 1 (by decide)
 have g2:=he 2 (by decide)
 have g5:=he 5 (by decide)
 have hpre:TkS w kk nn ss ad cc eb eo n s3 s4 ((w.alloc (.cells #[.int .i64 kk,.int .u64 nn,.string ss,.slice (some ad) 6 cc] 25)).alloc (.cells #[.int .i64 0,.int .i64 0,.int .i64 0,.string ⟨#[]⟩,.string ⟨#[]⟩,.int .i64 0] 45)):=
  ⟨blw,by simp,by simp [go_sem],by simp [go_sem],by simp [go_sem],by simp [go_sem],(by simp [go_sem] <;> rfl),(by simp [go_sem] <;> rfl),(by simp [go_sem] <;> rfl),(by simp [go_sem] <;> rfl),(by simp [go_sem] <;> rfl),(by simp [go_sem] <;> rfl),by simp [go_sem],by simp [go_sem],by simp [go_sem],by simp [go_sem],by simp [go_sem],by simp [go_sem],cell_alloc (cell_alloc g0),cell_alloc (cell_alloc g1),cell_alloc (cell_alloc g2),cell_alloc (cell_alloc g5),cell_alloc (cell_alloc h3),cell_alloc (cell_alloc h4)⟩
 have hck:∀W,Below w.heap.size w W→Calls Tryd.prog 69 #[.agg #[.int .i64 (clamp (n 0):Int),.int .i64 (clamp (n 1):Int),.int .i64 (clamp (n 2):Int),.string s3,.string s4,.int .i64 (clamp (n 5):Int)]] W (Gives W (.int .i64 ((ccheck (clamp (n 0):Int) (clamp (n 1):Int) (clamp (n 2):Int) s3 s4 (clamp (n 5):Int)):Int))):=fun W h=>check6_any _ _ _ s3 s4 _ W hs3 hs4 (hT.keep h)
 have hit:=fun W=>cmditem_any (clamp (n 0)) (clamp (n 1)) (clamp (n 2)) s3 s4 (clamp (n 5)) (clamp_lt _) (clamp_lt _) (clamp_lt _) hs3 hs4 (clamp_lt _) W
 have hsm:∀(W:World) (A9:Option Addr) (c9:Nat),Below w.heap.size w W→Holds W (ctree (clamp (n 0)) (clamp (n 1)) (clamp (n 2)) s3 s4 (clamp (n 5))) (.agg #[.int .i64 2,.int .u64 ((0:Nat):Int),.string ByteArray.empty,.slice A9 6 c9])→Calls Tryd.prog 15 #[(.agg #[.int .i64 kk,.int .u64 nn,.string ss,.slice (some ad) 6 cc]),.agg #[.int .i64 2,.int .u64 0,.string ByteArray.empty,.slice A9 6 c9]] W (Gives W (.bool (tsame t (ctree (clamp (n 0)) (clamp (n 1)) (clamp (n 2)) s3 s4 (clamp (n 5)))))):=fun W A9 c9 h hy=>codecsame_any t _ _ _ W (hx.keep h) hy
 obtain ⟨R,hR⟩:∃R:Value,R=if (ccheck (clamp (n 0):Int) (clamp (n 1):Int) (clamp (n 2):Int) s3 s4 (clamp (n 5):Int))=0∧tsame t (ctree (clamp (n 0)) (clamp (n 1)) (clamp (n 2)) s3 s4 (clamp (n 5)))=true then .tuple #[.agg #[.int .i64 (clamp (n 0):Int),.int .i64 (clamp (n 1):Int),.int .i64 (clamp (n 2):Int),.string s3,.string s4,.int .i64 (clamp (n 5):Int)],.bool true] else .tuple #[.agg #[.int .i64 0,.int .i64 0,.int .i64 0,.string ByteArray.empty,.string ByteArray.empty,.int .i64 0],.bool false]:=⟨_,rfl⟩
 rw [←hR]
 generalize (ccheck (clamp (n 0):Int) (clamp (n 1):Int) (clamp (n 2):Int) s3 s4 (clamp (n 5):Int))=E at*
 generalize hsb:tsame t (ctree (clamp (n 0)) (clamp (n 1)) (clamp (n 2)) s3 s4 (clamp (n 5)))=sb at*
 have HR:=Lib.hid hR
 clear ha he hn g0 g1 g2 g5 h3 h4 hR hT hx hsb
 go_enter Tryd.func62,Tryd.ntmps62
 go_upto_region 4 with fail
 go_cut [5] (fun s5 wx=>∃G,s5= .pointer (some ⟨G,0,none⟩)∧TgS G w kk nn ss ad cc eb eo n s3 s4 wx)
 case first=>
  go_region_held3 (fun wx=>Below w.heap.size w wx∧w.heap.size+1<wx.heap.size∧wx.cell? ⟨w.heap.size,0,none⟩=some (.int .i64 kk)∧wx.cell? ⟨w.heap.size,1,none⟩=some (.int .u64 nn)∧wx.cell? ⟨w.heap.size,2,none⟩=some (.string ss)∧wx.cell? ⟨w.heap.size,3,none⟩=some (.slice (some ad) 6 cc)∧wx.cell? ⟨w.heap.size+1,0,none⟩=some (.int .i64 0)∧wx.cell? ⟨w.heap.size+1,1,none⟩=some (.int .i64 0)∧wx.cell? ⟨w.heap.size+1,2,none⟩=some (.int .i64 0)∧wx.cell? ⟨w.heap.size+1,3,none⟩=some (.string ByteArray.empty)∧wx.cell? ⟨w.heap.size+1,4,none⟩=some (.string ByteArray.empty)∧wx.cell? ⟨w.heap.size+1,5,none⟩=some (.int .i64 0)∧wx.frozen? ⟨w.heap.size+1,0,none⟩=false∧wx.frozen? ⟨w.heap.size+1,1,none⟩=false∧wx.frozen? ⟨w.heap.size+1,2,none⟩=false∧wx.frozen? ⟨w.heap.size+1,3,none⟩=false∧wx.frozen? ⟨w.heap.size+1,4,none⟩=false∧wx.frozen? ⟨w.heap.size+1,5,none⟩=false∧wx.cell? ⟨eb 0,eo 0+1,none⟩=some (.int .u64 (n 0:Int))∧wx.cell? ⟨eb 1,eo 1+1,none⟩=some (.int .u64 (n 1:Int))∧wx.cell? ⟨eb 2,eo 2+1,none⟩=some (.int .u64 (n 2:Int))∧wx.cell? ⟨eb 5,eo 5+1,none⟩=some (.int .u64 (n 5:Int))∧wx.cell? ⟨eb 3,eo 3+2,none⟩=some (.string s3)∧wx.cell? ⟨eb 4,eo 4+2,none⟩=some (.string s4))
   ((repeat' first|with_reducible assumption|with_reducible refine TkS.drew ?_|with_reducible refine TkS.alloc ?_ _|with_reducible refine TkS.keep (by with_reducible assumption) ?_))
   (first|(go_at_call 81;(with_reducible refine (hT0 _ (by with_reducible assumption)).mono ?_);rintro e w1 ⟨rfl,rfl⟩)|(go_at_call 81;(with_reducible refine (hT1 _ (by with_reducible assumption)).mono ?_);rintro e w1 ⟨rfl,rfl⟩)|(go_at_call 81;(with_reducible refine (hT2 _ (by with_reducible assumption)).mono ?_);rintro e w1 ⟨rfl,rfl⟩)|(go_at_call 81;(with_reducible refine (hT5 _ (by with_reducible assumption)).mono ?_);rintro e w1 ⟨rfl,rfl⟩))
  all_goals
   go_wp2_with fail
   go_meet
   exact ⟨w.heap.size+1+1,rfl,(hpre.alloc _).drew,by simp,by simp [go_sem],by simp [go_sem],by simp [go_sem],by simp [go_sem],by simp [go_sem],by simp [go_sem]⟩
 case rest=>
  obtain ⟨G,rfl,T⟩:=hcut
  by_cases hE:E=0
  ·subst hE
   cases sb
   ·go_wp2_with fail
    first|(go_region_law (first|(go_simp;go_at_call 69;(with_reducible refine (hck _ ?hbel).mono ?_);(case hbel=>first|exact T.1.1|exact T.1.1.drew);rintro e w1 ⟨rfl,hb1⟩;have hz1:=hb1.size;have T:=TgS.keep hb1 (by first|exact T|exact T.drew);skip)|(go_simp;go_at_call 57;(with_reducible refine (hit _).mono ?_);rintro e w1 ⟨A9,c9,rfl,hrow,hb1⟩;have hz1:=hb1.size;have T:=TgS.keep hb1 (by first|exact T|exact T.drew);have hy9:=hrow.items.2.node (k:=2) (n:=0) (s:=ByteArray.empty) (by decide) (by decide) (by decide))|(go_simp;go_at_call 15;(with_reducible refine (hsm _ _ _ ?hbel hy9).mono ?_);(case hbel=>first|exact T.1.1|exact T.1.1.drew);rintro e w1 ⟨rfl,hb1⟩;have hz1:=hb1.size;have T:=TgS.keep hb1 (by first|exact T|exact T.drew);skip)))|fail
    all_goals
      obtain ⟨T1,hG,g0,g1,g2,g3,g4,g5⟩:=T
      obtain ⟨h1,h2,a0,a1,a2,a3,z0,z1,z2,z3,z4,z5,f0,f1,f2,f3,f4,f5,e0,e1,e2,e5,t3,t4⟩:=T1
      clear a0 a1 a2 a3 e0 e1 e2 e5 t3 t4
      go_wp2_with fail
      refine bodyPost_ret (v:=.tuple #[.agg #[.int .i64 0,.int .i64 0,.int .i64 0,.string ByteArray.empty,.string ByteArray.empty,.int .i64 0],.bool false]) (by simp [results,Tryd.results62,go_sem, *] <;> rfl) rfl ?_
      exact ⟨by rw [HR.out];simp [*],blw⟩
   ·go_wp2_with fail
    first|(go_region_law (first|(go_simp;go_at_call 69;(with_reducible refine (hck _ ?hbel).mono ?_);(case hbel=>first|exact T.1.1|exact T.1.1.drew);rintro e w1 ⟨rfl,hb1⟩;have hz1:=hb1.size;have T:=TgS.keep hb1 (by first|exact T|exact T.drew);skip)|(go_simp;go_at_call 57;(with_reducible refine (hit _).mono ?_);rintro e w1 ⟨A9,c9,rfl,hrow,hb1⟩;have hz1:=hb1.size;have T:=TgS.keep hb1 (by first|exact T|exact T.drew);have hy9:=hrow.items.2.node (k:=2) (n:=0) (s:=ByteArray.empty) (by decide) (by decide) (by decide))|(go_simp;go_at_call 15;(with_reducible refine (hsm _ _ _ ?hbel hy9).mono ?_);(case hbel=>first|exact T.1.1|exact T.1.1.drew);rintro e w1 ⟨rfl,hb1⟩;have hz1:=hb1.size;have T:=TgS.keep hb1 (by first|exact T|exact T.drew);skip)))|fail
    all_goals
      obtain ⟨T1,hG,g0,g1,g2,g3,g4,g5⟩:=T
      obtain ⟨h1,h2,a0,a1,a2,a3,z0,z1,z2,z3,z4,z5,f0,f1,f2,f3,f4,f5,e0,e1,e2,e5,t3,t4⟩:=T1
      clear a0 a1 a2 a3 e0 e1 e2 e5 t3 t4
      go_wp2_with fail
      refine bodyPost_ret (v:=.tuple #[.agg #[.int .i64 (clamp (n 0):Int),.int .i64 (clamp (n 1):Int),.int .i64 (clamp (n 2):Int),.string s3,.string s4,.int .i64 (clamp (n 5):Int)],.bool true]) (by simp [results,Tryd.results62,go_sem, *] <;> rfl) rfl ?_
      exact ⟨by rw [HR.out];simp [*],blw⟩
  ·have hE':((E:Int) != 0)=true:=by simp;omega
   go_wp2_with fail
   first|(go_region_law (first|(go_simp;go_at_call 69;(with_reducible refine (hck _ ?hbel).mono ?_);(case hbel=>first|exact T.1.1|exact T.1.1.drew);rintro e w1 ⟨rfl,hb1⟩;have hz1:=hb1.size;have T:=TgS.keep hb1 (by first|exact T|exact T.drew);skip)|(go_simp;go_at_call 57;(with_reducible refine (hit _).mono ?_);rintro e w1 ⟨A9,c9,rfl,hrow,hb1⟩;have hz1:=hb1.size;have T:=TgS.keep hb1 (by first|exact T|exact T.drew);have hy9:=hrow.items.2.node (k:=2) (n:=0) (s:=ByteArray.empty) (by decide) (by decide) (by decide))|(go_simp;go_at_call 15;(with_reducible refine (hsm _ _ _ ?hbel hy9).mono ?_);(case hbel=>first|exact T.1.1|exact T.1.1.drew);rintro e w1 ⟨rfl,hb1⟩;have hz1:=hb1.size;have T:=TgS.keep hb1 (by first|exact T|exact T.drew);skip)))|fail
   all_goals
     obtain ⟨T1,hG,g0,g1,g2,g3,g4,g5⟩:=T
     obtain ⟨h1,h2,a0,a1,a2,a3,z0,z1,z2,z3,z4,z5,f0,f1,f2,f3,f4,f5,e0,e1,e2,e5,t3,t4⟩:=T1
     clear a0 a1 a2 a3 e0 e1 e2 e5 t3 t4
     go_wp2_with fail
     refine bodyPost_ret (v:=.tuple #[.agg #[.int .i64 0,.int .i64 0,.int .i64 0,.string ByteArray.empty,.string ByteArray.empty,.int .i64 0],.bool false]) (by simp [results,Tryd.results62,go_sem, *] <;> rfl) rfl ?_
     exact ⟨by rw [HR.out];simp [*],blw⟩
end Go.Proofs.YtlolnakeancenaaDoor
