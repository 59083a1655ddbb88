/- The walk of cmd.Item: a command as an item. -/
import Derived.Test.YtlolnakeancenaaDoorShimApartQ8
import Derived.Test.YtlolnakeancenaaDoorShimApartQ11
namespace Go.Proofs.YtlolnakeancenaaDoor
open Go.RowKit
set_option linter.unusedVariables false
set_option linter.unusedSimpArgs false
set_option maxRecDepth 20000
attribute [local go_sem ↓] Go.wp_at_zero Go.wp_at_succ
attribute [local go_sem] World.cell?_alloc_some frozen_alloc_some
attribute [local go_sem] lt2 lt3 lt4 lt5
attribute [local simp] lt2 lt3 lt4 lt5
theorem some_keep {W w1:World} {a:Addr} (hb:Below W.heap.size W w1) (h:(W.cell? a).isSome=true):(w1.cell? a).isSome=true:=by
 obtain ⟨v,hv⟩:=Option.isSome_iff_exists.1 h
 rw [cell_keep hb hv];rfl
theorem frozen_some_keep {W w1:World} {a:Addr} {b:Bool} (hb:Below W.heap.size W w1) (h:(W.cell? a).isSome=true) (hf:W.frozen? a=b):w1.frozen? a=b:=by
 obtain ⟨v,hv⟩:=Option.isSome_iff_exists.1 h
 exact frozen_keep hb hv hf
theorem u64_nat {v:Nat} (h:v<2 ^ 63):IntKind.u64.wrap (v:Int)=(v:Int):=by
 have e:IntKind.u64.wrap (v:Int)=(v:Int) % 18446744073709551616:=by simp [IntKind.wrap,IntKind.bits,IntKind.signed]
 rw [e];omega
set_option maxHeartbeats 2000000 in
theorem item1_any (v:Nat) (hv:v<2 ^ 63) (w:World):Calls Tryd.prog 79 #[.int .i64 (v:Int)] w (Gives w (numV v)):=by
 have hw:=u64_nat hv
 have hn:=fun W=>num_any v W
 go_enter Tryd.func79,Tryd.ntmps79
 go_wp2_with fail
 refine (hn _).mono ?_
 rintro e w1 ⟨rfl,hb1⟩
 have hz1:=hb1.size
 simp at hz1
 obtain ⟨q0,r0⟩:=new_keep hb1 0 rfl
 obtain ⟨q1,r1⟩:=new_keep hb1 1 rfl
 obtain ⟨q2,r2⟩:=new_keep hb1 2 rfl
 obtain ⟨q3,r3⟩:=new_keep hb1 3 rfl
 have hbw:Below w.heap.size w w1:=blw
 unfold numV
 go_wp2_with fail
 refine bodyPost_ret (v:=numV v) (by simp [results,Tryd.results79,go_sem, *,numV] <;> rfl) rfl ?_
 exact ⟨rfl,blw⟩
/-- A leaf holds in any world. -/
theorem Holds.leaf {w w':World} {k:Int} {n:Nat} {s:ByteArray} {v:Value} (h:Holds w (.mk k n s []) v):Holds w' (.mk k n s []) v:=by
 cases h with
 |mk k n s l A m c vs hk hn hs hm hmc hc hcell hsub=>
  have hm0:m=0:=hm
  exact .mk k n s [] A m c vs hk hn hs hm hmc hc (fun i hi=>absurd hi (by omega)) (fun i t hi=>by simp at hi)
/-- A command as a tree. -/
def ctree (k c q:Nat) (y x:ByteArray) (r:Nat):Tree:=.mk 2 0 ByteArray.empty [.mk 0 k ByteArray.empty [],.mk 0 c ByteArray.empty [],.mk 0 q ByteArray.empty [],.mk 1 0 y [],.mk 1 0 x [],.mk 0 r ByteArray.empty []]
theorem RowI.set_leaf {w:World} {base:Nat} {v:Value} {k c q r:Nat} {y x:ByteArray} {p:Addr} (h:RowI w base v 6 [.mk 0 k ByteArray.empty [],.mk 0 c ByteArray.empty [],.mk 0 q ByteArray.empty [],.mk 1 0 y [],.mk 1 0 x [],.mk 0 r ByteArray.empty []]) (hp:p.block<base) (u:Value):RowI (w.setCell p u) base v 6 [.mk 0 k ByteArray.empty [],.mk 0 c ByteArray.empty [],.mk 0 q ByteArray.empty [],.mk 1 0 y [],.mk 1 0 x [],.mk 0 r ByteArray.empty []]:=by
 obtain ⟨h1,vs,h2,h3⟩:=h
 refine ⟨h1,vs,ownsRow_setCell_below h2 hp u,fun i t hi=>?_⟩
 match i with
 |0=>simp at hi;subst hi;exact (h3 0 _ rfl).leaf
 |1=>simp at hi;subst hi;exact (h3 1 _ rfl).leaf
 |2=>simp at hi;subst hi;exact (h3 2 _ rfl).leaf
 |3=>simp at hi;subst hi;exact (h3 3 _ rfl).leaf
 |4=>simp at hi;subst hi;exact (h3 4 _ rfl).leaf
 |5=>simp at hi;subst hi;exact (h3 5 _ rfl).leaf
 |i+6=>simp at hi
theorem codeclist_row (ad:Addr) (m c:Nat) (l:List Tree) (w:World) (h:Items w (some ad) m c l) (hm:m≤1000000000):
  Calls Tryd.prog 55 #[.slice (some ad) m c] w (fun e w'=>∃A' c',e= .returned (.agg #[.int .i64 2,.int .u64 0,.string ByteArray.empty,.slice A' m c'])∧RowI w' (w.heap.size+1) (.slice A' m c') m l∧Below w.heap.size w w'):=by
 have hcl:∀W,Below w.heap.size w W→Calls Tryd.prog 78 #[.slice (some ad) m c] W (fun e w'=>∃A' c',e= .returned (.slice A' m c')∧Cloned w w' W.heap.size (.slice A' m c') m l∧Below W.heap.size W w'):=fun W hb=>clone_any ad m c l w W hb h hm
 clear h
 go_enter Tryd.func55,Tryd.ntmps55
 go_wp2_with fail
 refine (hcl _ (blw)).mono ?_
 rintro e w1 ⟨A',c',rfl,hit,hb1⟩
 have hz1:=hb1.size
 simp at hz1
 obtain ⟨q0,r0⟩:=new_keep hb1 0 rfl
 obtain ⟨q1,r1⟩:=new_keep hb1 1 rfl
 obtain ⟨q2,r2⟩:=new_keep hb1 2 rfl
 obtain ⟨q3,r3⟩:=new_keep hb1 3 rfl
 simp only [World.size_alloc] at hit
 have Hit:=Lib.hid hit
 clear hit
 go_wp2_with fail
 have hbw:Below w.heap.size w w1:=blw
 refine bodyPost_ret (v:=.agg #[.int .i64 2,.int .u64 0,.string ByteArray.empty,.slice A' m c']) (by simp [results,Tryd.results55,go_sem, *] <;> rfl) rfl ?_
 have h4:=(((Hit.out.set (p:=⟨w.heap.size,0,none⟩) (by simp) (.int .i64 2)).set (p:=⟨w.heap.size,1,none⟩) (by simp) (.int .u64 0)).set (p:=⟨w.heap.size,2,none⟩) (by simp) (.string ByteArray.empty)).set (p:=⟨w.heap.size,3,none⟩) (by simp) (.slice A' m c')
 have hb4:Below w.heap.size w ((((w1.setCell ⟨w.heap.size,0,none⟩ (.int .i64 2)).setCell ⟨w.heap.size,1,none⟩ (.int .u64 0)).setCell ⟨w.heap.size,2,none⟩ (.string ByteArray.empty)).setCell ⟨w.heap.size,3,none⟩ (.slice A' m c')):=blw
 exact ⟨_,_,rfl,h4.row hb4,hb4⟩
theorem six_items (W:World) (k c q:Nat) (y x:ByteArray) (r:Nat) (hk:k<2 ^ 63) (hc:c<2 ^ 63) (hq:q<2 ^ 63) (hy:y.size≤maxLen) (hx:x.size≤maxLen) (hr:r<2 ^ 63):
  Items (W.alloc (.cells #[.int .i64 0,.int .u64 (k:Int),.string ByteArray.empty,.slice none 0 0,.int .i64 0,.int .u64 (c:Int),.string ByteArray.empty,.slice none 0 0,.int .i64 0,.int .u64 (q:Int),.string ByteArray.empty,.slice none 0 0,.int .i64 1,.int .u64 0,.string y,.slice none 0 0,.int .i64 1,.int .u64 0,.string x,.slice none 0 0,.int .i64 0,.int .u64 (r:Int),.string ByteArray.empty,.slice none 0 0] 25)) (some ⟨W.heap.size,0,none⟩) 6 6 [.mk 0 k ByteArray.empty [],.mk 0 c ByteArray.empty [],.mk 0 q ByteArray.empty [],.mk 1 0 y [],.mk 1 0 x [],.mk 0 r ByteArray.empty []]:=
 items_block (vs:=fun i=>match i with|0=>numV k|1=>numV c|2=>numV q|3=>textV y|4=>textV x|_=>numV r) (fr:=(0,0)) (heap_alloc_new _ _) rfl (by decide) (fun i t hi=>by
  match i with
  |0=>simp at hi;subst hi;exact holds_num _ (by omega)
  |1=>simp at hi;subst hi;exact holds_num _ (by omega)
  |2=>simp at hi;subst hi;exact holds_num _ (by omega)
  |3=>simp at hi;subst hi;exact holds_text _ hy
  |4=>simp at hi;subst hi;exact holds_text _ hx
  |5=>simp at hi;subst hi;exact holds_num _ (by omega)
  |i+6=>simp at hi)
abbrev ItS (w:World) (k c q:Nat) (y x:ByteArray) (r:Nat) (wx:World):Prop:=Below w.heap.size w wx∧w.heap.size+1<wx.heap.size∧wx.cell? ⟨w.heap.size,0,none⟩=some (.int .i64 (k:Int))∧wx.cell? ⟨w.heap.size,1,none⟩=some (.int .i64 (c:Int))∧wx.cell? ⟨w.heap.size,2,none⟩=some (.int .i64 (q:Int))∧wx.cell? ⟨w.heap.size,3,none⟩=some (.string y)∧wx.cell? ⟨w.heap.size,4,none⟩=some (.string x)∧wx.cell? ⟨w.heap.size,5,none⟩=some (.int .i64 (r:Int))∧(wx.cell? ⟨w.heap.size+1,0,none⟩).isSome=true∧(wx.cell? ⟨w.heap.size+1,1,none⟩).isSome=true∧(wx.cell? ⟨w.heap.size+1,2,none⟩).isSome=true∧(wx.cell? ⟨w.heap.size+1,3,none⟩).isSome=true∧wx.frozen? ⟨w.heap.size+1,0,none⟩=false∧wx.frozen? ⟨w.heap.size+1,1,none⟩=false∧wx.frozen? ⟨w.heap.size+1,2,none⟩=false∧wx.frozen? ⟨w.heap.size+1,3,none⟩=false
theorem ItS.drew {w W:World} {k c q:Nat} {y x:ByteArray} {r:Nat} (h:ItS w k c q y x r W):ItS w k c q y x r W.drew:=⟨h.1.drew,h.2⟩
theorem ItS.keep {w W w1:World} {k c q:Nat} {y x:ByteArray} {r:Nat} (hb:Below W.heap.size W w1) (h:ItS w k c q y x r W):ItS w k c q y x r w1:=by
 obtain ⟨h1,h2,a0,a1,a2,a3,a4,a5,s0,s1,s2,s3,f0,f1,f2,f3⟩:=h
 have hz:=hb.size
 exact ⟨below_call h1 hb (by omega),by omega,cell_keep hb a0,cell_keep hb a1,cell_keep hb a2,cell_keep hb a3,cell_keep hb a4,cell_keep hb a5,some_keep hb s0,some_keep hb s1,some_keep hb s2,some_keep hb s3,frozen_some_keep hb s0 f0,frozen_some_keep hb s1 f1,frozen_some_keep hb s2 f2,frozen_some_keep hb s3 f3⟩
theorem ItS.keep2 {w W w1:World} {k c q:Nat} {y x:ByteArray} {r:Nat} (hb:Below W.heap.size W w1) (h:ItS w k c q y x r W):w.heap.size+1<W.heap.size∧ItS w k c q y x r w1:=⟨h.2.1,h.keep hb⟩
theorem RowI.lower {w:World} {base base':Nat} {v:Value} {m:Nat} {l:List Tree} (h:RowI w base v m l) (hb:base'≤base):RowI w base' v m l:=by
 obtain ⟨h1,vs,h2,h3⟩:=h
 exact ⟨h1,vs,⟨h2.1,h2.2.imp id fun ⟨g,cap,cur,hv,hg,hr⟩=>⟨g,cap,cur,hv,by omega,hr⟩⟩,h3⟩
theorem ItS.alloc {w W:World} {k c q:Nat} {y x:ByteArray} {r:Nat} (h:ItS w k c q y x r W) (o:Obj):ItS w k c q y x r (W.alloc o):=h.keep (below_one o)
theorem ItS.some4 {w W:World} {k c q:Nat} {y x:ByteArray} {r:Nat} (h:ItS w k c q y x r W):∃u0 u1 u2 u3,W.cell? ⟨w.heap.size+1,0,none⟩=some u0∧W.cell? ⟨w.heap.size+1,1,none⟩=some u1∧W.cell? ⟨w.heap.size+1,2,none⟩=some u2∧W.cell? ⟨w.heap.size+1,3,none⟩=some u3∧W.frozen? ⟨w.heap.size+1,0,none⟩=false∧W.frozen? ⟨w.heap.size+1,1,none⟩=false∧W.frozen? ⟨w.heap.size+1,2,none⟩=false∧W.frozen? ⟨w.heap.size+1,3,none⟩=false:=by
 obtain ⟨h1,h2,a0,a1,a2,a3,a4,a5,s0,s1,s2,s3,f0,f1,f2,f3⟩:=h
 obtain ⟨u0,e0⟩:=Option.isSome_iff_exists.1 s0
 obtain ⟨u1,e1⟩:=Option.isSome_iff_exists.1 s1
 obtain ⟨u2,e2⟩:=Option.isSome_iff_exists.1 s2
 obtain ⟨u3,e3⟩:=Option.isSome_iff_exists.1 s3
 exact ⟨u0,u1,u2,u3,e0,e1,e2,e3,f0,f1,f2,f3⟩
theorem ItS.set4 {w W:World} {k c q:Nat} {y x:ByteArray} {r:Nat} (h:ItS w k c q y x r W) (v0 v1 v2 v3:Value):ItS w k c q y x r ((((W.setCell ⟨w.heap.size+1,0,none⟩ v0).setCell ⟨w.heap.size+1,1,none⟩ v1).setCell ⟨w.heap.size+1,2,none⟩ v2).setCell ⟨w.heap.size+1,3,none⟩ v3):=by
 obtain ⟨h1,h2,a0,a1,a2,a3,a4,a5,s0,s1,s2,s3,f0,f1,f2,f3⟩:=h
 have hb:Below w.heap.size w ((((W.setCell ⟨w.heap.size+1,0,none⟩ v0).setCell ⟨w.heap.size+1,1,none⟩ v1).setCell ⟨w.heap.size+1,2,none⟩ v2).setCell ⟨w.heap.size+1,3,none⟩ v3):=blw
 refine ⟨hb,by simp;omega,?_,?_,?_,?_,?_,?_,?_,?_,?_,?_,?_,?_,?_,?_⟩
 ·exact cell_far (cell_far (cell_far (cell_far a0 (by simp)) (by simp)) (by simp)) (by simp)
 ·exact cell_far (cell_far (cell_far (cell_far a1 (by simp)) (by simp)) (by simp)) (by simp)
 ·exact cell_far (cell_far (cell_far (cell_far a2 (by simp)) (by simp)) (by simp)) (by simp)
 ·exact cell_far (cell_far (cell_far (cell_far a3 (by simp)) (by simp)) (by simp)) (by simp)
 ·exact cell_far (cell_far (cell_far (cell_far a4 (by simp)) (by simp)) (by simp)) (by simp)
 ·exact cell_far (cell_far (cell_far (cell_far a5 (by simp)) (by simp)) (by simp)) (by simp)
 all_goals (obtain ⟨u0,e0⟩:=Option.isSome_iff_exists.1 s0;obtain ⟨u1,e1⟩:=Option.isSome_iff_exists.1 s1;obtain ⟨u2,e2⟩:=Option.isSome_iff_exists.1 s2;obtain ⟨u3,e3⟩:=Option.isSome_iff_exists.1 s3;simp [go_sem, *])
set_option maxHeartbeats 16000000 in
theorem cmditem_any (k c q:Nat) (y x:ByteArray) (r:Nat) (hk:k<2 ^ 63) (hc:c<2 ^ 63) (hq:q<2 ^ 63) (hy:y.size≤maxLen) (hx:x.size≤maxLen) (hr:r<2 ^ 63) (w:World):
  Calls Tryd.prog 57 #[.agg #[.int .i64 (k:Int),.int .i64 (c:Int),.int .i64 (q:Int),.string y,.string x,.int .i64 (r:Int)]] w (fun e w'=>∃A' c',e= .returned (.agg #[.int .i64 2,.int .u64 0,.string ByteArray.empty,.slice A' 6 c'])∧RowI w' (w.heap.size+2) (.slice A' 6 c') 6 [.mk 0 k ByteArray.empty [],.mk 0 c ByteArray.empty [],.mk 0 q ByteArray.empty [],.mk 1 0 y [],.mk 1 0 x [],.mk 0 r ByteArray.empty []]∧Below w.heap.size w w'):=by
 have hik:=fun W=>item1_any k hk W
 have hic:=fun W=>item1_any c hc W
 have hiq:=fun W=>item1_any q hq W
 have hir:=fun W=>item1_any r hr W
 have hty:=fun W=>codectext_any y W
 have htx:=fun W=>codectext_any x W
 have hli:∀W:World,Calls Tryd.prog 55 #[.slice (some ⟨W.heap.size,0,none⟩) 6 6] (W.alloc (.cells #[.int .i64 0,.int .u64 (k:Int),.string ByteArray.empty,.slice none 0 0,.int .i64 0,.int .u64 (c:Int),.string ByteArray.empty,.slice none 0 0,.int .i64 0,.int .u64 (q:Int),.string ByteArray.empty,.slice none 0 0,.int .i64 1,.int .u64 0,.string y,.slice none 0 0,.int .i64 1,.int .u64 0,.string x,.slice none 0 0,.int .i64 0,.int .u64 (r:Int),.string ByteArray.empty,.slice none 0 0] 25)) (fun e w'=>∃A' c',e= .returned (.agg #[.int .i64 2,.int .u64 0,.string ByteArray.empty,.slice A' 6 c'])∧RowI w' ((W.alloc (.cells #[.int .i64 0,.int .u64 (k:Int),.string ByteArray.empty,.slice none 0 0,.int .i64 0,.int .u64 (c:Int),.string ByteArray.empty,.slice none 0 0,.int .i64 0,.int .u64 (q:Int),.string ByteArray.empty,.slice none 0 0,.int .i64 1,.int .u64 0,.string y,.slice none 0 0,.int .i64 1,.int .u64 0,.string x,.slice none 0 0,.int .i64 0,.int .u64 (r:Int),.string ByteArray.empty,.slice none 0 0] 25)).heap.size+1) (.slice A' 6 c') 6 [.mk 0 k ByteArray.empty [],.mk 0 c ByteArray.empty [],.mk 0 q ByteArray.empty [],.mk 1 0 y [],.mk 1 0 x [],.mk 0 r ByteArray.empty []]∧Below (W.alloc (.cells #[.int .i64 0,.int .u64 (k:Int),.string ByteArray.empty,.slice none 0 0,.int .i64 0,.int .u64 (c:Int),.string ByteArray.empty,.slice none 0 0,.int .i64 0,.int .u64 (q:Int),.string ByteArray.empty,.slice none 0 0,.int .i64 1,.int .u64 0,.string y,.slice none 0 0,.int .i64 1,.int .u64 0,.string x,.slice none 0 0,.int .i64 0,.int .u64 (r:Int),.string ByteArray.empty,.slice none 0 0] 25)).heap.size (W.alloc (.cells #[.int .i64 0,.int .u64 (k:Int),.string ByteArray.empty,.slice none 0 0,.int .i64 0,.int .u64 (c:Int),.string ByteArray.empty,.slice none 0 0,.int .i64 0,.int .u64 (q:Int),.string ByteArray.empty,.slice none 0 0,.int .i64 1,.int .u64 0,.string y,.slice none 0 0,.int .i64 1,.int .u64 0,.string x,.slice none 0 0,.int .i64 0,.int .u64 (r:Int),.string ByteArray.empty,.slice none 0 0] 25)) w'):=fun W=>codeclist_row _ 6 6 _ _ (six_items W k c q y x r hk hc hq hy hx hr) (by decide)
 unfold numV at hik hic hiq hir
 unfold textV at hty htx
 go_enter Tryd.func57,Tryd.ntmps57
 go_wp2_with fail
 have hpre:ItS w k c q y x r ((w.alloc (.cells #[.int .i64 (k:Int),.int .i64 (c:Int),.int .i64 (q:Int),.string y,.string x,.int .i64 (r:Int)] 45)).alloc (.cells #[.int .i64 0,.int .u64 0,.string ⟨#[]⟩,.slice none 0 0] 25)):=⟨blw,by simp,by simp [go_sem],by simp [go_sem],by simp [go_sem],by simp [go_sem],by simp [go_sem],by simp [go_sem],by simp [go_sem],by simp [go_sem],by simp [go_sem],by simp [go_sem],by simp [go_sem],by simp [go_sem],by simp [go_sem],by simp [go_sem]⟩
 go_region_held3 (fun wx=>Below w.heap.size w wx∧w.heap.size+1<wx.heap.size∧wx.cell? ⟨w.heap.size,0,none⟩=some (.int .i64 (k:Int))∧wx.cell? ⟨w.heap.size,1,none⟩=some (.int .i64 (c:Int))∧wx.cell? ⟨w.heap.size,2,none⟩=some (.int .i64 (q:Int))∧wx.cell? ⟨w.heap.size,3,none⟩=some (.string y)∧wx.cell? ⟨w.heap.size,4,none⟩=some (.string x)∧wx.cell? ⟨w.heap.size,5,none⟩=some (.int .i64 (r:Int))∧(wx.cell? ⟨w.heap.size+1,0,none⟩).isSome=true∧(wx.cell? ⟨w.heap.size+1,1,none⟩).isSome=true∧(wx.cell? ⟨w.heap.size+1,2,none⟩).isSome=true∧(wx.cell? ⟨w.heap.size+1,3,none⟩).isSome=true∧wx.frozen? ⟨w.heap.size+1,0,none⟩=false∧wx.frozen? ⟨w.heap.size+1,1,none⟩=false∧wx.frozen? ⟨w.heap.size+1,2,none⟩=false∧wx.frozen? ⟨w.heap.size+1,3,none⟩=false)
  ((repeat' first|with_reducible assumption|with_reducible refine ItS.drew ?_|with_reducible refine ItS.alloc ?_ _|with_reducible refine ItS.set4 ?_ _ _ _ _|with_reducible refine ItS.keep (by with_reducible assumption) ?_))
  (first|(go_at_call 79;(with_reducible refine (hik _).mono ?_);rintro e w1 ⟨rfl,hb1⟩;have hz1:=hb1.size;(try simp at hz1))|(go_at_call 79;(with_reducible refine (hic _).mono ?_);rintro e w1 ⟨rfl,hb1⟩;have hz1:=hb1.size;(try simp at hz1))|(go_at_call 79;(with_reducible refine (hiq _).mono ?_);rintro e w1 ⟨rfl,hb1⟩;have hz1:=hb1.size;(try simp at hz1))|(go_at_call 79;(with_reducible refine (hir _).mono ?_);rintro e w1 ⟨rfl,hb1⟩;have hz1:=hb1.size;(try simp at hz1))|(go_at_call 77;(with_reducible refine (hty _).mono ?_);rintro e w1 ⟨rfl,hb1⟩;have hz1:=hb1.size;(try simp at hz1))|(go_at_call 77;(with_reducible refine (htx _).mono ?_);rintro e w1 ⟨rfl,hb1⟩;have hz1:=hb1.size;(try simp at hz1))|(go_at_call 55;(with_reducible refine (hli _).mono ?_);rintro e w1 ⟨A9,c9,rfl,hrow,hb1⟩;have hz1:=hb1.size;(try simp at hz1);obtain ⟨u0,u1,u2,u3,hu0,hu1,hu2,hu3,hv0,hv1,hv2,hv3⟩:=ItS.some4 (ItS.keep hb1 (by with_reducible assumption:ItS w k c q y x r _));have HS:=Lib.hid (ItS.keep2 hb1 (by with_reducible assumption:ItS w k c q y x r _))))
 go_wp2_with fail
 refine bodyPost_ret (v:=.agg #[.int .i64 2,.int .u64 0,.string ByteArray.empty,.slice A9 6 c9]) (by simp [results,Tryd.results57,go_sem, *] <;> rfl) rfl ?_
 obtain ⟨hlo,hS1⟩:=HS.out
 exact ⟨A9,c9,rfl,((((hrow.lower (base':=w.heap.size+2) (Nat.le_succ_of_le hlo)).set_leaf (p:=⟨w.heap.size+1,0,none⟩) (by simp) _).set_leaf (p:=⟨w.heap.size+1,1,none⟩) (by simp) _).set_leaf (p:=⟨w.heap.size+1,2,none⟩) (by simp) _).set_leaf (p:=⟨w.heap.size+1,3,none⟩) (by simp) _,(hS1.set4 _ _ _ _).1⟩
end Go.Proofs.YtlolnakeancenaaDoor
