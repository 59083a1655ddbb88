/- ids.Take at any item. -/
import Derived.Test.YtlolnakeancenaaDoorShimApartQ19
import Derived.Test.YtlolnakeancenaaDoorShimApartQ1
import Derived.WalkKit
import Derived.WalkSpells
import Derived.WalkLawsBesides
import Derived.Deep.RegionHeld3
import Derived.Deep.DrawnRows
import Derived.Deep.DeepCutAuto
import Derived.Deep.DeepFit
import Derived.Lib.Hide
import Derived.BigQuiet
import Derived.Deep.QuietTactic
namespace Go.Proofs.YtlolnakeancenaaDoor
open Go.RowKit
set_option linter.unusedVariables false
set_option linter.unusedSimpArgs false
set_option maxRecDepth 20000
attribute [local go_sem ↓] Go.wp_at_zero Go.wp_at_succ
attribute [local go_sem] World.cell?_alloc_some frozen_alloc_some
attribute [local go_sem] lt2 lt3 lt4 lt5
attribute [local simp] lt2 lt3 lt4 lt5
theorem getD_at (l:List Tree) {i:Nat} (h:i<l.length):l.getD i default=l[i]:=by simp [List.getD,List.getElem?_eq_getElem h]
/-- What two items of a list say. -/
noncomputable def gd (l:List Tree) (j:Nat):Bool:=isN (l.getD (2*j) default)&&isN (l.getD (2*j+1) default)
def pa (l:List Tree) (j:Nat):IdP:=((clamp (tN (l.getD (2*j) default)):Int),(clamp (tN (l.getD (2*j+1) default)):Int))
def tkHead (k:Int) (n:Nat) (s:ByteArray) (m:Nat):Bool:=k==2&&m % 2==0&&decide (m≤8192)&&n==0&&s.size==0
/-- The set of an item. -/
noncomputable def itake:Tree→Option (List IdP)
 | .mk k n s l=>if tkHead k n s l.length=true∧(∀j,j<l.length / 2→gd l j=true)∧idsOk ((List.range (l.length / 2)).map (pa l))=true then some ((List.range (l.length / 2)).map (pa l)) else none
set_option maxHeartbeats 2000000 in
theorem idstake_bad (k:Int) (n:Nat) (s:ByteArray) (A:Option Addr) (m c:Nat) (w:World) (h:tkHead k n s m=false) (hm:m≤9223372036854775807):
  Calls Tryd.prog 82 #[.agg #[.int .i64 k,.int .u64 (n:Int),.string s,.slice A m c]] w (Gives w (.tuple #[.slice none 0 0,.bool false])):=by
 have hmod:((m:Int)).tmod 2=((m % 2:Nat):Int):=by rw [Int.tmod_eq_emod_of_nonneg (by omega)];omega
 have fin:∀(a b c d e:Bool),(a&&b&&c&&d&&e)=false→a=false∨(a=true∧b=false)∨(a=true∧b=true∧c=false)∨(a=true∧b=true∧c=true∧d=false)∨(a=true∧b=true∧c=true∧d=true∧e=false):=by decide
 rcases fin _ _ _ _ _ h with h1|⟨h1,h2⟩|⟨h1,h2,h3⟩|⟨h1,h2,h3,h4⟩|⟨h1,h2,h3,h4,h5⟩
 ·have g1:(k != 2)=true:=by simpa using h1
  clear h h1 fin
  go_enter Tryd.func82,Tryd.ntmps82
  go_wp2_with fail
  refine bodyPost_ret (v:=.tuple #[.slice none 0 0,.bool false]) (by simp [results,Tryd.results82,go_sem, *] <;> rfl) rfl ?_
  exact ⟨rfl,blw⟩
 ·obtain rfl:k=2:=by simpa using h1
  have g2:((m % 2:Nat):Int)=1:=by simp at h2;omega
  rw [g2] at hmod
  clear h h1 h2 fin
  go_enter Tryd.func82,Tryd.ntmps82
  go_wp2_with fail
  refine bodyPost_ret (v:=.tuple #[.slice none 0 0,.bool false]) (by simp [results,Tryd.results82,go_sem, *] <;> rfl) rfl ?_
  exact ⟨rfl,blw⟩
 ·obtain rfl:k=2:=by simpa using h1
  have g2:((m % 2:Nat):Int)=0:=by simp at h2;omega
  rw [g2] at hmod
  have g3:(8192:Int)<(m:Int):=by simp at h3;omega
  clear h h1 h2 h3 fin
  go_enter Tryd.func82,Tryd.ntmps82
  go_wp2_with fail
  refine bodyPost_ret (v:=.tuple #[.slice none 0 0,.bool false]) (by simp [results,Tryd.results82,go_sem, *] <;> rfl) rfl ?_
  exact ⟨rfl,blw⟩
 ·obtain rfl:k=2:=by simpa using h1
  have g2:((m % 2:Nat):Int)=0:=by simp at h2;omega
  rw [g2] at hmod
  have g3:¬(8192:Int)<(m:Int):=by simp at h3;omega
  have g4:((n:Int) != 0)=true:=by simp at h4 ⊢;omega
  clear h h1 h2 h3 h4 fin
  go_enter Tryd.func82,Tryd.ntmps82
  go_wp2_with fail
  refine bodyPost_ret (v:=.tuple #[.slice none 0 0,.bool false]) (by simp [results,Tryd.results82,go_sem, *] <;> rfl) rfl ?_
  exact ⟨rfl,blw⟩
 ·obtain rfl:k=2:=by simpa using h1
  have g2:((m % 2:Nat):Int)=0:=by simp at h2;omega
  rw [g2] at hmod
  have g3:¬(8192:Int)<(m:Int):=by simp at h3;omega
  obtain rfl:n=0:=by simpa using h4
  obtain ⟨g5,g6⟩:=text_full (s:=s) (by simpa using h5)
  clear h h1 h2 h3 h4 h5 fin
  go_enter Tryd.func82,Tryd.ntmps82
  go_wp2_with fail
  refine bodyPost_ret (v:=.tuple #[.slice none 0 0,.bool false]) (by simp [results,Tryd.results82,go_sem, *] <;> rfl) rfl ?_
  exact ⟨rfl,blw⟩
/-- What Take's variables hold between two rounds. -/
def TkI (w:World) (u:Value) (l:List Tree) {h:Nat} (pre:List (ChJ h)) (W:World):Prop:=
 ((∃v,Boxed W (w.heap.size+1+1+1) 46 v∧W.ownsRow w.heap.size 41 2 v pre.length (flat2 (pre.map fun x=>pa l x.1)))∧
  Boxed W (w.heap.size+1) 46 (.slice none 0 0)∧Boxed W (w.heap.size+1+1) 4 (.bool false)∧Boxed W (w.heap.size+1+1+1+1) 23 u∧Boxed W (w.heap.size+1+1+1+1+1) 3 (.int .i64 2)∧∀x∈pre,gd l x.1=true)∧Below w.heap.size w W
def TkX (w:World) (l:List Tree) {h:Nat} (c:Code) (pre:List (ChJ h)) (W:World):Prop:=
 (Boxed W (w.heap.size+1) 46 (.slice none 0 0)∧Boxed W (w.heap.size+1+1) 4 (.bool false)∧c= .ret∧∃x∈pre,gd l x.1=false)∧Below w.heap.size w W
def TakesI (w:World) (r:Option (List IdP)) (e:Ending) (w':World):Prop:=
 Below w.heap.size w w'∧match r with
  |none=>e= .returned (.tuple #[.slice none 0 0,.bool false])
  |some l=>∃A c,e= .returned (.tuple #[.slice A l.length c,.bool true])∧w'.ownsRow w.heap.size 41 2 (.slice A l.length c) l.length (flat2 l)
theorem id_info:(Tryd.prog.info? 41).map (fun i=>(i.zero,i.size,i.bytes))=some (some (.agg #[.int .i64 0,.int .i64 0]),2,16):=by kernel_rfl
/-- Whatever turns that is no cells. -/
theorem boxed_nc {W W':World} {B:Nat} {t:TypeId} {v:Value} {row:Option Nat} (h:Boxed W B t v) (hg:W.grownBy W' row) (hr:∀r,row=some r→∃o:Obj,W.heap[r]? =some o∧o.isCells=false):Boxed W' B t v:=
 h.kept hg fun e=>by
  obtain ⟨o,ho,hc⟩:=hr B e.symm
  rw [show W.heap[B]? =_ from h] at ho;cases ho;cases hc
theorem boxed_bl {W W':World} {B:Nat} {t:TypeId} {v:Value} (h:Boxed W B t v) (hb:Below W.heap.size W W'):Boxed W' B t v:=h.kept (grown_of_below hb none) (by simp)
theorem id_new (w:World) (r n:Int):∀(j:Nat) (u:Value),[Value.int .i64 r,.int .i64 n][j]? =some u→(w.alloc (.cells #[.int .i64 r,.int .i64 n] 41)).cell? ((⟨w.heap.size,0,none⟩:Addr).add j)=some u:=fun j u hj=>by
 obtain ⟨ad,e,hc⟩:=(src_two' (w:=w) (r:=r) (n:=n)).2.1 j u (by simpa [flat2,encId] using hj)
 injection e with e
 subst e
 exact hc
theorem own_nc {W W':World} {base:Nat} {e:TypeId} {size:Nat} {v:Value} {n:Nat} {xs:List Value} {row:Option Nat} (h:W.ownsRow base e size v n xs) (hg:W.grownBy W' row) (hr:∀r,row=some r→∃o:Obj,W.heap[r]? =some o∧o.isCells=false):W'.ownsRow base e size v n xs:=by
 refine h.kept hg ?_
 rcases h.2 with ⟨rfl,_⟩|⟨g,cap,cur,rfl,_,hgb,_⟩
 ·exact .inl rfl
 ·refine .inr fun e'=>?_
  obtain ⟨o,ho,hc⟩:=hr g (by simpa [Value.ownBlock] using e'.symm)
  rw [hgb] at ho;cases ho;cases hc
theorem clamp_wf (n:Nat):(Lit.int .i64 (clamp n:Int)).wf=true:=by have:clamp n≤4611686018427387904:=Nat.min_le_right _ _;simp [Lit.wf,IntKind.min,IntKind.max,IntKind.signed,IntKind.bits];omega
theorem tkI_own (w:World) (u:Value) (l:List Tree) {h B:Nat} (hB:w.heap.size≤B):OwnFrom B (TkI w u l (h:=h)):=
 OwnFrom.and (fun s X Y row h hg hr=>by
  obtain ⟨⟨v,hv,h1⟩,h3,h4,h6,h7,h5⟩:=h
  have hr':∀r,row=some r→∃o:Obj,X.heap[r]? =some o∧o.isCells=false:=fun r e=>(hr r e).2
  exact ⟨⟨v,boxed_nc hv hg hr',own_nc h1 hg hr'⟩,boxed_nc h3 hg hr',boxed_nc h4 hg hr',boxed_nc h6 hg hr',boxed_nc h7 hg hr',h5⟩) (ownFrom_below (Nat.le_refl _) hB)
theorem tkX_own (w:World) (l:List Tree) {h B:Nat} (c:Code) (hB:w.heap.size≤B):OwnFrom B (TkX w l (h:=h) c):=
 OwnFrom.and (fun s X Y row h hg hr=>by
  obtain ⟨h3,h4,h5⟩:=h
  have hr':∀r,row=some r→∃o:Obj,X.heap[r]? =some o∧o.isCells=false:=fun r e=>(hr r e).2
  exact ⟨boxed_nc h3 hg hr',boxed_nc h4 hg hr',h5⟩) (ownFrom_below (Nat.le_refl _) hB)
/-- Two results stored, and the deferred calls taken. -/
theorem tk_fin {w w1:World} {a b D:Nat} {t u:TypeId} {x0 x1:Value} (x y:Value) (h1:Boxed w1 a t x0) (h2:Boxed w1 b u x1) (hab:a≠b) (hD:w1.heap[D]? =some (.deferred (some []))) (hB:Below w.heap.size w w1) (ha:w.heap.size≤a) (hb:w.heap.size≤b) (hBD:w.heap.size≤D):
  ((w1.setCell ⟨a,0,none⟩ x).setCell ⟨b,0,none⟩ y).heap[D]? =some (.deferred (some []))∧((((w1.setCell ⟨a,0,none⟩ x).setCell ⟨b,0,none⟩ y).putObj D (.deferred none)).cell? ⟨a,0,none⟩=some x)∧((((w1.setCell ⟨a,0,none⟩ x).setCell ⟨b,0,none⟩ y).putObj D (.deferred none)).cell? ⟨b,0,none⟩=some y)∧
   Below w.heap.size w (((w1.setCell ⟨a,0,none⟩ x).setCell ⟨b,0,none⟩ y).putObj D (.deferred none)):=by
 have hDa:D≠a:=fun e=>by subst e;rw [show w1.heap[D]? =_ from h1] at hD;cases hD
 have hDb:D≠b:=fun e=>by subst e;rw [show w1.heap[D]? =_ from h2] at hD;cases hD
 have k:((w1.setCell ⟨a,0,none⟩ x).setCell ⟨b,0,none⟩ y).heap[D]? =some (.deferred (some [])):=
  (Below.heap_setCell _ ⟨b,0,none⟩ _ D hDb).trans ((Below.heap_setCell _ ⟨a,0,none⟩ _ D hDa).trans hD)
 have r1:Boxed ((w1.setCell ⟨a,0,none⟩ x).setCell ⟨b,0,none⟩ y) a t x:=(h1.set x).other hab y
 have r2:Boxed ((w1.setCell ⟨a,0,none⟩ x).setCell ⟨b,0,none⟩ y) b u y:=(h2.other (fun e=>hab e.symm) x).set y
 have bb:=(hB.setCell (p:=⟨a,0,none⟩) ha x).setCell (p:=⟨b,0,none⟩) hb y
 refine ⟨k,?_,?_,?_⟩
 ·exact (boxed_nc r1 (grownBy_putObj' _ D (.deferred none)) (fun r e=>by cases e;exact ⟨_,k,rfl⟩)).cell
 ·exact (boxed_nc r2 (grownBy_putObj' _ D (.deferred none)) (fun r e=>by cases e;exact ⟨_,k,rfl⟩)).cell
 ·exact bb.trans (belowK_b (w:=w) (Nat.le_refl _) _ D _ (.deferred none) hBD k rfl rfl)
theorem tk_row {w1:World} {a b D base:Nat} {t u e:TypeId} {x0 x1:Value} {size n:Nat} {v:Value} {xs:List Value} (x y:Value) (h1:Boxed w1 a t x0) (h2:Boxed w1 b u x1) (hab:a≠b) (h:w1.ownsRow base e size v n xs) (hte:t≠e) (hue:u≠e)
  (hD:((w1.setCell ⟨a,0,none⟩ x).setCell ⟨b,0,none⟩ y).heap[D]? =some (.deferred (some []))):(((w1.setCell ⟨a,0,none⟩ x).setCell ⟨b,0,none⟩ y).putObj D (.deferred none)).ownsRow base e size v n xs:=by
 have r1:=h.kept (grownBy_setCell' w1 a x) (.inr (h1.not_row hte h).symm)
 have r2:=r1.kept (grownBy_setCell' _ b y) (.inr ((h2.other (fun e=>hab e.symm) x).not_row hue r1).symm)
 exact ownsRow_putObj r2 (.deferred none) hD rfl
section
attribute [local go_sem] Oper.semAt_some
set_option maxHeartbeats 2000000 in
theorem idstake_good (A:Option Addr) (h c:Nat) (l:List Tree) (w:World) (hl:l.length=2*h) (hh:h≤4096) (hI:Items w A (2*h) c l):
  Calls Tryd.prog 82 #[.agg #[.int .i64 2,.int .u64 0,.string ByteArray.empty,.slice A (2*h) c]] w
   (TakesI w (if (∀j,j<h→gd l j=true)∧idsOk ((List.range h).map (pa l))=true then some ((List.range h).map (pa l)) else none)):=by
 obtain ⟨RES,hRES⟩:∃r,(if (∀j,j<h→gd l j=true)∧idsOk ((List.range h).map (pa l))=true then some ((List.range h).map (pa l)) else none)=r:=⟨_,rfl⟩
 rw [hRES]
 have HRES:=Lib.hid hRES
 clear hRES
 obtain ⟨m,hmE⟩:∃m,m=2*h:=⟨_,rfl⟩
 have hmod:((m:Int)).tmod 2=0:=by rw [Int.tmod_eq_emod_of_nonneg (by omega)];omega
 have g3:¬(8192:Int)<(m:Int):=by omega
 rw [←hmE] at hI ⊢
 have HI:=Lib.hid hI
 have HM:=Lib.hid hmE
 have hmc:m≤c:=hI.2.1
 clear hI hmE
 refine (callsIn_wide (n:=22)).1 ?_
 have h1:1≤22:=by omega
 have hro:Fence.wide.round=none:=rfl
 obtain ⟨i0,hi,e0⟩:=Option.map_eq_some_iff.1 id_info
 simp only [Prod.mk.injEq] at e0
 obtain ⟨hz0,hz1,hz2⟩:=e0
 refine callsIn_of_wp_marks Tryd.func82 rfl trivial ?_ hro
 simp only [Tryd.ntmps82,List.size_toArray,List.length_cons,List.length_nil,Nat.reduceAdd,Nat.reduceSub,Array.replicate_succ,Array.replicate_zero,List.push_toArray,List.append_toArray,List.nil_append,List.cons_append]
 gi_wp2_with (refine ⟨trivial,?_⟩;gi_at_call 99;refine (callsIn_wide.2 (chunk_any _ _ _ _)).mono ?_;rintro e w' ⟨rfl,rfl⟩)
 have bR:=Boxed.new (w.alloc (.cells #[.int .i64 2,.int .u64 0,.string ByteArray.empty,.slice A m c] 25)) 46 (.slice none 0 0)
 have bO:=Boxed.new ((w.alloc (.cells #[.int .i64 2,.int .u64 0,.string ByteArray.empty,.slice A m c] 25)).alloc (.cells #[.slice none 0 0] 46)) 4 (.bool false)
 have bV:=Boxed.new (((w.alloc (.cells #[.int .i64 2,.int .u64 0,.string ByteArray.empty,.slice A m c] 25)).alloc (.cells #[.slice none 0 0] 46)).alloc (.cells #[.bool false] 4)) 46 (.slice none 0 0)
 have bS:=Boxed.new ((((w.alloc (.cells #[.int .i64 2,.int .u64 0,.string ByteArray.empty,.slice A m c] 25)).alloc (.cells #[.slice none 0 0] 46)).alloc (.cells #[.bool false] 4)).alloc (.cells #[.slice none 0 0] 46)) 23 (.slice A m c)
 have bN:=Boxed.new (((((w.alloc (.cells #[.int .i64 2,.int .u64 0,.string ByteArray.empty,.slice A m c] 25)).alloc (.cells #[.slice none 0 0] 46)).alloc (.cells #[.bool false] 4)).alloc (.cells #[.slice none 0 0] 46)).alloc (.cells #[.slice A m c] 23)) 3 (.int .i64 2)
 simp only [World.size_alloc] at bR bO bV bS bN
 have bR5:=(((bR.alloc (.cells #[.bool false] 4)).alloc (.cells #[.slice none 0 0] 46)).alloc (.cells #[.slice A m c] 23)).alloc (.cells #[.int .i64 2] 3)
 have bO5:=((bO.alloc (.cells #[.slice none 0 0] 46)).alloc (.cells #[.slice A m c] 23)).alloc (.cells #[.int .i64 2] 3)
 have bV5:=(bV.alloc (.cells #[.slice A m c] 23)).alloc (.cells #[.int .i64 2] 3)
 have bS5:=bS.alloc (.cells #[.int .i64 2] 3)
 have hB0:Below w.heap.size w ((((((w.alloc (.cells #[.int .i64 2,.int .u64 0,.string ByteArray.empty,.slice A m c] 25)).alloc (.cells #[.slice none 0 0] 46)).alloc (.cells #[.bool false] 4)).alloc (.cells #[.slice none 0 0] 46)).alloc (.cells #[.slice A m c] 23)).alloc (.cells #[.int .i64 2] 3)):=blw
 have hsz:((((((w.alloc (.cells #[.int .i64 2,.int .u64 0,.string ByteArray.empty,.slice A m c] 25)).alloc (.cells #[.slice none 0 0] 46)).alloc (.cells #[.bool false] 4)).alloc (.cells #[.slice none 0 0] 46)).alloc (.cells #[.slice A m c] 23)).alloc (.cells #[.int .i64 2] 3)).heap.size=w.heap.size+6:=by simp
 clear bR bO bV bS
 revert bR5 bO5 bV5 bS5 bN hB0 hsz
 generalize World.alloc _ (.cells #[.int .i64 2] 3)=W0
 intro bN bR5 bO5 bV5 bS5 hB0 hsz
 have hst:SeqStopsK Fence.wide 21 Tryd.prog 108 #[.pointer (some ⟨w.heap.size+1+1+1+1,0,none⟩),.pointer (some ⟨w.heap.size+1+1+1+1+1,0,none⟩)] (fun x:ChJ h=>chE A x.1) (KpC w.heap.size (w.heap.size+1+1+1+1) (w.heap.size+1+1+1+1+1)) (fun ys=>ys.map (·.1)=List.range h) (fun _=>True) h W0:=by
  have:=HM.out
  subst this
  exact chunk_stops _ _ _ A h c W0 (by omega) hmc bS5.cell bN.cell (by omega)
 have HS:=Lib.hid hst
 clear hst
 refine wpIn_rangeFunc_ownG hro h1 (gf:=108) (lb:=#[.pointer (some ⟨w.heap.size+1+1+1+1,0,none⟩),.pointer (some ⟨w.heap.size+1+1+1+1+1,0,none⟩)]) rfl trivial (enters_of Tryd.func108 (by kernel_rfl) rfl)
  HS.out kpC_t (kpC_b (by omega) (by omega) (by omega)) (Below.refl _ _) (fun _=>rfl)
  (TkI w (.slice A m c) l) (TkX w l) (tkI_own w _ l (by omega)) (fun c=>tkX_own w l c (by omega))
  ⟨⟨⟨_,bV5,World.ownsRow_nil _ _ _ _⟩,bR5,bO5,bS5,bN,fun x h=>by simp at h⟩,hB0⟩
  (fun x=>{ tmps:=#[(.agg #[.int .i64 2,.int .u64 0,.string ByteArray.empty,.slice A m c]),.pointer (some ⟨w.heap.size,0,none⟩),.pointer (some ⟨w.heap.size+1,0,none⟩),.pointer (some ⟨w.heap.size+1+1,0,none⟩),.pointer (some ⟨w.heap.size+1+1+1,0,none⟩),.slice (A.map (·.add (2*x.1*4))) 2 2,undef,undef,undef,undef,.pointer (some ⟨w.heap.size,0,none⟩),.int .i64 2,.bool false,.bool false,.pointer (some ⟨w.heap.size,3,none⟩),.slice A m c,.int .i64 m,.int .i64 0,.bool false,.bool false,.bool false,.pointer (some ⟨w.heap.size,3,none⟩),.slice A m c,.int .i64 m,.bool false,.bool false,.bool false,.pointer (some ⟨w.heap.size,1,none⟩),.int .u64 0,.bool false,.bool false,.bool false,.pointer (some ⟨w.heap.size,2,none⟩),.string ByteArray.empty,.bool false,.bool false,.pointer (some ⟨w.heap.size,3,none⟩),.slice A m c,(.func (.func 108) #[] #[.pointer (some ⟨w.heap.size+1+1+1+1,0,none⟩),.pointer (some ⟨w.heap.size+1+1+1+1+1,0,none⟩)]),.slice (A.map (·.add (2*x.1*4))) 2 2,undef,undef,undef,undef,undef,undef,undef,undef,undef,undef,undef,undef,undef,undef,undef,undef,undef,undef,undef,undef,undef,undef,undef,undef,undef,undef,undef,undef,undef,undef],defers:=[] }) ?assign ?body ?done ?stop
 case assign=>
  intro l0 x W K hK
  dsimp only [chE]
  generalize A.map (·.add (2*x.1*4))=B at*
  gi_wp2
  exact hK
 case body=>
  rintro l0 pre ⟨j,hj⟩ W ⟨⟨⟨v,hv,hrow⟩,hr1,hr2,hrS,hrN,hgd⟩,hB⟩ hlt
  have hit:=HI.out.keep hB
  have hjl:2*j+1<l.length:=by omega
  obtain ⟨ad,u0,hA,hu0,hc0⟩:=hit.elem (i:=2*j) (List.getElem?_eq_getElem (by omega))
  obtain ⟨ad',u1,hA',hu1,hc1⟩:=hit.elem (i:=2*j+1) (List.getElem?_eq_getElem hjl)
  rw [hA] at hA'
  injection hA' with hA'
  subst hA'
  have hgdj:gd l j=(isN l[2*j]&&isN l[2*j+1]):=by unfold gd;rw [getD_at l (by omega),getD_at l hjl]
  have hpaj:pa l j=((clamp (tN l[2*j]):Int),(clamp (tN l[2*j+1]):Int)):=by unfold pa;rw [getD_at l (by omega),getD_at l hjl]
  have hn0:=fun W' (hb:Below W.heap.size W W')=>idnum_any _ u0 W' (hu0.keep hb)
  have hn1:=fun W' (hb:Below W.heap.size W W')=>idnum_any _ u1 W' (hu1.keep hb)
  obtain ⟨R0,hR0⟩:∃R,isN l[2*j]=R:=⟨_,rfl⟩
  obtain ⟨R1,hR1⟩:∃R,isN l[2*j+1]=R:=⟨_,rfl⟩
  obtain ⟨x0,hx0⟩:∃x,clamp (tN l[2*j])=x:=⟨_,rfl⟩
  obtain ⟨x1,hx1⟩:∃x,clamp (tN l[2*j+1])=x:=⟨_,rfl⟩
  rw [hR0,hx0] at hn0
  rw [hR1,hx1] at hn1
  rw [hR0,hR1] at hgdj
  rw [hx0,hx1] at hpaj
  have HG:=Lib.hid hgdj
  have HP:=Lib.hid hpaj
  have HGD:=Lib.hid hgd
  obtain ⟨eb,eo,k0,q0,s0,A0,m0,c0,ha0,rfl,p0,p1,p2,p3⟩:=hc0
  obtain ⟨eb1,eo1,k1,q1,s1,A1,m1,c1,ha1,rfl,t0,t1,t2,t3⟩:=hc1
  have hadr:ad.add ((2*j+1)*4)=⟨eb,eo+4,none⟩:=by
   rw [show (2*j+1)*4=2*j*4+4 by omega,←add_of_add,ha0]
   unfold Addr.add;split <;> simp_all
  rw [hadr] at ha1
  injection ha1 with h1' h2'
  subst h1' h2'
  have eA:A.map (·.add (2*j*4))=some ⟨eb,eo,none⟩:=by rw [hA,Option.map_some,ha0]
  have hH0:=Lib.hid hn0
  have hH1:=Lib.hid hn1
  have HB:=Lib.hid hB
  have hzW:=hB.size
  have HWZ:=Lib.hid (show w.heap.size+1+1+1<W.heap.size from hv.lt)
  clear hn0 hn1 hgdj hpaj hR0 hR1 hx0 hx1 hu0 hu1 hit hgd hB hA ha0 hadr HS hmod g3
  dsimp only
  rw [eA]
  clear eA
  have hpl:pre.length<4096:=by omega
  cases R0
  ·gi_wp2_with (first
    |(refine ⟨trivial,?_⟩;gi_at_call 100;refine (CallsIn.inRound _ (callsIn_wide.2 (hH0.out _ (Below.refl _ _)))).mono ?_;clear hH0;rintro e w1 ⟨rfl,hb1⟩;replace t0:=cell_keep hb1 t0;replace t1:=cell_keep hb1 t1;replace t2:=cell_keep hb1 t2;replace t3:=cell_keep hb1 t3)
    |(refine ⟨trivial,?_⟩;gi_at_call 100;refine (CallsIn.inRound _ (callsIn_wide.2 (hH1.out _ hb1))).mono ?_;clear hH1;rintro e w2 ⟨rfl,hb2⟩;have b12:=hb1.trans (hb2.mono hb1.size);have r1:=boxed_bl hr1 b12;have r2:=boxed_bl hr2 b12;have rv:=boxed_bl hv b12;have rr:=own_below hrow b12;have z12:=b12.size;have c1:=r1.cell;have f1:=r1.frozen;have c2:=r2.cell;have f2:=r2.frozen;have cv:=rv.cell;have fv:=rv.frozen;have c2':=(r2.other (B':=w.heap.size+1) (by omega) (.slice none 0 0)).cell))
   exact ⟨(((KeepsOthers.of_grownBy (grown_of_below b12 none) (fun j o e=>by cases e)).trans (KeepsOthers.setCell _ _ _)).trans (KeepsOthers.setCell _ _ _)).from _,
    ⟨⟨(r1.set _).other (by omega) _,(r2.other (by omega) _).set _,rfl,⟨j,hj⟩,by simp,HG.out⟩,((HB.out.trans (b12.mono hzW)).setCell (p:=⟨w.heap.size+1,0,none⟩) (Nat.le_succ _) _).setCell (p:=⟨w.heap.size+1+1,0,none⟩) (by simp;omega) _⟩⟩
  cases R1
  ·gi_wp2_with (first
    |(refine ⟨trivial,?_⟩;gi_at_call 100;refine (CallsIn.inRound _ (callsIn_wide.2 (hH0.out _ (Below.refl _ _)))).mono ?_;clear hH0;rintro e w1 ⟨rfl,hb1⟩;replace t0:=cell_keep hb1 t0;replace t1:=cell_keep hb1 t1;replace t2:=cell_keep hb1 t2;replace t3:=cell_keep hb1 t3)
    |(refine ⟨trivial,?_⟩;gi_at_call 100;refine (CallsIn.inRound _ (callsIn_wide.2 (hH1.out _ hb1))).mono ?_;clear hH1;rintro e w2 ⟨rfl,hb2⟩;have b12:=hb1.trans (hb2.mono hb1.size);have r1:=boxed_bl hr1 b12;have r2:=boxed_bl hr2 b12;have rv:=boxed_bl hv b12;have rr:=own_below hrow b12;have z12:=b12.size;have c1:=r1.cell;have f1:=r1.frozen;have c2:=r2.cell;have f2:=r2.frozen;have cv:=rv.cell;have fv:=rv.frozen;have c2':=(r2.other (B':=w.heap.size+1) (by omega) (.slice none 0 0)).cell))
   exact ⟨(((KeepsOthers.of_grownBy (grown_of_below b12 none) (fun j o e=>by cases e)).trans (KeepsOthers.setCell _ _ _)).trans (KeepsOthers.setCell _ _ _)).from _,
    ⟨⟨(r1.set _).other (by omega) _,(r2.other (by omega) _).set _,rfl,⟨j,hj⟩,by simp,HG.out⟩,((HB.out.trans (b12.mono hzW)).setCell (p:=⟨w.heap.size+1,0,none⟩) (Nat.le_succ _) _).setCell (p:=⟨w.heap.size+1+1,0,none⟩) (by simp;omega) _⟩⟩
  ·gi_wp2_with (first
    |(refine ⟨trivial,?_⟩;gi_at_call 100;refine (CallsIn.inRound _ (callsIn_wide.2 (hH0.out _ (Below.refl _ _)))).mono ?_;clear hH0;rintro e w1 ⟨rfl,hb1⟩;replace t0:=cell_keep hb1 t0;replace t1:=cell_keep hb1 t1;replace t2:=cell_keep hb1 t2;replace t3:=cell_keep hb1 t3)
    |(refine ⟨trivial,?_⟩;gi_at_call 100;refine (CallsIn.inRound _ (callsIn_wide.2 (hH1.out _ hb1))).mono ?_;clear hH1;rintro e w2 ⟨rfl,hb2⟩;have b12:=hb1.trans (hb2.mono hb1.size);have r1:=boxed_bl hr1 b12;have r2:=boxed_bl hr2 b12;have rv:=boxed_bl hv b12;have rr:=own_below hrow b12;have z12:=b12.size;have c1:=r1.cell;have f1:=r1.frozen;have c2:=r2.cell;have f2:=r2.frozen;have cv:=rv.cell;have fv:=rv.frozen;have c2':=(r2.other (B':=w.heap.size+1) (by omega) (.slice none 0 0)).cell)
    |(gi_at_builtin;refine wpListIn_append_own _ rfl _ _ 46 rfl w.heap.size 41 i0 _ 2 16 Tryd.underlying46 hi hz0 hz1 hz2 rfl (by decide) _ _ _ rfl (rr.alloc _) ⟨w2.heap.size,0,none⟩ 1 1 [.int .i64 (x0:Int),.int .i64 (x1:Int)] rfl rfl (id_new _ _ _) (by simp [Value.oneCell']) (by unfold maxLen;omega) (by omega) (by simp;omega) ?_;intro v' w3 hown' hgrow _;obtain ⟨g',cap',rfl⟩:=ownsRow_succ hown';obtain ⟨hv1,hv2,hrw2,hk2,hb3⟩:=rv.appended (by decide) rr (by omega) (by omega) hown' hgrow;have cv3:=hv1.cell;have fv3:=hv1.frozen))
   have rS:=(boxed_bl hrS b12).alloc (.cells #[.int .i64 (x0:Int),.int .i64 (x1:Int)] 41) |>.kept hgrow ((boxed_bl hrS b12).not_row (by decide) rr)
   have rN:=(boxed_bl hrN b12).alloc (.cells #[.int .i64 (x0:Int),.int .i64 (x1:Int)] 41) |>.kept hgrow ((boxed_bl hrN b12).not_row (by decide) rr)
   have rR:=r1.alloc (.cells #[.int .i64 (x0:Int),.int .i64 (x1:Int)] 41) |>.kept hgrow (r1.not_row (by decide) rr)
   have rO:=r2.alloc (.cells #[.int .i64 (x0:Int),.int .i64 (x1:Int)] 41) |>.kept hgrow (r2.not_row (by decide) rr)
   have hBW:Below w.heap.size W w2:=b12.mono hzW
   have rS':=rS.other (B':=w.heap.size+1+1+1) (by omega) (.slice (some ⟨g',0,none⟩) (pre.length+1) cap')
   have rN':=rN.other (B':=w.heap.size+1+1+1) (by omega) (.slice (some ⟨g',0,none⟩) (pre.length+1) cap')
   refine ⟨((KeepsOthers.of_grownBy (grown_of_below b12 none) (fun j o e=>by cases e)).trans hk2).from _,⟨hBW.trans hb3,fun vv hvv=>?_,fun vv hvv=>?_⟩,⟨⟨_,hv2,?_⟩,rR.other (by omega) _,rO.other (by omega) _,rS',rN',fun x hx=>?_⟩,HB.out.trans (hBW.trans hb3)⟩
   ·rw [hrS.cell] at hvv;injection hvv with hvv;rw [←hvv];exact rS'.cell
   ·rw [hrN.cell] at hvv;injection hvv with hvv;rw [←hvv];exact rN'.cell
   ·rw [List.map_append,flat2_append,List.length_append]
    have:flat2 (List.map (fun x:ChJ h=>pa l x.1) [⟨j,hj⟩])=[.int .i64 (x0:Int),.int .i64 (x1:Int)]:=by simp [flat2,encId,HP.out]
    rw [this]
    exact hrw2
   ·rcases List.mem_append.1 hx with hx|hx
    ·exact HGD.out x hx
    ·simp at hx
     subst hx
     exact HG.out
 case done=>
  rintro D ys W hD hys ⟨⟨⟨v,hv,hrow⟩,hr1,hr2,hrS,hrN,hgd⟩,hB⟩ hK
  have hlen:ys.length=h:=by have:=congrArg List.length hys;simpa using this
  have hmp:ys.map (fun x=>pa l x.1)=(List.range h).map (pa l):=by rw [←hys,List.map_map];rfl
  have hall:∀j,j<h→gd l j=true:=fun j hj=>by
   have:j∈ys.map (·.1):=by rw [hys];simpa using hj
   obtain ⟨x,hx,rfl⟩:=List.mem_map.1 this
   exact hgd x hx
  rw [hmp,hlen] at hrow
  obtain ⟨A1,CC,rfl,_,_⟩:=own_form5 hrow
  have hwf:∀x∈(List.range h).map (pa l),(Lit.int .i64 x.1).wf=true∧(Lit.int .i64 x.2).wf=true:=fun x hx=>by
   obtain ⟨j,_,rfl⟩:=List.mem_map.1 hx
   exact ⟨clamp_wf _,clamp_wf _⟩
  obtain ⟨hids, -, -⟩:=ids_of_own hrow (by unfold maxLen;omega) hwf
  have hck:=idscheck_any A1 h CC _ W hids
  have hT:idsOk ((List.range h).map (pa l))=true→RES=some ((List.range h).map (pa l)):=fun e=>by rw [←HRES.out];exact if_pos ⟨hall,e⟩
  have hF:idsOk ((List.range h).map (pa l))=false→RES=none:=fun e=>by rw [←HRES.out];exact if_neg (fun hh=>by rw [e] at hh;cases hh.2)
  have hll:((List.range h).map (pa l)).length=h:=by simp
  have hids2:=hids
  generalize (List.range h).map (pa l)=L at*
  obtain ⟨R,hR⟩:∃R,idsOk L=R:=⟨_,rfl⟩
  rw [hR] at hck hT hF
  have HT:=Lib.hid hT
  have HF:=Lib.hid hF
  clear hT hF HRES
  have hzW:=hB.size
  have hz3:w.heap.size+1+1+1<W.heap.size:=hv.lt
  have cv:=hv.cell
  have HB:=Lib.hid hB
  have HC:=Lib.hid hck
  clear hids hids2 hwf hall hmp hys hgd HS hck hR hrS hrN hB hlen
  cases R
  ·obtain rfl:=HF.out rfl
   gi_wp2_with (refine ⟨trivial,?_⟩;gi_at_call 92;refine (callsIn_wide.2 HC.out).mono ?_;rintro e w1 ⟨rfl,hb1⟩;have r1:=boxed_bl hr1 hb1;have r2:=boxed_bl hr2 hb1;have rv:=boxed_bl hv hb1;have c1:=r1.cell;have f1:=r1.frozen;have c2:=r2.cell;have f2:=r2.frozen;have c2':=(r2.other (B':=w.heap.size+1) (by omega) (.slice none 0 0)).cell)
   have hD1:w1.heap[D]? =some (.deferred (some [])):=(hb1.block D (Array.getElem?_eq_some_iff.1 hK).1).trans hK
   obtain ⟨y1,y2,y3,y4⟩:=tk_fin (.slice none 0 0) (.bool false) r1 r2 (by omega) hD1 (HB.out.trans (hb1.mono hzW)) (by omega) (by omega) (by omega)
   refine ⟨by simp,.inl ⟨_,_,rfl,run_takeDeferred y1,?_⟩⟩
   exact ⟨_,by simp [results,go_sem,asAddr,y2,y3],y4,rfl⟩
  ·obtain rfl:=HT.out rfl
   gi_wp2_with (refine ⟨trivial,?_⟩;gi_at_call 92;refine (callsIn_wide.2 HC.out).mono ?_;rintro e w1 ⟨rfl,hb1⟩;have r1:=boxed_bl hr1 hb1;have r2:=boxed_bl hr2 hb1;have rv:=boxed_bl hv hb1;have c1:=r1.cell;have f1:=r1.frozen;have c2:=r2.cell;have f2:=r2.frozen;have cv:=rv.cell;have c2':=(r2.other (B':=w.heap.size+1) (by omega) (.slice A1 h CC)).cell)
   have hD1:w1.heap[D]? =some (.deferred (some [])):=(hb1.block D (Array.getElem?_eq_some_iff.1 hK).1).trans hK
   obtain ⟨y1,y2,y3,y4⟩:=tk_fin (.slice A1 h CC) (.bool true) r1 r2 (by omega) hD1 (HB.out.trans (hb1.mono hzW)) (by omega) (by omega) (by omega)
   have y5:=tk_row (.slice A1 h CC) (.bool true) r1 r2 (by omega) (own_below hrow hb1) (by decide) (by decide) y1
   refine ⟨by simp,.inl ⟨_,_,rfl,run_takeDeferred y1,?_⟩⟩
   refine ⟨_,by simp [results,go_sem,asAddr,y2,y3];rfl,y4,A1,CC,?_,?_⟩
   ·rw [hll]
   ·rw [hll];exact y5
 case stop=>
  rintro D cc pre W hD _ ⟨⟨hr1,hr2,rfl,x,hx,hex⟩,hB⟩ hK
  have k1:=hr1.cell
  have k2:=hr2.cell
  have q1:=(boxed_nc hr1 (grownBy_putObj' W D (.deferred none)) (fun r e=>by cases e;exact ⟨_,hK,rfl⟩)).cell
  have q2:=(boxed_nc hr2 (grownBy_putObj' W D (.deferred none)) (fun r e=>by cases e;exact ⟨_,hK,rfl⟩)).cell
  obtain rfl:RES=none:=by
   rw [←HRES.out]
   exact if_neg (fun hh=>by have:=hh.1 x.1 x.2;rw [hex] at this;cases this)
  gi_wp2
  refine ⟨by simp,.inl ⟨_,_,rfl,run_takeDeferred hK,?_⟩⟩
  exact ⟨_,by simp [results,go_sem,asAddr,q1,q2],hB.trans (belowK_b (w:=w) (Nat.le_refl _) W D _ _ (by omega) hK rfl rfl),rfl⟩
end
theorem itake_mk (k:Int) (n:Nat) (s:ByteArray) (l:List Tree):itake (.mk k n s l)=if tkHead k n s l.length=true∧(∀j,j<l.length / 2→gd l j=true)∧idsOk ((List.range (l.length / 2)).map (pa l))=true then some ((List.range (l.length / 2)).map (pa l)) else none:=rfl
theorem size0 {s:ByteArray} (h:s.size=0):s=ByteArray.empty:=by
 obtain ⟨⟨l⟩⟩:=s
 have:l=[]:=List.length_eq_zero_iff.1 h
 subst this;rfl
theorem idstake_any (t:Tree) (v:Value) (w:World) (hv:Holds w t v):Calls Tryd.prog 82 #[v] w (TakesI w (itake t)):=by
 obtain ⟨k,n,s,l⟩:=t
 obtain ⟨A,m,c,rfl, -, -, -,hm,hmc,hc, -⟩:=hv.open_
 have hi:=hv.items
 by_cases hh:tkHead k n s l.length=true
 ·have hp:=hh
  unfold tkHead at hp
  simp only [Bool.and_eq_true,beq_iff_eq,decide_eq_true_eq] at hp
  obtain ⟨⟨⟨⟨rfl,h2⟩,h3⟩,rfl⟩,h5⟩:=hp
  obtain rfl:=size0 h5
  obtain ⟨h,hl⟩:∃h,l.length=2*h:=⟨l.length / 2,by omega⟩
  subst hm
  rw [hl] at hi
  have hg:=idstake_good A h c l w hl (by omega) hi
  have e2:l.length / 2=h:=by omega
  rw [itake_mk,e2]
  simp only [hh,true_and]
  rw [hl]
  exact hg
 ·have hb:=idstake_bad k n s A m c w (by rw [hm];simpa using hh) (by unfold maxLen at hc;omega)
  rw [itake_mk,if_neg (fun h=>hh h.1)]
  exact hb.mono fun e w' h=>⟨h.2,h.1⟩
theorem itake_wf {t:Tree} {l:List IdP} (h:itake t=some l):(∀x∈l,(Lit.int .i64 x.1).wf=true∧(Lit.int .i64 x.2).wf=true)∧l.length≤4096∧idsOk l=true:=by
 obtain ⟨k,n,s,ts⟩:=t
 rw [itake_mk] at h
 split at h
 ·next hh=>
  injection h with h
  subst h
  refine ⟨fun x hx=>?_,?_,hh.2.2⟩
  ·obtain ⟨j,_,rfl⟩:=List.mem_map.1 hx
   exact ⟨clamp_wf _,clamp_wf _⟩
  ·have:=hh.1
   unfold tkHead at this
   simp only [Bool.and_eq_true,beq_iff_eq,decide_eq_true_eq] at this
   simp;omega
 ·cases h
/-- A set that was taken, none as nil. -/
def TkIds (w:World) (r:Option (List IdP)) (e:Ending) (w':World):Prop:=
 ∃A c,e= .returned (.tuple #[.slice A (r.getD []).length c,.bool r.isSome])∧IdsAt w' A (r.getD []).length (r.getD [])∧((r.getD []).length≤c∧∀ad,A=some ad→w.heap.size≤ad.block)∧Below w.heap.size w w'
theorem TakesI.ids {w w':World} {t:Tree} {e:Ending} (h:TakesI w (itake t) e w'):TkIds w (itake t) e w':=by
 obtain ⟨hb,h⟩:=h
 cases hr:itake t with
 |none=>rw [hr] at h;exact ⟨none,0,h,IdsAt.nil,⟨Nat.le_refl _,fun ad h=>by cases h⟩,hb⟩
 |some l=>
  rw [hr] at h
  obtain ⟨A,c,he,ho⟩:=h
  obtain ⟨hw,hl,_⟩:=itake_wf hr
  have:=ids_of_own ho (by unfold maxLen;omega) hw
  refine ⟨A,c,he,this.1,⟨this.2.1,fun ad e=>?_⟩,hb⟩
  rcases ho.2 with ⟨e0,_⟩|⟨g,cap,cur,e0,hg,_⟩
  ·injection e0 with e0;rw [e0] at e;cases e
  ·injection e0 with e0;rw [e0] at e;injection e with e;subst e;exact hg
theorem idstake_ids (t:Tree) (v:Value) (w:World) (hv:Holds w t v):Calls Tryd.prog 82 #[v] w (TkIds w (itake t)):=(idstake_any t v w hv).mono fun e w' h=>h.ids
end Go.Proofs.YtlolnakeancenaaDoor
