/- The walk of codec.lay: the form of a tree behind the bytes that are there. The deferred function codec.caught: for a frame that returns, and for one that panics with a fault. The walk of codec.Put. Items in a list: what a slice of them holds; a row of four cells each. The walks of codec.Num, Text, List. The walks of package stonecroplaw03: its example, and the law CodecPuts. Items whose lists lie in blocks of a set; a row of such items that a call itself makes. codec.List of items whose blocks lie from a place on: what it gives lies there too. Items of numbers: how the program turns them. The walk of ids.Item. The reader of bytes: what its two cells hold; how it moves on. The walks of its methods number and room. A record, opened; rec.Same, rec.GoesOn, rec.bare. The walk of stonecropref06.Great. -/
import Derived.Test.YtlolnakeancenaaDoorShimApartQ9
import Derived.Test.YtlolnakeancenaaDoorShimApartQ0
import Derived.Test.YtlolnakeancenaaDoorShimApartQ1
import Derived.Test.YtlolnakeancenaaDoorShimApartQ8
import Derived.Defers
import Derived.Recover
import Derived.Lib.BufferMore
import Derived.WalkKit
import Derived.WalkSpells
import Derived.WalkLawsBesides
import Derived.Deep.RegionHeld3
import Derived.Deep.DrawnRows
import Derived.Deep.DeepCutAuto
import Derived.Deep.DeepFit
import Derived.Lib.Hide
import Derived.BigQuiet
import Derived.Deep.QuietTactic
import Derived.Laws.BytesArg
import Derived.Laws.IdiomStrings
namespace Go.Proofs.YtlolnakeancenaaDoor
open Go.RowKit
set_option linter.unusedVariables false
set_option linter.unusedSimpArgs false
set_option maxRecDepth 20000
attribute [local go_sem ↓] Go.wp_at_zero Go.wp_at_succ
attribute [local go_sem] World.cell?_alloc_some frozen_alloc_some
attribute [local go_sem] lt2 lt3 lt4 lt5
attribute [local simp] lt2 lt3 lt4 lt5
@[go_sem] theorem as_nn (v:Value) (w:World):(Instr.typeAssert (.iface 22 v) 20 22 true).run Tryd.prog w= .ok (.tuple #[v,.bool true]) w:=by kernel_rfl
@[go_sem] theorem as_sn (v:Value) (w:World):(Instr.typeAssert (.iface 9 v) 20 22 true).run Tryd.prog w= .ok (.tuple #[.int .u64 0,.bool false]) w:=by kernel_rfl
@[go_sem] theorem as_ss (v:Value) (w:World):(Instr.typeAssert (.iface 9 v) 20 9 true).run Tryd.prog w= .ok (.tuple #[v,.bool true]) w:=by kernel_rfl
@[go_sem] theorem as_ln (v:Value) (w:World):(Instr.typeAssert (.iface 128 v) 20 22 true).run Tryd.prog w= .ok (.tuple #[.int .u64 0,.bool false]) w:=by kernel_rfl
@[go_sem] theorem as_ls (v:Value) (w:World):(Instr.typeAssert (.iface 128 v) 20 9 true).run Tryd.prog w= .ok (.tuple #[.string ByteArray.empty,.bool false]) w:=by kernel_rfl
@[go_sem] theorem as_ll (v:Value) (w:World):(Instr.typeAssert (.iface 128 v) 20 128 false).run Tryd.prog w= .ok v w:=by kernel_rfl
theorem tforms_take_len (l:List Tree) (j:Nat):(tforms (l.take j)).length≤(tforms l).length:=by
 conv=>rhs;rw [←List.take_append_drop j l,tforms_append]
 simp
theorem Tall.fit {w:World} {S:Nat→Prop} {t:Tree} {v:Value} (h:Tall w S t v):Fit t:=by
 induction h with
 |num n hn=>exact .mk 0 n _ _ hn (by decide) (by decide) (fun t ht=>by cases ht)
 |text s hs=>exact .mk 1 0 s _ (by decide) (by unfold maxLen at hs;omega) (by decide) (fun t ht=>by cases ht)
 |list l A m c vs hm hmc hc hcell hsub ih=>
  refine .mk 2 0 _ l (by decide) (by decide) (by unfold maxLen at hc;omega) fun t ht=>?_
  obtain ⟨i,hi,rfl⟩:=List.mem_iff_getElem.1 ht
  exact ih i _ (List.getElem?_eq_getElem hi)
set_option maxHeartbeats 4000000 in
theorem lay_num (n:Nat) (b:Value) (L:List Nat) (base:Nat) (w:World) (hn:n<2 ^ 64) (hb:OwnB w base 5 b L) (hbase:base≤w.heap.size) (hL:L.length≤900000000):
  Calls Tryd.prog 46 #[b,.iface 22 (.int .u64 (n:Int))] w (Appends w base 5 b L (0 :: form n)):=by
 obtain ⟨i0,hi,hz0,hz1,hz2⟩:=info_parts info_u8
 have honto:=Onto.refl hb
 have hown0:=(hb.keep (below_one (.cells #[.int .u8 ((0:Nat):Int)] 5))).1
 have hsrc:Src (w.alloc (.cells #[.int .u8 ((0:Nat):Int)] 5)) 1 (some ⟨w.heap.size,0,none⟩) 1 [.int .u8 ((0:Nat):Int)]:=src_one rfl
 go_enter Tryd.func46,Tryd.ntmps46
 go_wp2_with (at_builtin;go_loud (refine wpList_app _ rfl (.tmp 14) (.tmp 15) 28 rfl _ 5 i0 _ 1 1 Tryd.underlying28 hi hz0 hz1 hz2 rfl (by omega) _ _ _ rfl hown0 _ _ _ _ rfl hsrc ?h63 ?hby ?hbase ?_);(case h63=>(unfold maxLen;first|omega|(simp;done)|(simp;omega)));(case hby=>first|omega|(simp;done)|(simp;omega));(case hbase=>first|omega|(simp;done)|(simp;omega));intro v2 w2 hownw2 hgroww2 hatw2 holdw2)
 have hon:=onto_one honto (by omega) hownw2 hgroww2 hatw2 holdw2
 refine (put_any _ _ base n w2 hon.own (Nat.le_trans hbase hon.grown.size) (by simp;omega) hn).mono ?_
 intro e w3 hp
 obtain ⟨b3,rfl,hon3,_⟩:=hon.appends hp
 go_wp2_with fail
 go_ret
 exact ⟨_,rfl,by simpa using hon3⟩
set_option maxHeartbeats 4000000 in
theorem lay_text (s:ByteArray) (b:Value) (L:List Nat) (base:Nat) (w:World) (hb:OwnB w base 5 b L) (hbase:base≤w.heap.size) (hL:L.length+s.size≤900000000):
  Calls Tryd.prog 46 #[b,.iface 9 (.string s)] w (Appends w base 5 b L (1 :: (form s.size++txt s))):=by
 obtain ⟨i0,hi,hz0,hz1,hz2⟩:=info_parts info_u8
 have honto:=Onto.refl hb
 have hown0:=(hb.keep (below_one (.cells #[.int .u8 ((1:Nat):Int)] 5))).1
 have hsrc:Src (w.alloc (.cells #[.int .u8 ((1:Nat):Int)] 5)) 1 (some ⟨w.heap.size,0,none⟩) 1 [.int .u8 ((1:Nat):Int)]:=src_one rfl
 have hF:=form_len (v:=s.size) (by omega)
 have hc1:IntKind.u64.wrap (s.size:Int)=(s.size:Int):=by rw [wrap_u64];omega
 go_enter Tryd.func46,Tryd.ntmps46
 go_wp2_with (at_builtin;go_loud (refine wpList_app _ rfl (.tmp 22) (.tmp 23) 28 rfl _ 5 i0 _ 1 1 Tryd.underlying28 hi hz0 hz1 hz2 rfl (by omega) _ _ _ rfl hown0 _ _ _ _ rfl hsrc ?h63 ?hby ?hbase ?_);(case h63=>(unfold maxLen;first|omega|(simp;done)|(simp;omega)));(case hby=>first|omega|(simp;done)|(simp;omega));(case hbase=>first|omega|(simp;done)|(simp;omega));intro v2 w2 hownw2 hgroww2 hatw2 holdw2)
 have hon:=onto_one honto (by omega) hownw2 hgroww2 hatw2 holdw2
 have hg2:=hon.grown.size
 refine (put_any _ _ base s.size w2 hon.own (Nat.le_trans hbase hg2) (by simp;omega) (by omega)).mono ?_
 intro e w3 hp
 obtain ⟨b3,rfl,hon3,_⟩:=hon.appends hp
 have hg3:=hon3.grown.size
 have hLen:(L++ [1]++form s.size).length≤L.length+10:=by simp;omega
 generalize hY:L++ [1]++form s.size=Y at*
 have HY:=Lib.hid hY
 clear hY hon hp
 go_wp2_with (at_builtin;go_loud (refine wpList_app_text rfl (.tmp 28) (.tmp 29) 28 9 rfl _ 5 i0 Tryd.underlying28 Tryd.underlying9 hi hz0 hz1 hz2 _ _ rfl hon3.own.1 _ rfl ?h63 ?hby ?hbase ?_);(case h63=>(unfold maxLen;first|omega|(simp;done)|(simp;omega)));(case hby=>first|omega|(simp;done)|(simp;omega));(case hbase=>first|omega|(simp;done)|(simp;omega));intro v4 w4 hownw4 hgroww4 hatw4 holdw4)
 go_ret
 have h4:=hon3.step (m:=txt s) hownw4 (txt_lt s) hgroww4 hatw4 holdw4
 rw [←HY.out] at h4
 exact ⟨_,rfl,by simpa using h4⟩
set_option maxHeartbeats 8000000 in
theorem lay_list (l:List Tree) (u b:Value) (L:List Nat) (base:Nat) (S:Nat→Prop) (w:World) (ht:Tall w S (.mk 2 0 ByteArray.empty l) u) (hS:∀x,S x→some x≠b.ownBlock)
  (hb:OwnB w base 5 b L) (hbase:base≤w.heap.size) (hL:L.length+(form l.length).length+(tforms l).length≤900000000)
  (ih:∀t∈l,∀(u b:Value) (L:List Nat) (S:Nat→Prop) (w:World),Tall w S t u→(∀x,S x→some x≠b.ownBlock)→OwnB w base 5 b L→base≤w.heap.size→L.length+(tform t).length≤900000001→
   Calls Tryd.prog 46 #[b,u] w (Appends w base 5 b L (tform t))):
  Calls Tryd.prog 46 #[b,u] w (Appends w base 5 b L (2 :: (form l.length++tforms l))):=by
 obtain ⟨i0,hi,hz0,hz1,hz2⟩:=info_parts info_u8
 obtain ⟨A,m,c,vs,rfl,hm,hmc,hc,hcell,hsub⟩:∃(A:Option Addr) (m c:Nat) (vs:Nat→Value),u= .iface 128 (.slice A m c)∧m=l.length∧m≤c∧c≤maxLen∧
   (∀i,i<m→∃b o,A=some ⟨b,o,none⟩∧S b∧w.cell? ⟨b,o+i,none⟩=some (vs i))∧∀(i:Nat) (t:Tree),l[i]? =some t→Tall w S t (vs i):=by
  cases ht with
  |list l A m c vs hm hmc hc hcell hsub=>exact ⟨A,m,c,vs,rfl,hm,hmc,hc,hcell,hsub⟩
 have honto:=Onto.refl hb
 have hown0:=(hb.keep (below_one (.cells #[.int .u8 ((2:Nat):Int)] 5))).1
 have hsrc:Src (w.alloc (.cells #[.int .u8 ((2:Nat):Int)] 5)) 1 (some ⟨w.heap.size,0,none⟩) 1 [.int .u8 ((2:Nat):Int)]:=src_one rfl
 have hml:m≤9223372036854775807:=by unfold maxLen at hc;omega
 have hc1:IntKind.u64.wrap (m:Int)=(m:Int):=by rw [wrap_u64];omega
 have hput:=put_any (base:=base) (v:=m)
 rw [hm] at hput
 have Hput:=Lib.hid hput
 have Hm:=Lib.hid hm
 have Hcell:=Lib.hid hcell
 have Hsub:=Lib.hid hsub
 have Ih:=Lib.hid ih
 have HS:=Lib.hid hS
 have htl:=fun j=>tforms_take_len l j
 have Htl:=Lib.hid htl
 clear hm hcell hsub ih hS ht hput htl
 go_enter Tryd.func46,Tryd.ntmps46
 go_wp2_with (at_builtin;go_loud (refine wpList_app _ rfl (.tmp 33) (.tmp 34) 28 rfl _ 5 i0 _ 1 1 Tryd.underlying28 hi hz0 hz1 hz2 rfl (by omega) _ _ _ rfl hown0 _ _ _ _ rfl hsrc ?h63 ?hby ?hbase ?_);(case h63=>(unfold maxLen;first|omega|(simp;done)|(simp;omega)));(case hby=>first|omega|(simp;done)|(simp;omega));(case hbase=>first|omega|(simp;done)|(simp;omega));intro v2 w2 hownw2 hgroww2 hatw2 holdw2)
 have hon:=onto_one honto (by omega) hownw2 hgroww2 hatw2 holdw2
 have hg2:=hon.grown.size
 have Hm2:(m:Int)=((l.length:Nat):Int):=by rw [Hm.out]
 refine Calls.mono (R:=Appends w2 base 5 v2 (L++ [2]) (form l.length)) (by have:=Hput.out v2 (L++ [2]) w2 hon.own (Nat.le_trans hbase hg2) (by simp;omega) (by have:=Hm.out;omega);rw [←Hm2] at this;exact this) ?_
 intro e w3 hp
 obtain ⟨b3,rfl,hon3,_⟩:=hon.appends hp
 clear hon hp
 go_wp2_with fail
 go_loopw [0,42] (fun s0 s42 wr=>∃j:Nat,j≤m∧s42= .int .i64 j∧Onto w base 5 b L wr s0 (L++ [2]++form l.length++tforms (l.take j))) (fun _ s42 _=>m - (intOf s42).toNat)
 case atStart=>exact ⟨0,by omega,rfl,by simpa [tforms] using hon3⟩
 case round=>
  obtain ⟨j,hj,rfl,hon⟩:=hrel
  have hgr:=hon.grown.size
  by_cases hlt:j<m
  ·have hjl:j<l.length:=by have:=Hm.out;omega
   obtain ⟨g,o,rfl,hSg,hca⟩:=Hcell.out j hlt
   have hu:=Hsub.out j _ (List.getElem?_eq_getElem hjl)
   have hu2:=(hu.there.grown hon.grown fun x hx=>HS.out x hx.1)
   have hcr:wr.cell? ⟨g,o+j,none⟩=some (vs j):=by
    rw [←hca]
    exact World.cell?_of_block (w:=w) (hon.grown.block g (World.block_lt_of_cell? _ _ hca) (HS.out g hSg))
   have j0:(0:Int)≤(j:Int):=by omega
   have j1:(j:Int)<(m:Int):=by omega
   have htk:=tforms_take (List.getElem?_eq_getElem hjl)
   have Htk:=Lib.hid htk
   have hlen:=Htl.out (j+1)
   rw [htk,List.length_append] at hlen
   have hne:∀x,(S x∧x<w.heap.size)→some x≠Value.ownBlock _:=fun x hx=>show some x≠Value.ownBlock _ from by
    rcases hon.place with e|⟨k,e,hk⟩
    ·rw [e];exact HS.out x hx.1
    ·rw [e];intro h;injection h;omega
   have hcall:=Ih.out l[j] (List.getElem_mem hjl) (vs j) _ _ _ wr hu2 hne hon.own (Nat.le_trans hbase hgr) (by simp;omega)
   have Hon:=Lib.hid hon
   clear htk hu hu2 hon hne
   go_wp2_with fail
   refine hcall.mono ?_
   intro e w4 hp
   obtain ⟨b4,rfl,hon4,_⟩:=Hon.out.appends hp
   have Hon4:=Lib.hid hon4
   clear hp hon4
   go_wp2_with fail
   go_roundw
   case rel=>exact ⟨j+1,by omega,by go_num,by rw [Htk.out,←List.append_assoc];exact Hon4.out⟩
   case measure=>simp [intOf];omega
  ·have hall:l.take j=l:=List.take_of_length_le (by have:=Hm.out;omega)
   rw [hall] at hon
   go_wp2_with fail
   go_ret
   exact ⟨_,rfl,by simpa using hon⟩
theorem lay_any (t : Tree) (base : Nat) : ∀ (u b : Value) (L : List Nat) (S : Nat → Prop) (w : World), Tall w S t u → (∀ x, S x → some x ≠ b.ownBlock) → OwnB w base 5 b L → base ≤ w.heap.size → L.length + (tform t).length ≤ 900000001 →
   Calls Tryd.prog 46 #[b,u] w (Appends w base 5 b L (tform t)):=by
 refine Tree.ind (P:=fun t=>∀(u b:Value) (L:List Nat) (S:Nat→Prop) (w:World),Tall w S t u→(∀x,S x→some x≠b.ownBlock)→OwnB w base 5 b L→base≤w.heap.size→L.length+(tform t).length≤900000001→
   Calls Tryd.prog 46 #[b,u] w (Appends w base 5 b L (tform t))) ?_ t
 intro k n s l ih u b L S w ht hS hb hbase hL
 have ht2:=ht
 cases ht with
 |num n hn=>
  simp [tform] at hL ⊢
  exact lay_num n b L base w hn hb hbase (by omega)
 |text s hs=>
  simp [tform] at hL ⊢
  exact lay_text s b L base w hb hbase (by rw [txt_length] at hL;omega)
 |list l A m c vs hm hmc hc hcell hsub=>
  simp [tform] at hL ⊢
  exact lay_list l _ b L base S w ht2 hS hb hbase (by omega) ih
end Go.Proofs.YtlolnakeancenaaDoor
namespace Go.Proofs.YtlolnakeancenaaDoor
open Go.RowKit
set_option linter.unusedVariables false
set_option linter.unusedSimpArgs false
set_option maxRecDepth 20000
attribute [local go_sem ↓] Go.wp_at_zero Go.wp_at_succ
attribute [local go_sem] World.cell?_alloc_some frozen_alloc_some
attribute [local go_sem] lt2 lt3 lt4 lt5
attribute [local simp] lt2 lt3 lt4 lt5
@[go_sem] theorem as_ff (v:Value) (w:World):(Instr.typeAssert (.iface 126 v) 20 126 true).run Tryd.prog w= .ok (.tuple #[v,.bool true]) w:=by kernel_rfl
set_option maxHeartbeats 1000000 in
theorem caught_idle (p q:Addr) (w:World):
  CallsD Tryd.prog 45 #[.pointer (some p),.pointer (some q)] .returning w fun e u' w'=>e= .returned (.tuple #[])∧u'= .returning∧w'=w:=by
 refine callsD_of_wpS Tryd.func45 rfl fun c₀ cs hu=>?_
 simp only [Tryd.ntmps45,List.size_toArray,List.length_cons,List.length_nil,Nat.reduceAdd,Nat.reduceSub,Array.replicate_succ,Array.replicate_zero,List.push_toArray,List.append_toArray,List.nil_append,List.cons_append]
 apply wpS_seq
 apply wpS_region
 simp [wpOpsS,go_sem,recoverD,hu,Exit.thenS]
 refine wpS_of_wp ?_
 go_wp2_with fail
 cases c₀
 simp_all [bodyPostS,results,Tryd.results45]
set_option maxHeartbeats 4000000 in
theorem caught_fault (p q:Nat) (e0 a0 e a:Int) (w:World) (hp:w.cell? ⟨p,0,none⟩=some (.int .i64 e0)) (hq:w.cell? ⟨q,0,none⟩=some (.int .i64 a0)) (fp:w.frozen? ⟨p,0,none⟩=false) (fq:w.frozen? ⟨q,0,none⟩=false) (hpq:p≠q):
  CallsD Tryd.prog 45 #[.pointer (some ⟨p,0,none⟩),.pointer (some ⟨q,0,none⟩)] (.panicking [{ v:=.iface 126 (.agg #[.int .i64 e,.int .i64 a]),recovered:=false }]) w
   fun r u' w'=>r= .returned (.tuple #[])∧u'= .panicking [{ v:=.iface 126 (.agg #[.int .i64 e,.int .i64 a]),recovered:=true }]∧w'.cell? ⟨p,0,none⟩=some (.int .i64 e)∧w'.cell? ⟨q,0,none⟩=some (.int .i64 a)∧∀B,B≤p→B≤q→Below B w w':=by
 refine callsD_of_wpS Tryd.func45 rfl fun c₀ cs hu=>?_
 simp only [Tryd.ntmps45,List.size_toArray,List.length_cons,List.length_nil,Nat.reduceAdd,Nat.reduceSub,Array.replicate_succ,Array.replicate_zero,List.push_toArray,List.append_toArray,List.nil_append,List.cons_append]
 apply wpS_seq
 apply wpS_region
 simp [wpOpsS,go_sem,recoverD,hu,Exit.thenS]
 refine wpS_of_wp ?_
 have lp:p<w.heap.size:=World.block_lt_of_cell? _ _ hp
 have lq:q<w.heap.size:=World.block_lt_of_cell? _ _ hq
 have np:p≠w.heap.size:=by omega
 have nq:q≠w.heap.size:=by omega
 have hqp:q≠p:=Ne.symm hpq
 have hp1:=cell_alloc (o:=.cells #[.int .i64 e,.int .i64 a] 126) hp
 have hq1:=cell_alloc (o:=.cells #[.int .i64 e,.int .i64 a] 126) hq
 have fp1:=frozen_alloc (o:=.cells #[.int .i64 e,.int .i64 a] 126) hp fp
 have fq1:=frozen_alloc (o:=.cells #[.int .i64 e,.int .i64 a] 126) hq fq
 go_wp2_with fail
 go_region
 have k1:((((w.setCell ⟨p,0,none⟩ (.int .i64 e)).setCell ⟨q,0,none⟩ (.int .i64 a)).alloc (.cells #[.int .i64 e,.int .i64 a] 126)).drew).cell? ⟨p,0,none⟩=some (.int .i64 e):=by
  rw [World.cell?_drew]
  exact cell_alloc (cell_far (by simp [go_sem, *]) hqp)
 have k2:((((w.setCell ⟨p,0,none⟩ (.int .i64 e)).setCell ⟨q,0,none⟩ (.int .i64 a)).alloc (.cells #[.int .i64 e,.int .i64 a] 126)).drew).cell? ⟨q,0,none⟩=some (.int .i64 a):=by
  rw [World.cell?_drew]
  exact cell_alloc (by simp [go_sem, *])
 have k3:∀B,B≤p→B≤q→Below B w ((((w.setCell ⟨p,0,none⟩ (.int .i64 e)).setCell ⟨q,0,none⟩ (.int .i64 a)).alloc (.cells #[.int .i64 e,.int .i64 a] 126)).drew):=fun B h1 h2=>
  (((Below.refl B w).setCell h1 _).setCell h2 _).alloc (by simp;omega) _ |>.drew
 exact ⟨rfl,_,rfl,_,results_none rfl _ _ _,rfl,rfl,k1,k2,k3⟩
end Go.Proofs.YtlolnakeancenaaDoor
namespace Go.Proofs.YtlolnakeancenaaDoor
open Go.RowKit
set_option linter.unusedVariables false
set_option linter.unusedSimpArgs false
set_option maxRecDepth 20000
attribute [local go_sem ↓] Go.wp_at_zero Go.wp_at_succ
attribute [local go_sem] World.cell?_alloc_some frozen_alloc_some
attribute [local go_sem] lt2 lt3 lt4 lt5
attribute [local simp] lt2 lt3 lt4 lt5
theorem tree_any (t:Tree):∀(d:Nat) (v:Value) (w:World),d≤16→tsize t≤10000000→Holds w t v→
  Calls Tryd.prog 47 #[v,.int .i64 (d:Int)] w (Treed w t (check t d)):=by
 refine Tree.ind (P:=fun t=>∀(d:Nat) (v:Value) (w:World),d≤16→tsize t≤10000000→Holds w t v→Calls Tryd.prog 47 #[v,.int .i64 (d:Int)] w (Treed w t (check t d))) ?_ t
 intro k n s l ih d v w hd hsz ht
 simp only [tsize] at hsz
 simp only [check]
 cases hb:bad k n s l with
 |true=>rw [if_pos rfl];exact tree_bad k n s l v d w ht hb
 |false=>
 rw [if_neg (by simp)]
 by_cases h16:d=16
 ·rw [if_pos h16]
  subst h16
  exact tree_deep k n s l v w ht hb
 rw [if_neg h16]
 rcases bad_parts hb with ⟨rfl,rfl,rfl⟩|⟨rfl,rfl,rfl⟩|⟨rfl,rfl,rfl⟩
 ·exact tree_num n d v w ht (by omega)
 ·exact tree_text s d v w ht (by omega)
 ·exact tree_list l d v w ht (by omega) (by omega) fun t hm v w hh=>ih t hm (d+1) v w (by omega) (by have:=tsizes_mem hm;omega) hh
set_option maxHeartbeats 8000000 in
theorem put3_bad (t:Tree) (v:Value) (w:World) (hsz:tsize t≤10000000) (ht:Holds w t v) (hne:check t 0≠0):
  Calls Tryd.prog 26 #[v] w (Puts w .i64 5 [] (check t 0)):=by
 have htr:∀W,Below w.heap.size w W→Calls Tryd.prog 47 #[v,.int .i64 0] W (Treed W t (check t 0)):=fun W h=>tree_any t 0 v W (by omega) hsz (ht.keep h)
 obtain ⟨k,n,s,l⟩:=t
 obtain ⟨A,m,c,rfl,hk,hn,hs,hm,hmc,hc,hel⟩:=ht.open_
 clear hel hm ht hsz
 generalize check (.mk k n s l) 0=E at*
 go_enter_defers Tryd.func26,Tryd.ntmps26
 go_wp2_with fail
 refine (htr _ (blw)).mono ?_
 rintro e w1 ⟨hbw1,⟨h0,x,rfl,hx⟩|⟨h0,rfl⟩⟩
 ·exact absurd h0 hne
 have hp:=cell_keep hbw1 (show World.cell? _ ⟨w.heap.size+1,0,none⟩=some (.int .i64 0) by simp [go_sem])
 have hq:=cell_keep hbw1 (show World.cell? _ ⟨w.heap.size+1+1,0,none⟩=some (.int .i64 0) by simp [go_sem])
 have fp:=frozen_keep (b:=false) hbw1 (show World.cell? _ ⟨w.heap.size+1,0,none⟩=some (.int .i64 0) by simp [go_sem]) (by simp [go_sem])
 have fq:=frozen_keep (b:=false) hbw1 (show World.cell? _ ⟨w.heap.size+1+1,0,none⟩=some (.int .i64 0) by simp [go_sem]) (by simp [go_sem])
 have hbw:Below w.heap.size w w1:=blw
 refine leaves_cons (f:=45) (args:=#[.pointer (some ⟨w.heap.size+1,0,none⟩),.pointer (some ⟨w.heap.size+1+1,0,none⟩)]) (by simp) (by simp [go_sem]) ?_
 refine (caught_fault (w.heap.size+1) (w.heap.size+1+1) 0 0 E 0 w1 hp hq fp fq (by omega)).mono ?_
 rintro e u' w2 ⟨rfl,rfl,k1,k2,k3⟩
 have hb2:=hbw.trans (k3 w.heap.size (by omega) (by omega))
 simp [Leaves,settle,results,Tryd.results26,go_sem,k1]
 exact ⟨_,rfl,OwnB.nil_ _ _ _,hb2⟩
set_option maxHeartbeats 8000000 in
theorem put3_good (t:Tree) (v:Value) (w:World) (hsz:tsize t≤10000000) (ht:Holds w t v) (h0:check t 0=0):
  Calls Tryd.prog 26 #[v] w (Puts w .i64 5 (if 1048576<(tform t).length then [] else tform t) (if 1048576<(tform t).length then 12 else 0)):=by
 have htr:∀W,Below w.heap.size w W→Calls Tryd.prog 47 #[v,.int .i64 0] W (Treed W t (check t 0)):=fun W h=>tree_any t 0 v W (by omega) hsz (ht.keep h)
 have hly:=lay_any t
 have hlen:=tform_len t ht.fit
 rw [h0] at htr
 obtain ⟨k,n,s,l⟩:=t
 obtain ⟨A,m,c,rfl,hk,hn,hs,hm,hmc,hc,hel⟩:=ht.open_
 clear hel hm ht h0
 generalize hF:tform (.mk k n s l)=F at*
 clear hF
 by_cases hbig:1048576<F.length
 ·have hbig':(1048576:Int)<(F.length:Int):=by omega
  rw [if_pos hbig,if_pos hbig]
  go_enter_defers Tryd.func26,Tryd.ntmps26
  go_wp2_with fail
  refine (htr _ (blw)).mono ?_
  rintro e w1 ⟨hbw1,hor⟩
  rcases hor.symm with ⟨h0,rfl⟩|⟨h0,x,rfl,hx⟩
  ·exact absurd rfl h0
  have Hx:=Lib.hid hx
  clear hx hor
  have hz1:=hbw1.size
  simp at hz1
  go_wp2_with fail
  refine (hly w1.heap.size x (.slice none 0 0) [] _ w1 Hx.out (fun b _ h=>by simp [Value.ownBlock] at h) (OwnB.nil_ _ _ _) (Nat.le_refl _) (by simp;omega)).mono ?_
  rintro e w2 ⟨b2,rfl,hon⟩
  have hown:=hon.own
  rw [List.nil_append] at hown
  have hbw2:Below w1.heap.size w1 w2:=hon.below (Below.refl _ _) (Nat.le_refl _) (Nat.le_refl _) (OwnB.nil_ _ _ _)
  have hz2:=hbw2.size
  obtain ⟨A2,c2,rfl,_,_⟩:=hown.form
  have hp1:=cell_keep hbw1 (show World.cell? _ ⟨w.heap.size+1,0,none⟩=some (.int .i64 0) by simp [go_sem])
  have fp1:=frozen_keep (b:=false) hbw1 (show World.cell? _ ⟨w.heap.size+1,0,none⟩=some (.int .i64 0) by simp [go_sem]) (by simp [go_sem])
  have hp:=cell_keep hbw2 hp1
  have fp:=frozen_keep hbw2 hp1 fp1
  have hbw:Below w.heap.size w w2:=blw
  clear hp1 fp1 hon htr hly
  go_wp2_with fail
  refine leaves_cons (f:=45) (args:=#[.pointer (some ⟨w.heap.size+1,0,none⟩),.pointer (some ⟨w.heap.size+1+1,0,none⟩)]) (by simp) (by simp [go_sem]) ?_
  refine (caught_idle _ _ _).mono ?_
  rintro e u' w3 ⟨rfl,rfl,rfl⟩
  have hp3:=World.cell?_setCell_same' w2 ⟨w.heap.size+1,0,none⟩ (.int .i64 12) (by simp [hp])
  simp [Leaves,settle,results,Tryd.results26,go_sem,hp3]
  exact ⟨_,rfl,OwnB.nil_ _ _ _,blw⟩
 ·have hbig':¬(1048576:Int)<(F.length:Int):=by omega
  rw [if_neg hbig,if_neg hbig]
  go_enter_defers Tryd.func26,Tryd.ntmps26
  go_wp2_with fail
  refine (htr _ (blw)).mono ?_
  rintro e w1 ⟨hbw1,hor⟩
  rcases hor.symm with ⟨h0,rfl⟩|⟨h0,x,rfl,hx⟩
  ·exact absurd rfl h0
  have Hx:=Lib.hid hx
  clear hx hor
  have hz1:=hbw1.size
  simp at hz1
  go_wp2_with fail
  refine (hly w1.heap.size x (.slice none 0 0) [] _ w1 Hx.out (fun b _ h=>by simp [Value.ownBlock] at h) (OwnB.nil_ _ _ _) (Nat.le_refl _) (by simp;omega)).mono ?_
  rintro e w2 ⟨b2,rfl,hon⟩
  have hown:=hon.own
  rw [List.nil_append] at hown
  have hbw2:Below w1.heap.size w1 w2:=hon.below (Below.refl _ _) (Nat.le_refl _) (Nat.le_refl _) (OwnB.nil_ _ _ _)
  have hz2:=hbw2.size
  obtain ⟨A2,c2,rfl,_,_⟩:=hown.form
  have hp1:=cell_keep hbw1 (show World.cell? _ ⟨w.heap.size+1,0,none⟩=some (.int .i64 0) by simp [go_sem])
  have fp1:=frozen_keep (b:=false) hbw1 (show World.cell? _ ⟨w.heap.size+1,0,none⟩=some (.int .i64 0) by simp [go_sem]) (by simp [go_sem])
  have hp:=cell_keep hbw2 hp1
  have fp:=frozen_keep hbw2 hp1 fp1
  have hbw:Below w.heap.size w w2:=blw
  clear hp1 fp1 hon htr hly
  go_wp2_with fail
  refine leaves_cons (f:=45) (args:=#[.pointer (some ⟨w.heap.size+1,0,none⟩),.pointer (some ⟨w.heap.size+1+1,0,none⟩)]) (by simp) (by simp [go_sem]) ?_
  refine (caught_idle _ _ _).mono ?_
  rintro e u' w3 ⟨rfl,rfl,rfl⟩
  have hp3:=World.cell?_setCell_same' w2 ⟨w.heap.size+1,0,none⟩ (.int .i64 0) (by simp [hp])
  simp [Leaves,settle,results,Tryd.results26,go_sem,hp3]
  have hown':OwnB (w2.setCell ⟨w.heap.size+1,0,none⟩ (.int .i64 0)) w1.heap.size 5 (.slice A2 F.length c2) F:=⟨ownsRow_setCell_below hown.1 (by simp;omega) _,hown.2⟩
  exact ⟨_,rfl,hown'.lower (by omega),blw⟩
theorem put3_any (t:Tree) (v:Value) (w:World) (hsz:tsize t≤10000000) (ht:Holds w t v):
  Calls Tryd.prog 26 #[v] w (Puts w .i64 5 (pform t) (perr t)):=by
 by_cases h0:check t 0=0
 ·have hpe:perr t=if 1048576<(tform t).length then 12 else 0:=by simp [perr,h0]
  have hpf:pform t=if 1048576<(tform t).length then [] else tform t:=by
   unfold pform;rw [hpe];by_cases hl:1048576<(tform t).length
   ·simp [hl]
   ·simp [hl]
  rw [hpe,hpf]
  exact put3_good t v w hsz ht h0
 ·have hpe:perr t=check t 0:=by simp [perr,h0]
  have hpf:pform t=[]:=by simp [pform,hpe,h0]
  rw [hpe,hpf]
  exact put3_bad t v w hsz ht h0
end Go.Proofs.YtlolnakeancenaaDoor
namespace Go.Proofs.YtlolnakeancenaaDoor
open Go.RowKit
set_option linter.unusedVariables false
set_option linter.unusedSimpArgs false
set_option maxRecDepth 20000
attribute [local go_sem ↓] Go.wp_at_zero Go.wp_at_succ
attribute [local go_sem] World.cell?_alloc_some frozen_alloc_some
/-- The slice holds the trees. -/
def Items (w:World) (A:Option Addr) (m c:Nat) (l:List Tree):Prop:=
 m=l.length∧m≤c∧c≤maxLen∧∃vs:Nat→Value,(∀i,i<m→∃ad,A=some ad∧∀j u,(vs i).cells[j]? =some u→w.cell? (ad.add (4*i+j))=some u)∧∀(i:Nat) (t:Tree),l[i]? =some t→Holds w t (vs i)
theorem Items.node {w:World} {A:Option Addr} {m c:Nat} {l:List Tree} (h:Items w A m c l) {k:Int} {n:Nat} {s:ByteArray} (hk:(Lit.int .i64 k).wf=true) (hn:n<2 ^ 64) (hs:s.size≤maxLen):
  Holds w (.mk k n s l) (.agg #[.int .i64 k,.int .u64 (n:Int),.string s,.slice A m c]):=by
 obtain ⟨h1,h2,h3,vs,h4,h5⟩:=h
 exact .mk k n s l A m c vs hk hn hs h1 h2 h3 h4 h5
theorem Holds.items {w:World} {k:Int} {n:Nat} {s:ByteArray} {l:List Tree} {A:Option Addr} {m c:Nat} {kk nn:Int} {ss:ByteArray} (h:Holds w (.mk k n s l) (.agg #[.int .i64 kk,.int .u64 nn,.string ss,.slice A m c])):Items w A m c l:=by
 cases h with
 |mk k n s l A m c vs hk hn hs hm hmc hc hcell hsub=>exact ⟨hm,hmc,hc,vs,hcell,hsub⟩
theorem Items.nil (w:World):Items w none 0 0 []:=⟨rfl,Nat.le_refl _,Nat.zero_le _,fun _=>.nilIface,fun i hi=>absurd hi (by omega),fun i t hi=>by simp at hi⟩
theorem Items.keep {w w':World} (hb:Below w.heap.size w w') {A:Option Addr} {m c:Nat} {l:List Tree} (h:Items w A m c l):Items w' A m c l:=by
 obtain ⟨h1,h2,h3,vs,h4,h5⟩:=h
 exact ⟨h1,h2,h3,vs,fun i hi=>by
  obtain ⟨ad,e,hc⟩:=h4 i hi
  exact ⟨ad,e,fun j u hu=>cell_keep hb (hc j u hu)⟩,fun i t hi=>(h5 i t hi).keep hb⟩
/-- The cells of the first so many. -/
def flat4 (vs:Nat→Value):Nat→List Value
 |0=>[]
 |m+1=>flat4 vs m++(vs m).cells.toList
theorem Holds.four {w:World} {t:Tree} {v:Value} (h:Holds w t v):v.cells.size=4∧∀u∈v.cells.toList,u.oneCell'=true:=by
 cases h with
 |mk k n s l A m c vs hk hn hs hm hmc hc hcell hsub=>
  refine ⟨rfl,fun u hu=>?_⟩
  simp [Value.cells] at hu
  rcases hu with rfl|rfl|rfl|rfl <;> rfl
theorem flat4_length {vs:Nat→Value} {m:Nat} (h:∀i,i<m→(vs i).cells.size=4):(flat4 vs m).length=m*4:=by
 induction m with
 |zero=>rfl
 |succ m ih=>
  have h1:=ih fun i hi=>h i (by omega)
  have h2:=h m (by omega)
  simp only [flat4,List.length_append,h1,Array.length_toList,h2]
  omega
theorem flat4_get {vs:Nat→Value} {m:Nat} (h:∀i,i<m→(vs i).cells.size=4) {i j:Nat} (hi:i<m) (hj:j<4):(flat4 vs m)[4*i+j]? =(vs i).cells[j]? :=by
 induction m with
 |zero=>omega
 |succ m ih=>
  have h0:=flat4_length (fun i hi=>h i (by omega:i<m+1)) (m:=m)
  by_cases him:i<m
  ·simp only [flat4]
   rw [List.getElem?_append_left (by omega)]
   exact ih (fun i hi=>h i (by omega)) him
  ·have:i=m:=by omega
   subst this
   simp only [flat4]
   rw [List.getElem?_append_right (by omega),h0,show 4*i+j - i*4=j by omega,Array.getElem?_toList]
theorem flat4_one {vs:Nat→Value} {m:Nat} (h:∀i,i<m→∀u∈(vs i).cells.toList,u.oneCell'=true):∀u∈flat4 vs m,u.oneCell'=true:=by
 induction m with
 |zero=>intro u hu;cases hu
 |succ m ih=>
  intro u hu
  rcases List.mem_append.1 hu with hu|hu
  ·exact ih (fun i hi=>h i (by omega)) u hu
  ·exact h m (by omega) u hu
/-- A row of its own of items: of the first trees of a list. -/
def RowI (w:World) (base:Nat) (v:Value) (m:Nat) (l:List Tree):Prop:=
 m=l.length∧∃vs:Nat→Value,w.ownsRow base 25 4 v m (flat4 vs m)∧∀(i:Nat) (t:Tree),l[i]? =some t→Holds w t (vs i)
theorem RowI.form {w:World} {base:Nat} {v:Value} {m:Nat} {l:List Tree} (h:RowI w base v m l):∃A c,v= .slice A m c∧m≤c∧c≤maxLen:=by
 obtain ⟨_,vs,hown,_⟩:=h
 rcases hown.2 with ⟨rfl,hl⟩|⟨g,cap,cur,rfl,_,_,hle,hm,_⟩
 ·exact ⟨none,0,by rw [hl],by omega,Nat.zero_le _⟩
 ·exact ⟨_,cap,rfl,hle,hm⟩
theorem RowI.items {w:World} {base:Nat} {A:Option Addr} {m k c:Nat} {l:List Tree} (h:RowI w base (.slice A k c) m l):k=m∧Items w A m c l:=by
 obtain ⟨A',c',e,hmc,hc⟩:=h.form
 injection e with e1 e2 e3
 subst e1 e2 e3
 obtain ⟨hm,vs,hown,hsub⟩:=h
 have h4:∀i,i<k→(vs i).cells.size=4:=fun i hi=>(hsub i l[i] (List.getElem?_eq_getElem (by omega))).four.1
 refine ⟨rfl,hm,hmc,hc,vs,fun i hi=>?_,hsub⟩
 rcases hown.2 with ⟨_,hl⟩|⟨g,cap,cur,hv,_⟩
 ·omega
 ·injection hv with hv _ _
  subst hv
  refine ⟨_,rfl,fun j u hu=>?_⟩
  have hj:j<4:=by
   rw [←h4 i hi]
   exact (Array.getElem?_eq_some_iff.1 hu).1
  refine hown.cells (g:=g) rfl (4*i+j) u ?_
  rw [flat4_get h4 hi hj];exact hu
/-- What a slice of items holds, as the source of an append. -/
theorem Items.src {w:World} {A:Option Addr} {m c:Nat} {l:List Tree} (h:Items w A m c l):∃vs:Nat→Value,Src w 4 A m (flat4 vs m)∧∀(i:Nat) (t:Tree),l[i]? =some t→Holds w t (vs i):=by
 obtain ⟨hm,_,_,vs,hc,hsub⟩:=h
 have h4:∀i,i<m→(vs i).cells.size=4∧∀u∈(vs i).cells.toList,u.oneCell'=true:=fun i hi=>(hsub i l[i] (List.getElem?_eq_getElem (by omega))).four
 refine ⟨vs,⟨flat4_length fun i hi=>(h4 i hi).1,fun q u hq=>?_,flat4_one fun i hi=>(h4 i hi).2⟩,hsub⟩
 have hlen:=flat4_length fun i hi=>(h4 i hi).1
 have hql:q<m*4:=by
  rw [←hlen]
  rcases Nat.lt_or_ge q (flat4 vs m).length with h|h
  ·exact h
  ·rw [List.getElem?_eq_none h] at hq;cases hq
 have hq2:q=4*(q / 4)+q % 4:=by omega
 have hi:q / 4<m:=by omega
 obtain ⟨ad,e,hcell⟩:=hc (q / 4) hi
 refine ⟨ad,e,?_⟩
 rw [hq2] at hq ⊢
 rw [flat4_get (fun i hi=>(h4 i hi).1) hi (by omega)] at hq
 exact hcell _ _ hq
theorem Src.keep {w w':World} {size:Nat} {A:Option Addr} {m:Nat} {news:List Value} (h:Src w size A m news) (hb:Below w.heap.size w w'):Src w' size A m news:=
 ⟨h.1,fun j u hj=>by
  obtain ⟨ad,e,hc⟩:=h.2.1 j u hj
  exact ⟨ad,e,cell_keep hb hc⟩,h.2.2⟩
theorem info_item:∃i,Tryd.prog.info? 25=some i∧i.zero=some (.agg #[.int .i64 0,.int .u64 0,.string ByteArray.empty,.slice none 0 0])∧i.size=4∧i.bytes=56:=by
 have h:(Tryd.prog.info? 25).map (fun i=>(i.zero,i.size,i.bytes))=some (some (.agg #[.int .i64 0,.int .u64 0,.string ByteArray.empty,.slice none 0 0]),4,56):=by kernel_rfl
 cases hi:Tryd.prog.info? 25 with
 |none=>rw [hi] at h;cases h
 |some i=>
  rw [hi] at h
  simp at h
  exact ⟨i,rfl,h.1,h.2.1,h.2.2⟩
attribute [local go_sem] lt2 lt3 lt4 lt5
attribute [local simp] lt2 lt3 lt4 lt5
def numV (n:Nat):Value:=.agg #[.int .i64 0,.int .u64 (n:Int),.string ByteArray.empty,.slice none 0 0]
def textV (s:ByteArray):Value:=.agg #[.int .i64 1,.int .u64 0,.string s,.slice none 0 0]
theorem holds_num (w:World) {n:Nat} (hn:n<2 ^ 64):Holds w (.mk 0 n ByteArray.empty []) (numV n):=(Items.nil w).node (by decide) hn (by decide)
theorem holds_text (w:World) {s:ByteArray} (hs:s.size≤maxLen):Holds w (.mk 1 0 s []) (textV s):=(Items.nil w).node (n:=0) (by decide) (by decide) hs
theorem num_any (n:Nat) (w:World):Calls Tryd.prog 53 #[.int .u64 (n:Int)] w (Gives w (numV n)):=by
 go_enter Tryd.func53,Tryd.ntmps53
 go_wp2_with fail
 refine bodyPost_ret (v:=numV n) (by simp [results,Tryd.results53,go_sem, *,numV] <;> rfl) rfl ?_
 exact ⟨rfl,blw⟩
theorem codectext_any (s:ByteArray) (w:World):Calls Tryd.prog 77 #[.string s] w (Gives w (textV s)):=by
 go_enter Tryd.func77,Tryd.ntmps77
 go_wp2_with fail
 refine bodyPost_ret (v:=textV s) (by simp [results,Tryd.results77,go_sem, *,textV]) rfl ?_
 exact ⟨rfl,blw⟩
/-- A row of items of the call's own; the items' own lists are as they were in w0. -/
def Cloned (w0 w:World) (base:Nat) (v:Value) (m:Nat) (l:List Tree):Prop:=
 m=l.length∧∃vs:Nat→Value,w.ownsRow base 25 4 v m (flat4 vs m)∧∀(i:Nat) (t:Tree),l[i]? =some t→Holds w0 t (vs i)
theorem Cloned.row {w0 w:World} {base:Nat} {v:Value} {m:Nat} {l:List Tree} (h:Cloned w0 w base v m l) (hb:Below w0.heap.size w0 w):RowI w base v m l:=by
 obtain ⟨h1,vs,h2,h3⟩:=h
 exact ⟨h1,vs,h2,fun i t ht=>(h3 i t ht).keep hb⟩
theorem Cloned.set {w0 w:World} {base:Nat} {v:Value} {m:Nat} {l:List Tree} (h:Cloned w0 w base v m l) {p:Addr} (hp:p.block<base) (u:Value):Cloned w0 (w.setCell p u) base v m l:=by
 obtain ⟨h1,vs,h2,h3⟩:=h
 exact ⟨h1,vs,ownsRow_setCell_below h2 hp u,h3⟩
set_option maxHeartbeats 2000000 in
theorem clone_any (ad:Addr) (m c:Nat) (l:List Tree) (w0 w:World) (hb0:Below w0.heap.size w0 w) (h:Items w0 (some ad) m c l) (hm:m≤1000000000):
  Calls Tryd.prog 78 #[.slice (some ad) m c] w (fun e w'=>∃A' c',e= .returned (.slice A' m c')∧Cloned w0 w' w.heap.size (.slice A' m c') m l∧Below w.heap.size w w'):=by
 obtain ⟨i1,hi,hz0,hz1,hz2⟩:=info_item
 have hk:Below w.heap.size w (w.alloc (.cells #[] 25)):=below_one _
 have hml:=Lib.hid h.1
 have hnil:=fun W:World=>Lib.run_eql_slice_some_nil (P:=Tryd.prog) W ad m c Tryd.underlying23
 obtain ⟨vs,hsrc0,hsub⟩:=h.src
 have hsrc:=(hsrc0.keep hb0).keep hk
 have hown:(w.alloc (.cells #[] 25)).ownsRow w.heap.size 25 4 (.slice (some ⟨w.heap.size,0,none⟩) 0 0) 0 []:=World.ownsRow_made w #[] 0 (Nat.le_refl _) (Nat.zero_le _) (by simp)
 go_enter Tryd.func78,Tryd.ntmps78
 go_wp2_with (at_builtin;go_loud (refine wpList_app _ rfl (.tmp 5) (.tmp 6) 23 rfl _ 25 i1 _ 4 56 Tryd.underlying23 hi hz0 hz1 hz2 rfl (by omega) _ _ _ rfl hown _ _ _ _ rfl hsrc ?h63 ?hby ?hbase ?_);(case h63=>(unfold maxLen;first|omega|(simp;done)|(simp;omega)));(case hby=>first|omega|(simp;done)|(simp;omega));(case hbase=>first|omega|(simp;done)|(simp;omega));intro v2 w2 hownw2 hgroww2 hatw2 holdw2)
 have hb2:=below_app hk hown hgroww2 (Nat.le_refl _) (by simp)
 have hcl:Cloned w0 w2 w.heap.size v2 m l:=⟨hml.out,vs,by simpa using hownw2,hsub⟩
 obtain ⟨A2,c2,rfl,_,_⟩:=(hcl.row (below_call hb0 hb2 hb0.size)).form
 go_ret
 exact ⟨_,_,rfl,hcl,hb2⟩
end Go.Proofs.YtlolnakeancenaaDoor
namespace Go.Proofs.YtlolnakeancenaaDoor
open Go.RowKit
set_option linter.unusedVariables false
set_option linter.unusedSimpArgs false
set_option maxRecDepth 20000
attribute [local go_sem ↓] Go.wp_at_zero Go.wp_at_succ
attribute [local go_sem] World.cell?_alloc_some frozen_alloc_some
attribute [local go_sem] lt2 lt3 lt4 lt5
attribute [local simp] lt2 lt3 lt4 lt5
theorem items_block {w:World} {g m:Nat} {e:TypeId} {fr:Nat × Nat} {vs:Nat→Value} {l:List Tree} (hb:w.heap[g]? =some (.cells (flat4 vs m).toArray e fr)) (hm:m=l.length) (hmm:m≤maxLen)
  (h:∀(i:Nat) (t:Tree),l[i]? =some t→Holds w t (vs i)):Items w (some ⟨g,0,none⟩) m m l:=
 ⟨hm,Nat.le_refl _,hmm,vs,fun i hi=>⟨_,rfl,fun j u hu=>by
  have h4:∀i,i<m→(vs i).cells.size=4:=fun i hi=>(h i l[i] (List.getElem?_eq_getElem (by omega))).four.1
  have hj:j<4:=by rw [←h4 i hi];exact (Array.getElem?_eq_some_iff.1 hu).1
  have hadd:(⟨g,0,none⟩:Addr).add (4*i+j)=⟨g,4*i+j,none⟩:=by unfold Addr.add;split <;> simp_all
  rw [hadd,cell_of_row w g _ _ e fr hb,List.getElem?_toArray,flat4_get h4 hi hj]
  exact hu⟩,h⟩
theorem Puts.below {w w':World} {k:IntKind} {e:TypeId} {l:List Nat} {err:Nat} {r:Ending} (h:Puts w k e l err r w'):Below w.heap.size w w':=by
 obtain ⟨v,_,_,hb⟩:=h;exact hb
end Go.Proofs.YtlolnakeancenaaDoor
namespace Go.Proofs.YtlolnakeancenaaDoor
open Go.RowKit
set_option linter.unusedVariables false
set_option linter.unusedSimpArgs false
set_option maxRecDepth 20000
attribute [local go_sem ↓] Go.wp_at_zero Go.wp_at_succ
attribute [local go_sem] World.cell?_alloc_some frozen_alloc_some
/-- The value is the tree; all that lies behind it lies in blocks of S. -/
inductive HoldsIn (w:World) (S:Nat→Prop):Tree→Value→Prop
 |mk (k:Int) (n:Nat) (s:ByteArray) (l:List Tree) (A:Option Addr) (m c:Nat) (vs:Nat→Value)
  (hk:(Lit.int .i64 k).wf=true) (hn:n<2 ^ 64) (hs:s.size≤maxLen) (hm:m=l.length) (hmc:m≤c) (hc:c≤maxLen)
  (hcell:∀i,i<m→∃b o,A=some ⟨b,o,none⟩∧S b∧∀j u,(vs i).cells[j]? =some u→w.cell? ⟨b,o+(4*i+j),none⟩=some u)
  (hsub:∀i t,l[i]? =some t→HoldsIn w S t (vs i)):
  HoldsIn w S (.mk k n s l) (.agg #[.int .i64 k,.int .u64 (n:Int),.string s,.slice A m c])
theorem HoldsIn.holds {w:World} {S:Nat→Prop} {t:Tree} {v:Value} (h:HoldsIn w S t v):Holds w t v:=by
 induction h with
 |mk k n s l A m c vs hk hn hs hm hmc hc hcell hsub ih=>
  exact .mk k n s l A m c vs hk hn hs hm hmc hc (fun i hi=>by
   obtain ⟨b,o,e,hb,h⟩:=hcell i hi
   refine ⟨_,e,fun j u hu=>?_⟩
   have hadd:(⟨b,o,none⟩:Addr).add (4*i+j)=⟨b,o+(4*i+j),none⟩:=by unfold Addr.add;split <;> simp_all
   rw [hadd];exact h j u hu) ih
theorem HoldsIn.mono {w:World} {S S':Nat→Prop} {t:Tree} {v:Value} (h:HoldsIn w S t v) (hS:∀b,S b→S' b):HoldsIn w S' t v:=by
 induction h with
 |mk k n s l A m c vs hk hn hs hm hmc hc hcell hsub ih=>
  exact .mk k n s l A m c vs hk hn hs hm hmc hc (fun i hi=>by
   obtain ⟨b,o,e,hb,h⟩:=hcell i hi
   exact ⟨b,o,e,hS b hb,h⟩) ih
theorem HoldsIn.four {w:World} {S:Nat→Prop} {t:Tree} {v:Value} (h:HoldsIn w S t v):v.cells.size=4∧∀u∈v.cells.toList,u.oneCell'=true:=h.holds.four
theorem HoldsIn.there {w:World} {S:Nat→Prop} {t:Tree} {v:Value} (h:HoldsIn w S t v):HoldsIn w (fun b=>S b∧b<w.heap.size) t v:=by
 induction h with
 |mk k n s l A m c vs hk hn hs hm hmc hc hcell hsub ih=>
  exact .mk k n s l A m c vs hk hn hs hm hmc hc (fun i hi=>by
   obtain ⟨b,o,e,hb,h⟩:=hcell i hi
   have hsz:=(hsub i l[i] (List.getElem?_eq_getElem (by omega))).four.1
   have hlt:b<w.heap.size:=World.block_lt_of_cell? _ _ (h 0 _ (Array.getElem?_eq_getElem (by omega)))
   exact ⟨b,o,e,⟨hb,hlt⟩,h⟩) ih
theorem HoldsIn.keep {w w':World} {S:Nat→Prop} {t:Tree} {v:Value} (h:HoldsIn w S t v) (hk:∀b,S b→b<w.heap.size→w'.heap[b]? =w.heap[b]?):HoldsIn w' S t v:=by
 induction h with
 |mk k n s l A m c vs hk' hn hs hm hmc hc hcell hsub ih=>
  exact .mk k n s l A m c vs hk' hn hs hm hmc hc (fun i hi=>by
   obtain ⟨b,o,e,hb,h⟩:=hcell i hi
   refine ⟨b,o,e,hb,fun j u hu=>?_⟩
   have hcl:=h j u hu
   have hlt:b<w.heap.size:=World.block_lt_of_cell? _ _ hcl
   rw [←hcl];exact World.cell?_of_block (w:=w) (hk b hb hlt)) ih
theorem HoldsIn.under {w w':World} {S:Nat→Prop} {t:Tree} {v:Value} (h:HoldsIn w S t v) (hb:Below w.heap.size w w'):HoldsIn w' S t v:=h.keep fun b _ hl=>hb.block b hl
theorem HoldsIn.grown {w w':World} {S:Nat→Prop} {t:Tree} {v:Value} {row:Option Nat} (h:HoldsIn w S t v) (hg:w.grownBy w' row) (hS:∀b,S b→some b≠row):HoldsIn w' S t v:=h.keep fun b hb hl=>hg.block b hl (hS b hb)
/-- A store into a block that is not one of S. -/
theorem HoldsIn.set {w:World} {S:Nat→Prop} {t:Tree} {v:Value} (h:HoldsIn w S t v) {p:Addr} (hp:¬S p.block) (u:Value):HoldsIn (w.setCell p u) S t v:=
 h.keep fun b hb _=>Below.heap_setCell w p u b fun e=>hp (e ▸ hb)
theorem HoldsIn.form {w:World} {S:Nat→Prop} {t:Tree} {v:Value} (h:HoldsIn w S t v):∃(k n:Int) (s:ByteArray) (A:Option Addr) (m c:Nat),v= .agg #[.int .i64 k,.int .u64 n,.string s,.slice A m c]:=by
 cases h with
 |mk k n s l A m c vs hk hn hs hm hmc hc hcell hsub=>exact ⟨_,_,_,_,_,_,rfl⟩
/-- The cells of items, one behind the other. -/
def flatL (us:List Value):List Value:=us.flatMap fun u=>u.cells.toList
theorem flatL_snoc (us:List Value) (u:Value):flatL (us++ [u])=flatL us++u.cells.toList:=by simp [flatL]
theorem flatL_length {us:List Value} (h:∀u∈us,u.cells.size=4):(flatL us).length=us.length*4:=by
 induction us with
 |nil=>rfl
 |cons u us ih=>
  have h1:=ih fun v hv=>h v (List.mem_cons_of_mem _ hv)
  have h2:=h u (List.mem_cons_self ..)
  simp only [flatL,List.flatMap_cons,List.length_append,Array.length_toList,List.length_cons] at h1 ⊢
  omega
theorem flatL_get {us:List Value} (h:∀u∈us,u.cells.size=4) {i j:Nat} {u:Value} (hi:us[i]? =some u) (hj:j<4):(flatL us)[4*i+j]? =u.cells[j]? :=by
 induction us generalizing i with
 |nil=>simp at hi
 |cons v us ih=>
  have h2:=h v (List.mem_cons_self ..)
  cases i with
  |zero=>
   simp at hi;subst hi
   simp only [flatL,List.flatMap_cons]
   rw [List.getElem?_append_left (by rw [Array.length_toList];omega),Array.getElem?_toList]
   simp
  |succ i=>
   simp only [flatL,List.flatMap_cons]
   rw [List.getElem?_append_right (by rw [Array.length_toList];omega),Array.length_toList,h2,show 4*(i+1)+j - 4=4*i+j by omega]
   exact ih (fun u hu=>h u (List.mem_cons_of_mem _ hu)) (by simpa using hi)
/-- A row of its own of items: of the first so many of a list of trees. -/
structure RowS (w:World) (base:Nat) (v:Value) (l:List Tree) (us:List Value):Prop where
 own:w.ownsRow base 25 4 v us.length (flatL us)
 le:us.length≤l.length
 sub:∀(i:Nat) (t:Tree) (u:Value),l[i]? =some t→us[i]? =some u→HoldsIn w (fun b=>base≤b∧some b≠v.ownBlock) t u
theorem RowS.nil_ (w:World) (base:Nat) (l:List Tree):RowS w base (.slice none 0 0) l []:=⟨World.ownsRow_nil _ _ _ _,Nat.zero_le _,fun i t u _ hu=>by simp at hu⟩
theorem RowS.form {w:World} {base:Nat} {v:Value} {l:List Tree} {us:List Value} (h:RowS w base v l us):∃A c,v= .slice A us.length c∧us.length≤c∧c≤maxLen:=by
 rcases h.own.2 with ⟨rfl,hl⟩|⟨g,cap,cur,rfl,_,_,hle,hm,_⟩
 ·exact ⟨none,0,by rw [hl],by omega,Nat.zero_le _⟩
 ·exact ⟨_,cap,rfl,hle,hm⟩
theorem RowS.below {w w':World} {base:Nat} {v:Value} {l:List Tree} {us:List Value} (h:RowS w base v l us) (hb:Below w.heap.size w w'):RowS w' base v l us:=
 ⟨h.own.kept (grown_of_below hb none) (by cases v.ownBlock <;> simp),h.le,fun i t u ht hu=>(h.sub i t u ht hu).under hb⟩
/-- A store below the base. -/
theorem RowS.set {w:World} {base:Nat} {v:Value} {l:List Tree} {us:List Value} (h:RowS w base v l us) {p:Addr} (hp:p.block<base) (u:Value):RowS (w.setCell p u) base v l us:=
 ⟨ownsRow_setCell_below h.own hp u,h.le,fun i t x ht hx=>(h.sub i t x ht hx).set (by omega) u⟩
theorem RowS.more {w:World} {base:Nat} {v:Value} {l:List Tree} {us:List Value} (h:RowS w base v l us) (hl:us.length=l.length) (t:Tree):RowS w base v (l++ [t]) us:=
 ⟨h.own,by have:=h.le;simp;omega,fun i t' u ht hu=>by
  have hi:i<us.length:=by
   rcases Nat.lt_or_ge i us.length with h|h
   ·exact h
   ·rw [List.getElem?_eq_none h] at hu;cases hu
  rw [List.getElem?_append_left (by omega)] at ht
  exact h.sub i t' u ht hu⟩
/-- One more is appended. -/
theorem RowS.step {w w':World} {base g:Nat} {v v':Value} {l:List Tree} {us:List Value} {t:Tree} {u:Value} (h:RowS w base v l us) (ht:l[us.length]? =some t)
  (hu:HoldsIn w (fun b=>g≤b) t u) (hg:base≤g) (hv:∀k,v.ownBlock=some k→k<g)
  (hown:w'.ownsRow base 25 4 v' (us.length+1) (flatL us++u.cells.toList)) (hgr:w.grownBy w' v.ownBlock) (hat:v'.ownBlock=v.ownBlock∨v'.ownBlock=some w.heap.size):RowS w' base v' l (us++ [u]):=by
 have hle:us.length<l.length:=by
  rcases Nat.lt_or_ge us.length l.length with h|h
  ·exact h
  ·rw [List.getElem?_eq_none h] at ht;cases ht
 have key:∀(i:Nat) (t:Tree) (x:Value),l[i]? =some t→(us++ [u])[i]? =some x→HoldsIn w (fun b=>(base≤b∧some b≠v.ownBlock)∧b<w.heap.size) t x:=by
  intro i t' x hi hx
  by_cases hlt:i<us.length
  ·rw [List.getElem?_append_left hlt] at hx
   exact (h.sub i t' x hi hx).there
  ·have:i=us.length:=by
    have:i<(us++ [u]).length:=by
     rcases Nat.lt_or_ge i (us++ [u]).length with h|h
     ·exact h
     ·rw [List.getElem?_eq_none h] at hx;cases hx
    simp at this;omega
   subst this
   rw [ht] at hi
   simp at hi hx
   subst hi hx
   exact (hu.mono fun b hb=>(⟨by omega,fun e=>by have:=hv b e.symm;omega⟩:base≤b∧some b≠v.ownBlock)).there
 refine ⟨by rw [flatL_snoc];simpa using hown,by simp;omega,fun i t' x hi hx=>?_⟩
 refine ((key i t' x hi hx).grown hgr fun b hb=>hb.1.2).mono fun b hb=>⟨hb.1.1,?_⟩
 rcases hat with e|e
 ·rw [e];exact hb.1.2
 ·rw [e]
  intro e2
  injection e2 with e2
  have:=hb.2
  omega
/-- A whole row is an item's list. -/
theorem RowS.node {w:World} {base:Nat} {A:Option Addr} {m c:Nat} {l:List Tree} {us:List Value} (h:RowS w base (.slice A m c) l us) (hl:us.length=l.length):
  HoldsIn w (fun b=>base≤b) (.mk 2 0 ByteArray.empty l) (.agg #[.int .i64 2,.int .u64 ((0:Nat):Int),.string ByteArray.empty,.slice A m c]):=by
 obtain ⟨A',c',e,hle,hm⟩:=h.form
 injection e with e1 e2 e3
 subst e1 e2 e3
 have hg:∀i,i<us.length→us[i]? =some (us.getD i .nilIface):=fun i hi=>by simp [List.getD,List.getElem?_eq_getElem hi]
 have h4:∀u∈us,u.cells.size=4:=fun u hu=>by
  obtain ⟨i,hi,rfl⟩:=List.mem_iff_getElem.1 hu
  exact (h.sub i l[i] _ (List.getElem?_eq_getElem (by omega)) (List.getElem?_eq_getElem hi)).four.1
 refine .mk 2 0 _ l A us.length c (fun i=>us.getD i .nilIface) (by decide) (by decide) (by decide) hl hle hm (fun i hi=>?_) fun i t ht=>?_
 ·rcases h.own.2 with ⟨hv,hn⟩|⟨g,cap,cur,hv,hb,_⟩
  ·omega
  ·injection hv with hv _ _
   subst hv
   refine ⟨g,0,rfl,hb,fun j u hu=>?_⟩
   have hj:j<4:=by
    rw [←h4 _ (List.mem_of_getElem? (hg i hi))]
    exact (Array.getElem?_eq_some_iff.1 hu).1
   have:=h.own.cells (g:=g) rfl (4*i+j) u (by rw [flatL_get h4 (hg i hi) hj];exact hu)
   rw [←this]
   congr 1
   unfold Addr.add;split <;> simp_all
 ·have hi:i<us.length:=by
   rw [hl]
   rcases Nat.lt_or_ge i l.length with h|h
   ·exact h
   ·rw [List.getElem?_eq_none h] at ht;cases ht
  exact (h.sub i t _ ht (hg i hi)).mono fun b hb=>hb.1
/-- One item that the call has laid in a block of its own, as the source of an append. -/
theorem src_item {w:World} {e:TypeId} {u:Value} (h4:u.cells.size=4) (h1:∀x∈u.cells.toList,x.oneCell'=true):Src (w.alloc (.cells u.cells e)) 4 (some ⟨w.heap.size,0,none⟩) 1 u.cells.toList:=
 ⟨by simp [h4],fun j x hj=>⟨_,rfl,by
  have hadd:(⟨w.heap.size,0,none⟩:Addr).add j=⟨w.heap.size,j,none⟩:=by unfold Addr.add;split <;> simp_all
  rw [hadd]
  exact (new_cell w u.cells e j (by simpa using hj)).1⟩,h1⟩
attribute [local go_sem] lt2 lt3 lt4 lt5
attribute [local simp] lt2 lt3 lt4 lt5
theorem hin_num (w:World) (S:Nat→Prop) {n:Nat} (hn:n<2 ^ 64):HoldsIn w S (.mk 0 n ByteArray.empty []) (numV n):=
 .mk 0 n _ [] none 0 0 (fun _=>.nilIface) (by decide) hn (by decide) rfl (Nat.le_refl _) (Nat.zero_le _) (fun i hi=>absurd hi (by omega)) (fun i t hi=>by simp at hi)
theorem hin_text (w:World) (S:Nat→Prop) {s:ByteArray} (hs:s.size≤maxLen):HoldsIn w S (.mk 1 0 s []) (textV s):=
 .mk 1 0 s [] none 0 0 (fun _=>.nilIface) (by decide) (by decide) hs rfl (Nat.le_refl _) (Nat.zero_le _) (fun i hi=>absurd hi (by omega)) (fun i t hi=>by simp at hi)
set_option maxHeartbeats 2000000 in
theorem clone_src (ad:Addr) (m c:Nat) (news:List Value) (w0 w:World) (hb0:Below w0.heap.size w0 w) (h:Src w0 4 (some ad) m news) (hm:m≤1000000000):
  Calls Tryd.prog 78 #[.slice (some ad) m c] w (fun e w'=>∃A' c',e= .returned (.slice A' m c')∧w'.ownsRow w.heap.size 25 4 (.slice A' m c') m news∧Below w.heap.size w w'):=by
 obtain ⟨i1,hi,hz0,hz1,hz2⟩:=info_item
 have hk:Below w.heap.size w (w.alloc (.cells #[] 25)):=below_one _
 have hnil:=fun W:World=>Lib.run_eql_slice_some_nil (P:=Tryd.prog) W ad m c Tryd.underlying23
 have hsrc:=(h.keep hb0).keep hk
 have hown:(w.alloc (.cells #[] 25)).ownsRow w.heap.size 25 4 (.slice (some ⟨w.heap.size,0,none⟩) 0 0) 0 []:=World.ownsRow_made w #[] 0 (Nat.le_refl _) (Nat.zero_le _) (by simp)
 go_enter Tryd.func78,Tryd.ntmps78
 go_wp2_with (at_builtin;go_loud (refine wpList_app _ rfl (.tmp 5) (.tmp 6) 23 rfl _ 25 i1 _ 4 56 Tryd.underlying23 hi hz0 hz1 hz2 rfl (by omega) _ _ _ rfl hown _ _ _ _ rfl hsrc ?h63 ?hby ?hbase ?_);(case h63=>(unfold maxLen;first|omega|(simp;done)|(simp;omega)));(case hby=>first|omega|(simp;done)|(simp;omega));(case hbase=>first|omega|(simp;done)|(simp;omega));intro v2 w2 hownw2 hgroww2 hatw2 holdw2)
 have hb2:=below_app hk hown hgroww2 (Nat.le_refl _) (by simp)
 have hown2:w2.ownsRow w.heap.size 25 4 v2 m news:=by simpa using hownw2
 obtain ⟨A2,c2,rfl,_,_⟩:∃A c,v2= .slice A m c∧m≤c∧c≤maxLen:=by
  rcases hown2.2 with ⟨rfl,hl⟩|⟨g,cap,cur,rfl,_,_,hle,hm,_⟩
  ·exact ⟨none,0,by rw [hl],by omega,Nat.zero_le _⟩
  ·exact ⟨_,cap,rfl,hle,hm⟩
 go_ret
 exact ⟨_,_,rfl,hown2,hb2⟩
theorem codeclist_src (ad:Addr) (m c:Nat) (news:List Value) (w:World) (h:Src w 4 (some ad) m news) (hm:m≤1000000000):
  Calls Tryd.prog 55 #[.slice (some ad) m c] w (fun e w'=>∃A' c',e= .returned (.agg #[.int .i64 2,.int .u64 0,.string ByteArray.empty,.slice A' m c'])∧w'.ownsRow (w.heap.size+1) 25 4 (.slice A' m c') m news∧Below w.heap.size w w'):=by
 have hcl:∀W,Below w.heap.size w W→Calls Tryd.prog 78 #[.slice (some ad) m c] W (fun e w'=>∃A' c',e= .returned (.slice A' m c')∧w'.ownsRow W.heap.size 25 4 (.slice A' m c') m news∧Below W.heap.size W w'):=fun W hb=>clone_src ad m c news w W hb h hm
 clear h
 go_enter Tryd.func55,Tryd.ntmps55
 go_wp2_with fail
 refine (hcl _ (blw)).mono ?_
 rintro e w1 ⟨A',c',rfl,hit,hb1⟩
 have hz1:=hb1.size
 simp at hz1
 obtain ⟨q0,r0⟩:=new_keep hb1 0 rfl
 obtain ⟨q1,r1⟩:=new_keep hb1 1 rfl
 obtain ⟨q2,r2⟩:=new_keep hb1 2 rfl
 obtain ⟨q3,r3⟩:=new_keep hb1 3 rfl
 simp only [World.size_alloc] at hit
 have Hit:=Lib.hid hit
 clear hit
 go_wp2_with fail
 have hbw:Below w.heap.size w w1:=blw
 refine bodyPost_ret (v:=.agg #[.int .i64 2,.int .u64 0,.string ByteArray.empty,.slice A' m c']) (by simp [results,Tryd.results55,go_sem, *] <;> rfl) rfl ?_
 have hb4:Below w.heap.size w ((((w1.setCell ⟨w.heap.size,0,none⟩ (.int .i64 2)).setCell ⟨w.heap.size,1,none⟩ (.int .u64 0)).setCell ⟨w.heap.size,2,none⟩ (.string ByteArray.empty)).setCell ⟨w.heap.size,3,none⟩ (.slice A' m c')):=blw
 exact ⟨_,_,rfl,ownsRow_setCell_below (ownsRow_setCell_below (ownsRow_setCell_below (ownsRow_setCell_below Hit.out (by simp) _) (by simp) _) (by simp) _) (by simp) _,hb4⟩
/-- Items that lie one behind the other in the newest block, as a source. -/
theorem src_items {us:List Value} {cs:Array Value} (w:World) (hcs:cs=(flatL us).toArray) (h4:∀u∈us,u.cells.size=4∧∀x∈u.cells.toList,x.oneCell'=true):
  Src (w.alloc (.cells cs 25)) 4 (some ⟨w.heap.size,0,none⟩) us.length (flatL us):=by
 subst hcs
 refine ⟨by rw [flatL_length fun u hu=>(h4 u hu).1];try omega,fun j x hj=>⟨_,rfl,?_⟩,fun x hx=>?_⟩
 ·have hadd:(⟨w.heap.size,0,none⟩:Addr).add j=⟨w.heap.size,j,none⟩:=by unfold Addr.add;split <;> simp_all
  rw [hadd]
  exact (new_cell w (flatL us).toArray 25 j (by simpa using hj)).1
 ·simp only [flatL,List.mem_flatMap] at hx
  obtain ⟨u,hu,hx⟩:=hx
  exact (h4 u hu).2 x hx
theorem own_below {w w':World} {base:Nat} {e:TypeId} {size:Nat} {v:Value} {n:Nat} {xs:List Value} (h:w.ownsRow base e size v n xs) (hb:Below w.heap.size w w'):w'.ownsRow base e size v n xs:=
 h.kept (grown_of_below hb none) (by cases v.ownBlock <;> simp)
/-- The list of the items that lie one behind the other in the newest block. -/
theorem list_in {base:Nat} {l:List Tree} {us:List Value} {m:Nat} {cs:Array Value} (w:World) (hcs:cs=(flatL us).toArray) (hm:m=us.length) (hl:us.length=l.length) (hbase:base≤w.heap.size) (hmm:m≤1000000000)
  (sub:∀(i:Nat) (t:Tree) (u:Value),l[i]? =some t→us[i]? =some u→HoldsIn w (fun b=>base≤b) t u):
  Calls Tryd.prog 55 #[.slice (some ⟨w.heap.size,0,none⟩) m m] (w.alloc (.cells cs 25))
   (fun e w'=>∃A' c',e= .returned (.agg #[.int .i64 2,.int .u64 0,.string ByteArray.empty,.slice A' m c'])∧HoldsIn w' (fun b=>base≤b) (.mk 2 0 ByteArray.empty l) (.agg #[.int .i64 2,.int .u64 0,.string ByteArray.empty,.slice A' m c'])∧Below (w.alloc (.cells cs 25)).heap.size (w.alloc (.cells cs 25)) w'):=by
 subst hcs hm
 have hg:∀i,i<us.length→us[i]? =some (us.getD i .nilIface):=fun i hi=>by simp [List.getD,List.getElem?_eq_getElem hi]
 have h4:∀u∈us,u.cells.size=4∧∀x∈u.cells.toList,x.oneCell'=true:=fun u hu=>by
  obtain ⟨i,hi,rfl⟩:=List.mem_iff_getElem.1 hu
  exact (sub i l[i] _ (List.getElem?_eq_getElem (by omega)) (List.getElem?_eq_getElem hi)).four
 have hsrc:Src (w.alloc (.cells (flatL us).toArray 25)) 4 (some ⟨w.heap.size,0,none⟩) us.length (flatL us):=by
  refine ⟨by rw [flatL_length fun u hu=>(h4 u hu).1];try omega,fun j x hj=>⟨_,rfl,?_⟩,fun x hx=>?_⟩
  ·have hadd:(⟨w.heap.size,0,none⟩:Addr).add j=⟨w.heap.size,j,none⟩:=by unfold Addr.add;split <;> simp_all
   rw [hadd]
   exact (new_cell w (flatL us).toArray 25 j (by simpa using hj)).1
  ·simp only [flatL,List.mem_flatMap] at hx
   obtain ⟨u,hu,hx⟩:=hx
   exact (h4 u hu).2 x hx
 refine (codeclist_src _ us.length us.length (flatL us) _ hsrc hmm).mono ?_
 rintro e w' ⟨A',c',rfl,hown,hb⟩
 have hb0:Below w.heap.size w w':=by
  exact below_call (below_one _) hb (by simp)
 refine ⟨A',c',rfl,?_,hb⟩
 have hrow:RowS w' base (.slice A' us.length c') l us:=by
  refine ⟨⟨hown.1,hown.2.imp id fun ⟨g,cap,cur,hv,hg,hr⟩=>⟨g,cap,cur,hv,by simp at hg;omega,hr⟩⟩,by omega,fun i t u ht hu=>?_⟩
  refine ((sub i t u ht hu).there.under hb0).mono fun b hb=>⟨hb.1,fun e=>?_⟩
  have:=(hown.lt b e.symm).1
  simp at this
  omega
 exact hrow.node hl
end Go.Proofs.YtlolnakeancenaaDoor
namespace Go.Proofs.YtlolnakeancenaaDoor
open Go.RowKit
set_option linter.unusedVariables false
set_option linter.unusedSimpArgs false
set_option maxRecDepth 20000
attribute [local go_sem ↓] Go.wp_at_zero Go.wp_at_succ
attribute [local go_sem] World.cell?_alloc_some frozen_alloc_some
attribute [local go_sem] lt2 lt3 lt4 lt5
attribute [local simp] lt2 lt3 lt4 lt5
/-- A number as the program turns it to an item's. -/
def u64n (a:Int):Nat:=(IntKind.u64.wrap a).toNat
theorem u64n_cast (a:Int):IntKind.u64.wrap a=((u64n a:Nat):Int):=by
 have e:IntKind.u64.wrap a=a % 18446744073709551616:=by simp [IntKind.wrap,IntKind.bits,IntKind.signed]
 unfold u64n;rw [e];omega
theorem u64n_lt (a:Int):u64n a<2 ^ 64:=by
 have e:IntKind.u64.wrap a=a % 18446744073709551616:=by simp [IntKind.wrap,IntKind.bits,IntKind.signed]
 unfold u64n;rw [e];omega
theorem u64n_of {a:Int} (h:0≤a) (h':a<2 ^ 63):u64n a=a.toNat:=by
 have e:IntKind.u64.wrap a=a % 18446744073709551616:=by simp [IntKind.wrap,IntKind.bits,IntKind.signed]
 unfold u64n;rw [e];omega
def ntree (a:Int):Tree:=.mk 0 (u64n a) ByteArray.empty []
def ltree (l:List Tree):Tree:=.mk 2 0 ByteArray.empty l
abbrev listV (A:Option Addr) (m c:Nat):Value:=.agg #[.int .i64 2,.int .u64 0,.string ByteArray.empty,.slice A m c]
theorem Blk.drew {w:World} {g:Nat} {t:TypeId} {cs:Array Value} (h:Blk w g t cs):Blk w.drew g t cs:=h.keep (Below.refl _ _).drew
theorem hin_set4 {w:World} {S:Nat→Prop} {t:Tree} {v:Value} (h:HoldsIn w S t v) {g:Nat} (hp:¬S g) (a b c d:Value):HoldsIn ((((w.setCell ⟨g,0,none⟩ a).setCell ⟨g,1,none⟩ b).setCell ⟨g,2,none⟩ c).setCell ⟨g,3,none⟩ d) S t v:=
 (((h.set (p:=⟨g,0,none⟩) hp a).set (p:=⟨g,1,none⟩) hp b).set (p:=⟨g,2,none⟩) hp c).set (p:=⟨g,3,none⟩) hp d
theorem Blk.set4 {w:World} {g:Nat} {t:TypeId} {u0 u1 u2 u3:Value} (h:Blk w g t #[u0,u1,u2,u3]) (a b c d:Value):Blk ((((w.setCell ⟨g,0,none⟩ a).setCell ⟨g,1,none⟩ b).setCell ⟨g,2,none⟩ c).setCell ⟨g,3,none⟩ d) g t #[a,b,c,d]:=by
 have:=(((h.set_ 0 a).set_ 1 b).set_ 2 c).set_ 3 d
 simpa using this
theorem Blk.far4 {w:World} {k g:Nat} {t:TypeId} {cs:Array Value} (h:Blk w k t cs) (hk:k≠g) (a b c d:Value):Blk ((((w.setCell ⟨g,0,none⟩ a).setCell ⟨g,1,none⟩ b).setCell ⟨g,2,none⟩ c).setCell ⟨g,3,none⟩ d) k t cs:=
 (((h.far (p:=⟨g,0,none⟩) hk a).far (p:=⟨g,1,none⟩) hk b).far (p:=⟨g,2,none⟩) hk c).far (p:=⟨g,3,none⟩) hk d
theorem own_far {w:World} {base:Nat} {e:TypeId} {size:Nat} {v:Value} {n:Nat} {xs:List Value} (h:w.ownsRow base e size v n xs) {p:Addr} (hp:v.ownBlock≠some p.block) (u:Value):(w.setCell p u).ownsRow base e size v n xs:=
 have hb:=(Below.refl p.block w).setCell (p:=p) (Nat.le_refl _) u
 h.kept (row:=some p.block) ⟨hb.os,hb.tape,hb.output,hb.size,fun k _ hne=>Below.heap_setCell w p u k fun e=>hne (by rw [e])⟩ (.inr hp)
end Go.Proofs.YtlolnakeancenaaDoor
namespace Go.Proofs.YtlolnakeancenaaDoor
open Go.RowKit
set_option linter.unusedVariables false
set_option linter.unusedSimpArgs false
set_option maxRecDepth 20000
attribute [local go_sem ↓] Go.wp_at_zero Go.wp_at_succ
attribute [local go_sem] World.cell?_alloc_some frozen_alloc_some
attribute [local go_sem] lt2 lt3 lt4 lt5
attribute [local simp] lt2 lt3 lt4 lt5
/-- The numbers of a set, one behind the other. -/
def inums (l:List IdP):List Int:=l.flatMap fun p=>[p.1,p.2]
def itrees (l:List IdP):List Tree:=(inums l).map ntree
def ivals (l:List IdP):List Value:=(inums l).map fun a=>numV (u64n a)
theorem inums_snoc (l:List IdP) (p:IdP):inums (l++ [p])=inums l++ [p.1,p.2]:=by simp [inums]
theorem inums_length (l:List IdP):(inums l).length=2*l.length:=by
 induction l with
 |nil=>rfl
 |cons p l ih=>simp only [inums,List.flatMap_cons,List.length_append,List.length_cons,List.length_nil] at ih ⊢;omega
theorem ivals_take {l:List IdP} {j:Nat} {r n:Int} (h:l[j]? =some (r,n)):ivals (l.take (j+1))=ivals (l.take j)++ [numV (u64n r),numV (u64n n)]:=by
 have hj:j<l.length:=by
  rcases Nat.lt_or_ge j l.length with h'|h'
  ·exact h'
  ·rw [List.getElem?_eq_none h'] at h;cases h
 have:l.take (j+1)=l.take j++ [(r,n)]:=by
  rw [List.take_add_one,h];rfl
 rw [this,ivals,inums_snoc]
 simp [ivals]
theorem flatL_append (a b:List Value):flatL (a++b)=flatL a++flatL b:=by simp [flatL]
theorem own_form7 {w:World} {base:Nat} {e:TypeId} {size:Nat} {v:Value} {n:Nat} {xs:List Value} (h:w.ownsRow base e size v n xs):∃A c,v= .slice A n c∧n≤c∧c≤maxLen:=by
 rcases h.2 with ⟨rfl,rfl⟩|⟨g,cap,cur,rfl,_,_,hle,hm,_⟩
 ·exact ⟨none,0,rfl,Nat.le_refl _,Nat.zero_le _⟩
 ·exact ⟨_,cap,rfl,hle,hm⟩
theorem four_num (n:Nat) (hn:n<2 ^ 64):(numV n).cells.size=4∧∀x∈(numV n).cells.toList,x.oneCell'=true:=(hin_num default (fun _=>True) hn).four
/-- A row of numbers' items is the list. -/
theorem hin_nums {w:World} {base:Nat} {A:Option Addr} {m c:Nat} {l:List IdP} (h:w.ownsRow base 25 4 (.slice A m c) m (flatL (ivals l))) (hm:m=2*l.length):
  HoldsIn w (fun b=>base≤b) (ltree (itrees l)) (listV A m c):=by
 have hl:m=(ivals l).length:=by simp [ivals,inums_length,hm]
 subst hl
 have hrow:RowS w base (.slice A (ivals l).length c) (itrees l) (ivals l):=
  ⟨h,by simp [ivals,itrees],fun i t u ht hu=>by
   unfold itrees at ht;unfold ivals at hu
   rw [List.getElem?_map] at ht hu
   cases hx:(inums l)[i]? with
   |none=>rw [hx] at ht;cases ht
   |some a=>
    rw [hx] at ht hu
    simp at ht hu
    subst ht hu
    exact hin_num _ _ (u64n_lt a)⟩
 exact hrow.node (by simp [ivals,itrees])
set_option maxHeartbeats 8000000 in
theorem idsitem_any (A:Option Addr) (m c:Nat) (l:List IdP) (w:World) (h1:IdsAt w A m l) (hm:m≤1000000):Calls Tryd.prog 80 #[.slice A m c] w
  (fun e w'=>∃A' c',e= .returned (listV A' (2*m) c')∧HoldsIn w' (fun x=>w.heap.size≤x) (ltree (itrees l)) (listV A' (2*m) c')∧Below w.heap.size w w'):=by
 obtain ⟨i1,hi,hz0,hz1,hz2⟩:=info_item
 have Hm:=Lib.hid h1.1
 have H1:=Lib.hid h1
 clear h1
 have hnum:=fun n W=>num_any n W
 unfold numV at hnum
 go_enter Tryd.func80,Tryd.ntmps80
 go_wp2_with fail
 go_loopw [9] (fun s9 wr=>∃(j:Nat) (A':Option Addr) (c':Nat),j≤m∧s9= .int .i64 j∧Blk wr w.heap.size 25 #[.int .i64 0,.int .u64 0,.string ⟨#[]⟩,.slice none 0 0]∧Blk wr (w.heap.size+1) 25 #[.int .i64 2,.int .u64 0,.string ⟨#[]⟩,.slice A' (2*j) c']∧wr.ownsRow (w.heap.size+2) 25 4 (.slice A' (2*j) c') (2*j) (flatL (ivals (l.take j)))∧Below w.heap.size w wr) (fun s9 _=>m - (intOf s9).toNat)
 case atStart=>exact ⟨0,none,0,by omega,rfl,(Blk.new w _ _).alloc _,Blk.newAt (by simp),World.ownsRow_nil _ _ _ _,blw⟩
 case round=>
  obtain ⟨j,A',c',hj,rfl,hR,hX,hown,hbr⟩:=hrel
  have hzr:=hX.lt
  by_cases hlt:j<m
  ·obtain ⟨r,n,b,o,e1,_,_,rfl,p0,p1⟩:=(H1.out.keep hbr).at_ hlt
   have Hiv:=Lib.hid (ivals_take e1)
   clear e1
   have j0:(0:Int)≤(j:Int):=by omega
   have j1:(j:Int)<(m:Int):=by omega
   have wa:=u64n_cast r
   have wb:=u64n_cast n
   have hna:=fun W=>hnum (u64n r) W
   have hnb:=fun W=>hnum (u64n n) W
   go_upto_region 5 with fail
   have D0:Blk (wr.alloc (.cells #[.int .i64 r,.int .i64 n] 41)).drew wr.heap.size 41 #[.int .i64 r,.int .i64 n]:=(Blk.new wr _ _).drew
   have R0:=(hR.alloc (.cells #[.int .i64 r,.int .i64 n] 41)).drew
   have X0:=(hX.alloc (.cells #[.int .i64 r,.int .i64 n] 41)).drew
   have O0:=own_below hown (w':=(wr.alloc (.cells #[.int .i64 r,.int .i64 n] 41)).drew) (blw)
   have k0:Below w.heap.size w (wr.alloc (.cells #[.int .i64 r,.int .i64 n] 41)).drew:=blw
   have z0:w.heap.size+2<(wr.alloc (.cells #[.int .i64 r,.int .i64 n] 41)).drew.heap.size:=by simp;omega
   have hol:=fun k hk=>(hown.lt k hk).2
   clear hR hX hown hnum
   (refine wp_region_held_drew (S:=(S1 wr.heap.size #[.int .i64 r,.int .i64 n])) (by kernel_rfl) ?_ (fun hHeld=>?_);(· exact D0.cell))
   (refine take_op (i:=0) (v:=?_) rfl (by kernel_rfl) (by kernel_rfl) (by kernel_rfl) (fun _ _ _ h=>h) (by rfl) ?_ hHeld ?_;rotate_left;(· (intro wS hSw;(try dsimp only at hSw);go_simp;first|done|with_reducible rfl));simp only [Act.put,sta_,scz_,scs_]);(refine take_op (i:=2) (v:=?_) rfl (by kernel_rfl) (by kernel_rfl) (by kernel_rfl) (fun _ _ _ h=>h) (by rfl) ?_ hHeld ?_;rotate_left;(· (intro wS hSw;(try dsimp only at hSw);go_simp;first|done|with_reducible rfl));simp only [Act.put,sta_,scz_,scs_]);(refine take_op (i:=3) (v:=?_) rfl (by kernel_rfl) (by kernel_rfl) (by kernel_rfl) (fun _ _ _ h=>h) (by rfl) ?_ hHeld ?_;rotate_left;(· (intro wS hSw;(try dsimp only at hSw);go_simp;first|done|with_reducible rfl));simp only [Act.put,sta_,scz_,scs_]);(refine take_op (i:=4) (v:=?_) rfl (by kernel_rfl) (by kernel_rfl) (by kernel_rfl) (fun _ _ _ h=>h) (by rfl) ?_ hHeld ?_;rotate_left;(· (intro wS hSw;(try dsimp only at hSw);go_simp;first|done|with_reducible rfl));simp only [Act.put,sta_,scz_,scs_]);(refine take_op (i:=6) (v:=?_) rfl (by kernel_rfl) (by kernel_rfl) (by kernel_rfl) (fun _ _ _ h=>h) (by rfl) ?_ hHeld ?_;rotate_left;(· (intro wS hSw;(try dsimp only at hSw);go_simp;first|done|with_reducible rfl));simp only [Act.put,sta_,scz_,scs_]);(refine take_op (i:=7) (v:=?_) rfl (by kernel_rfl) (by kernel_rfl) (by kernel_rfl) (fun _ _ _ h=>h) (by rfl) ?_ hHeld ?_;rotate_left;(· (intro wS hSw;(try dsimp only at hSw);go_simp;first|done|with_reducible rfl));simp only [Act.put,sta_,scz_,scs_]);(refine take_op (i:=8) (v:=?_) rfl (by kernel_rfl) (by kernel_rfl) (by kernel_rfl) (fun _ _ _ h=>h) (by rfl) ?_ hHeld ?_;rotate_left;(· (intro wS hSw;(try dsimp only at hSw);go_simp;first|done|with_reducible rfl));simp only [Act.put,sta_,scz_,scs_])
   revert D0 R0 X0 O0 k0 z0
   generalize World.drew _=w0
   intro D0 R0 X0 O0 k0 z0
   (refine two_op (i:=1) (j:=5) rfl rfl (by kernel_rfl) (by rfl) (by rfl) ?_ ?_;rotate_left;(· (intro K hK;go_simp;(go_at_call 53;(with_reducible refine (hna _).mono ?_);rintro e w1 ⟨rfl,hb1⟩;have D1:=D0.keep hb1;have R1:=R0.keep hb1;have X1:=X0.keep hb1;have O1:=own_below O0 hb1;have k1:=below_call k0 hb1 k0.size;have z1:=hb1.size);refine hK.out _ _ (D1.cell) (fun hHeld2=>?_);clear hK K hHeld;have hHeld:=hHeld2;clear hHeld2;(try simp only [Act.put,sta_,scz_,scs_]);(refine two_op (i:=1) (j:=9) rfl rfl (by kernel_rfl) (by rfl) (by rfl) ?_ ?_;rotate_left;(· (intro K hK;go_simp;(go_at_call 53;(with_reducible refine (hnb _).mono ?_);rintro e w2 ⟨rfl,hb2⟩;have D2:=D1.keep hb2;have R2:=R1.keep hb2;have X2:=X1.keep hb2;have O2:=own_below O1 hb2;have k2:=below_call k1 hb2 k1.size;have z2:=hb2.size);refine hK.out _ _ (D2.cell) (fun hHeld2=>?_);clear hK K hHeld;have hHeld:=hHeld2;clear hHeld2;(try simp only [Act.put,sta_,scz_,scs_]);(refine two_op (i:=1) (j:=10) rfl rfl (by kernel_rfl) (by rfl) (by rfl) ?_ ?_;rotate_left;(· (intro K hK;go_simp;(have D3:=D2.alloc (.cells #[.int .i64 0,.int .u64 (u64n r:Int),.string ByteArray.empty,.slice none 0 0,.int .i64 0,.int .u64 (u64n n:Int),.string ByteArray.empty,.slice none 0 0] 25);have R3:=R2.alloc (.cells #[.int .i64 0,.int .u64 (u64n r:Int),.string ByteArray.empty,.slice none 0 0,.int .i64 0,.int .u64 (u64n n:Int),.string ByteArray.empty,.slice none 0 0] 25);have X3:=X2.alloc (.cells #[.int .i64 0,.int .u64 (u64n r:Int),.string ByteArray.empty,.slice none 0 0,.int .i64 0,.int .u64 (u64n n:Int),.string ByteArray.empty,.slice none 0 0] 25));refine hK.out _ _ (D3.cell) (fun hHeld2=>?_);clear hK K hHeld;have hHeld:=hHeld2;clear hHeld2;(try simp only [Act.put,sta_,scz_,scs_]);have Xc:=X3.cell;(refine call_op (i:=1) rfl (by kernel_rfl) (by rfl) (fun K hK=>?_);go_simp;skip;refine hK.out _ _ D3.cell (fun hHeld2=>?_);clear hK K hHeld;have hHeld:=hHeld2;clear hHeld2;(try simp only [Act.put,sta_,scz_,scs_]));clear Xc;(have O3:(w2.alloc (.cells #[.int .i64 0,.int .u64 (u64n r:Int),.string ByteArray.empty,.slice none 0 0,.int .i64 0,.int .u64 (u64n n:Int),.string ByteArray.empty,.slice none 0 0] 25)).ownsRow (w.heap.size+2) 25 4 (.slice A' (2*j) c') (2*j) (flatL (ivals (l.take j))):=own_below O2 (below_one _);have hsrc:=src_items (us:=[numV (u64n r),numV (u64n n)]) (cs:=#[.int .i64 0,.int .u64 (u64n r:Int),.string ByteArray.empty,.slice none 0 0,.int .i64 0,.int .u64 (u64n n:Int),.string ByteArray.empty,.slice none 0 0]) w2 (by simp [flatL,numV,Value.cells]) (fun u hu=>by simp at hu;rcases hu with rfl|rfl <;> exact four_num _ (u64n_lt _));(refine call_op (i:=11) rfl (by kernel_rfl) (by rfl) (fun K hK=>?_);((refine wp_app _ (.tmp 14) (.tmp 23) 23 rfl _ 25 i1 _ 4 56 Tryd.underlying23 hi hz0 hz1 hz2 rfl (by omega) _ _ _ rfl O3 _ _ _ _ rfl hsrc ?h63 ?hby ?hbase ?_);(case h63=>(unfold maxLen;first|omega|(simp;done)|(simp;omega)));(case hby=>first|omega|(simp;done)|(simp;omega));(case hbase=>first|omega|(simp;done)|(simp;omega));intro v4 w4 hownw4 hgroww4 hatw4 holdw4);(have X4:Blk w4 (w.heap.size+1) 25 _:=(hgroww4.block _ X3.lt (fun e=>by have:=(O3.lt _ e.symm).1;omega)).trans X3);(have R4:Blk w4 w.heap.size 25 _:=(hgroww4.block _ R3.lt (fun e=>by have:=(O3.lt _ e.symm).1;omega)).trans R3);(have D4:Blk w4 wr.heap.size 41 _:=(hgroww4.block _ D3.lt (fun e=>by have:=hol _ e.symm;omega)).trans D3);have k4:=below_app (B:=w.heap.size) (k2.alloc (by omega) _) O3 hgroww4 (by omega) (by simp;omega);refine hK.out _ _ D4.cell (fun hHeld2=>?_);clear hK K hHeld;have hHeld:=hHeld2;clear hHeld2;(try simp only [Act.put,sta_,scz_,scs_]));have hown4:w4.ownsRow (w.heap.size+2) 25 4 v4 (2*(j+1)) (flatL (ivals (l.take (j+1)))):=(by rw [Hiv.out,flatL_append];exact hownw4);obtain ⟨A4,c4,rfl,_,_⟩:=own_form7 hown4;have X4c:=X4.cell;have X4f:=X4.frozen;(refine take_op (i:=12) (v:=?_) rfl (by kernel_rfl) (by kernel_rfl) (by kernel_rfl) (fun _ _ _ h=>h) (by rfl) ?_ hHeld ?_;rotate_left;(· (intro wS hSw;(try dsimp only at hSw);go_simp;first|done|with_reducible rfl));simp only [Act.put,sta_,scz_,scs_]);have X5:Blk (w4.setCell ⟨w.heap.size+1,3,none⟩ (.slice A4 (2*(j+1)) c4)) (w.heap.size+1) 25 #[.int .i64 2,.int .u64 0,.string ⟨#[]⟩,.slice A4 (2*(j+1)) c4]:=(by have:=X4.set_ 3 (.slice A4 (2*(j+1)) c4);simpa using this);have D5:Blk (w4.setCell ⟨w.heap.size+1,3,none⟩ (.slice A4 (2*(j+1)) c4)) wr.heap.size 41 _:=D4.far (p:=⟨w.heap.size+1,3,none⟩) (by simp;omega) _;(refine call_op (i:=13) rfl (by kernel_rfl) (by rfl) (fun K hK=>?_);go_simp;skip;refine hK.out _ _ D5.cell (fun hHeld2=>?_);clear hK K hHeld;have hHeld:=hHeld2;clear hHeld2;(try simp only [Act.put,sta_,scz_,scs_]));(refine wpAnyH_done (by kernel_rfl) ?_ _);have R5:=R4.far (p:=⟨w.heap.size+1,3,none⟩) (by simp) (.slice A4 (2*(j+1)) c4);have hown5:=ownsRow_setCell_below hown4 (a:=⟨w.heap.size+1,3,none⟩) (by simp) (.slice A4 (2*(j+1)) c4);have k5:Below w.heap.size w (w4.setCell ⟨w.heap.size+1,3,none⟩ (.slice A4 (2*(j+1)) c4)):=(blw);go_wp2_with fail;go_roundw;(case rel=>exact ⟨j+1,A4,c4,by omega,by go_num,R5,X5,hown5,k5⟩);(case measure=>simp [intOf];omega))));(have Xc:=X2.cell;intro K hK;go_simp;refine hK.out _ _ (D2.cell) (fun hHeld2=>?_);clear hK K hHeld Xc;have hHeld:=hHeld2;clear hHeld2;(try simp only [Act.put,sta_,scz_,scs_]));(refine call_op (i:=10) rfl (by kernel_rfl) (by rfl) (fun K hK=>?_);go_simp;(have D3:=D2.alloc (.cells #[.int .i64 0,.int .u64 (u64n r:Int),.string ByteArray.empty,.slice none 0 0,.int .i64 0,.int .u64 (u64n n:Int),.string ByteArray.empty,.slice none 0 0] 25);have R3:=R2.alloc (.cells #[.int .i64 0,.int .u64 (u64n r:Int),.string ByteArray.empty,.slice none 0 0,.int .i64 0,.int .u64 (u64n n:Int),.string ByteArray.empty,.slice none 0 0] 25);have X3:=X2.alloc (.cells #[.int .i64 0,.int .u64 (u64n r:Int),.string ByteArray.empty,.slice none 0 0,.int .i64 0,.int .u64 (u64n n:Int),.string ByteArray.empty,.slice none 0 0] 25));refine hK.out _ _ D3.cell (fun hHeld2=>?_);clear hK K hHeld;have hHeld:=hHeld2;clear hHeld2;(try simp only [Act.put,sta_,scz_,scs_]));(have O3:(w2.alloc (.cells #[.int .i64 0,.int .u64 (u64n r:Int),.string ByteArray.empty,.slice none 0 0,.int .i64 0,.int .u64 (u64n n:Int),.string ByteArray.empty,.slice none 0 0] 25)).ownsRow (w.heap.size+2) 25 4 (.slice A' (2*j) c') (2*j) (flatL (ivals (l.take j))):=own_below O2 (below_one _);have hsrc:=src_items (us:=[numV (u64n r),numV (u64n n)]) (cs:=#[.int .i64 0,.int .u64 (u64n r:Int),.string ByteArray.empty,.slice none 0 0,.int .i64 0,.int .u64 (u64n n:Int),.string ByteArray.empty,.slice none 0 0]) w2 (by simp [flatL,numV,Value.cells]) (fun u hu=>by simp at hu;rcases hu with rfl|rfl <;> exact four_num _ (u64n_lt _));(refine call_op (i:=11) rfl (by kernel_rfl) (by rfl) (fun K hK=>?_);((refine wp_app _ (.tmp 14) (.tmp 23) 23 rfl _ 25 i1 _ 4 56 Tryd.underlying23 hi hz0 hz1 hz2 rfl (by omega) _ _ _ rfl O3 _ _ _ _ rfl hsrc ?h63 ?hby ?hbase ?_);(case h63=>(unfold maxLen;first|omega|(simp;done)|(simp;omega)));(case hby=>first|omega|(simp;done)|(simp;omega));(case hbase=>first|omega|(simp;done)|(simp;omega));intro v4 w4 hownw4 hgroww4 hatw4 holdw4);(have X4:Blk w4 (w.heap.size+1) 25 _:=(hgroww4.block _ X3.lt (fun e=>by have:=(O3.lt _ e.symm).1;omega)).trans X3);(have R4:Blk w4 w.heap.size 25 _:=(hgroww4.block _ R3.lt (fun e=>by have:=(O3.lt _ e.symm).1;omega)).trans R3);(have D4:Blk w4 wr.heap.size 41 _:=(hgroww4.block _ D3.lt (fun e=>by have:=hol _ e.symm;omega)).trans D3);have k4:=below_app (B:=w.heap.size) (k2.alloc (by omega) _) O3 hgroww4 (by omega) (by simp;omega);refine hK.out _ _ D4.cell (fun hHeld2=>?_);clear hK K hHeld;have hHeld:=hHeld2;clear hHeld2;(try simp only [Act.put,sta_,scz_,scs_]));have hown4:w4.ownsRow (w.heap.size+2) 25 4 v4 (2*(j+1)) (flatL (ivals (l.take (j+1)))):=(by rw [Hiv.out,flatL_append];exact hownw4);obtain ⟨A4,c4,rfl,_,_⟩:=own_form7 hown4;have X4c:=X4.cell;have X4f:=X4.frozen;(refine take_op (i:=12) (v:=?_) rfl (by kernel_rfl) (by kernel_rfl) (by kernel_rfl) (fun _ _ _ h=>h) (by rfl) ?_ hHeld ?_;rotate_left;(· (intro wS hSw;(try dsimp only at hSw);go_simp;first|done|with_reducible rfl));simp only [Act.put,sta_,scz_,scs_]);have X5:Blk (w4.setCell ⟨w.heap.size+1,3,none⟩ (.slice A4 (2*(j+1)) c4)) (w.heap.size+1) 25 #[.int .i64 2,.int .u64 0,.string ⟨#[]⟩,.slice A4 (2*(j+1)) c4]:=(by have:=X4.set_ 3 (.slice A4 (2*(j+1)) c4);simpa using this);have D5:Blk (w4.setCell ⟨w.heap.size+1,3,none⟩ (.slice A4 (2*(j+1)) c4)) wr.heap.size 41 _:=D4.far (p:=⟨w.heap.size+1,3,none⟩) (by simp;omega) _;(refine call_op (i:=13) rfl (by kernel_rfl) (by rfl) (fun K hK=>?_);go_simp;skip;refine hK.out _ _ D5.cell (fun hHeld2=>?_);clear hK K hHeld;have hHeld:=hHeld2;clear hHeld2;(try simp only [Act.put,sta_,scz_,scs_]));(refine wpAnyH_done (by kernel_rfl) ?_ _);have R5:=R4.far (p:=⟨w.heap.size+1,3,none⟩) (by simp) (.slice A4 (2*(j+1)) c4);have hown5:=ownsRow_setCell_below hown4 (a:=⟨w.heap.size+1,3,none⟩) (by simp) (.slice A4 (2*(j+1)) c4);have k5:Below w.heap.size w (w4.setCell ⟨w.heap.size+1,3,none⟩ (.slice A4 (2*(j+1)) c4)):=(blw);go_wp2_with fail;go_roundw;(case rel=>exact ⟨j+1,A4,c4,by omega,by go_num,R5,X5,hown5,k5⟩);(case measure=>simp [intOf];omega)))));(have Xc:=X1.cell;intro K hK;go_simp;refine hK.out _ _ (D1.cell) (fun hHeld2=>?_);clear hK K hHeld Xc;have hHeld:=hHeld2;clear hHeld2;(try simp only [Act.put,sta_,scz_,scs_]));(refine call_op (i:=9) rfl (by kernel_rfl) (by rfl) (fun K hK=>?_);go_simp;(go_at_call 53;(with_reducible refine (hnb _).mono ?_);rintro e w2 ⟨rfl,hb2⟩;have D2:=D1.keep hb2;have R2:=R1.keep hb2;have X2:=X1.keep hb2;have O2:=own_below O1 hb2;have k2:=below_call k1 hb2 k1.size;have z2:=hb2.size);refine hK.out _ _ D2.cell (fun hHeld2=>?_);clear hK K hHeld;have hHeld:=hHeld2;clear hHeld2;(try simp only [Act.put,sta_,scz_,scs_]));(refine call_op (i:=10) rfl (by kernel_rfl) (by rfl) (fun K hK=>?_);go_simp;(have D3:=D2.alloc (.cells #[.int .i64 0,.int .u64 (u64n r:Int),.string ByteArray.empty,.slice none 0 0,.int .i64 0,.int .u64 (u64n n:Int),.string ByteArray.empty,.slice none 0 0] 25);have R3:=R2.alloc (.cells #[.int .i64 0,.int .u64 (u64n r:Int),.string ByteArray.empty,.slice none 0 0,.int .i64 0,.int .u64 (u64n n:Int),.string ByteArray.empty,.slice none 0 0] 25);have X3:=X2.alloc (.cells #[.int .i64 0,.int .u64 (u64n r:Int),.string ByteArray.empty,.slice none 0 0,.int .i64 0,.int .u64 (u64n n:Int),.string ByteArray.empty,.slice none 0 0] 25));refine hK.out _ _ D3.cell (fun hHeld2=>?_);clear hK K hHeld;have hHeld:=hHeld2;clear hHeld2;(try simp only [Act.put,sta_,scz_,scs_]));(have O3:(w2.alloc (.cells #[.int .i64 0,.int .u64 (u64n r:Int),.string ByteArray.empty,.slice none 0 0,.int .i64 0,.int .u64 (u64n n:Int),.string ByteArray.empty,.slice none 0 0] 25)).ownsRow (w.heap.size+2) 25 4 (.slice A' (2*j) c') (2*j) (flatL (ivals (l.take j))):=own_below O2 (below_one _);have hsrc:=src_items (us:=[numV (u64n r),numV (u64n n)]) (cs:=#[.int .i64 0,.int .u64 (u64n r:Int),.string ByteArray.empty,.slice none 0 0,.int .i64 0,.int .u64 (u64n n:Int),.string ByteArray.empty,.slice none 0 0]) w2 (by simp [flatL,numV,Value.cells]) (fun u hu=>by simp at hu;rcases hu with rfl|rfl <;> exact four_num _ (u64n_lt _));(refine call_op (i:=11) rfl (by kernel_rfl) (by rfl) (fun K hK=>?_);((refine wp_app _ (.tmp 14) (.tmp 23) 23 rfl _ 25 i1 _ 4 56 Tryd.underlying23 hi hz0 hz1 hz2 rfl (by omega) _ _ _ rfl O3 _ _ _ _ rfl hsrc ?h63 ?hby ?hbase ?_);(case h63=>(unfold maxLen;first|omega|(simp;done)|(simp;omega)));(case hby=>first|omega|(simp;done)|(simp;omega));(case hbase=>first|omega|(simp;done)|(simp;omega));intro v4 w4 hownw4 hgroww4 hatw4 holdw4);(have X4:Blk w4 (w.heap.size+1) 25 _:=(hgroww4.block _ X3.lt (fun e=>by have:=(O3.lt _ e.symm).1;omega)).trans X3);(have R4:Blk w4 w.heap.size 25 _:=(hgroww4.block _ R3.lt (fun e=>by have:=(O3.lt _ e.symm).1;omega)).trans R3);(have D4:Blk w4 wr.heap.size 41 _:=(hgroww4.block _ D3.lt (fun e=>by have:=hol _ e.symm;omega)).trans D3);have k4:=below_app (B:=w.heap.size) (k2.alloc (by omega) _) O3 hgroww4 (by omega) (by simp;omega);refine hK.out _ _ D4.cell (fun hHeld2=>?_);clear hK K hHeld;have hHeld:=hHeld2;clear hHeld2;(try simp only [Act.put,sta_,scz_,scs_]));have hown4:w4.ownsRow (w.heap.size+2) 25 4 v4 (2*(j+1)) (flatL (ivals (l.take (j+1)))):=(by rw [Hiv.out,flatL_append];exact hownw4);obtain ⟨A4,c4,rfl,_,_⟩:=own_form7 hown4;have X4c:=X4.cell;have X4f:=X4.frozen;(refine take_op (i:=12) (v:=?_) rfl (by kernel_rfl) (by kernel_rfl) (by kernel_rfl) (fun _ _ _ h=>h) (by rfl) ?_ hHeld ?_;rotate_left;(· (intro wS hSw;(try dsimp only at hSw);go_simp;first|done|with_reducible rfl));simp only [Act.put,sta_,scz_,scs_]);have X5:Blk (w4.setCell ⟨w.heap.size+1,3,none⟩ (.slice A4 (2*(j+1)) c4)) (w.heap.size+1) 25 #[.int .i64 2,.int .u64 0,.string ⟨#[]⟩,.slice A4 (2*(j+1)) c4]:=(by have:=X4.set_ 3 (.slice A4 (2*(j+1)) c4);simpa using this);have D5:Blk (w4.setCell ⟨w.heap.size+1,3,none⟩ (.slice A4 (2*(j+1)) c4)) wr.heap.size 41 _:=D4.far (p:=⟨w.heap.size+1,3,none⟩) (by simp;omega) _;(refine call_op (i:=13) rfl (by kernel_rfl) (by rfl) (fun K hK=>?_);go_simp;skip;refine hK.out _ _ D5.cell (fun hHeld2=>?_);clear hK K hHeld;have hHeld:=hHeld2;clear hHeld2;(try simp only [Act.put,sta_,scz_,scs_]));(refine wpAnyH_done (by kernel_rfl) ?_ _);have R5:=R4.far (p:=⟨w.heap.size+1,3,none⟩) (by simp) (.slice A4 (2*(j+1)) c4);have hown5:=ownsRow_setCell_below hown4 (a:=⟨w.heap.size+1,3,none⟩) (by simp) (.slice A4 (2*(j+1)) c4);have k5:Below w.heap.size w (w4.setCell ⟨w.heap.size+1,3,none⟩ (.slice A4 (2*(j+1)) c4)):=(blw);go_wp2_with fail;go_roundw;(case rel=>exact ⟨j+1,A4,c4,by omega,by go_num,R5,X5,hown5,k5⟩);(case measure=>simp [intOf];omega)))));(have Xc:=X0.cell;intro K hK;go_simp;refine hK.out _ _ (D0.cell) (fun hHeld2=>?_);clear hK K hHeld Xc;have hHeld:=hHeld2;clear hHeld2;(try simp only [Act.put,sta_,scz_,scs_]));(refine call_op (i:=5) rfl (by kernel_rfl) (by rfl) (fun K hK=>?_);go_simp;(go_at_call 53;(with_reducible refine (hna _).mono ?_);rintro e w1 ⟨rfl,hb1⟩;have D1:=D0.keep hb1;have R1:=R0.keep hb1;have X1:=X0.keep hb1;have O1:=own_below O0 hb1;have k1:=below_call k0 hb1 k0.size;have z1:=hb1.size);refine hK.out _ _ D1.cell (fun hHeld2=>?_);clear hK K hHeld;have hHeld:=hHeld2;clear hHeld2;(try simp only [Act.put,sta_,scz_,scs_]));(refine call_op (i:=9) rfl (by kernel_rfl) (by rfl) (fun K hK=>?_);go_simp;(go_at_call 53;(with_reducible refine (hnb _).mono ?_);rintro e w2 ⟨rfl,hb2⟩;have D2:=D1.keep hb2;have R2:=R1.keep hb2;have X2:=X1.keep hb2;have O2:=own_below O1 hb2;have k2:=below_call k1 hb2 k1.size;have z2:=hb2.size);refine hK.out _ _ D2.cell (fun hHeld2=>?_);clear hK K hHeld;have hHeld:=hHeld2;clear hHeld2;(try simp only [Act.put,sta_,scz_,scs_]));(refine call_op (i:=10) rfl (by kernel_rfl) (by rfl) (fun K hK=>?_);go_simp;(have D3:=D2.alloc (.cells #[.int .i64 0,.int .u64 (u64n r:Int),.string ByteArray.empty,.slice none 0 0,.int .i64 0,.int .u64 (u64n n:Int),.string ByteArray.empty,.slice none 0 0] 25);have R3:=R2.alloc (.cells #[.int .i64 0,.int .u64 (u64n r:Int),.string ByteArray.empty,.slice none 0 0,.int .i64 0,.int .u64 (u64n n:Int),.string ByteArray.empty,.slice none 0 0] 25);have X3:=X2.alloc (.cells #[.int .i64 0,.int .u64 (u64n r:Int),.string ByteArray.empty,.slice none 0 0,.int .i64 0,.int .u64 (u64n n:Int),.string ByteArray.empty,.slice none 0 0] 25));refine hK.out _ _ D3.cell (fun hHeld2=>?_);clear hK K hHeld;have hHeld:=hHeld2;clear hHeld2;(try simp only [Act.put,sta_,scz_,scs_]));(have O3:(w2.alloc (.cells #[.int .i64 0,.int .u64 (u64n r:Int),.string ByteArray.empty,.slice none 0 0,.int .i64 0,.int .u64 (u64n n:Int),.string ByteArray.empty,.slice none 0 0] 25)).ownsRow (w.heap.size+2) 25 4 (.slice A' (2*j) c') (2*j) (flatL (ivals (l.take j))):=own_below O2 (below_one _);have hsrc:=src_items (us:=[numV (u64n r),numV (u64n n)]) (cs:=#[.int .i64 0,.int .u64 (u64n r:Int),.string ByteArray.empty,.slice none 0 0,.int .i64 0,.int .u64 (u64n n:Int),.string ByteArray.empty,.slice none 0 0]) w2 (by simp [flatL,numV,Value.cells]) (fun u hu=>by simp at hu;rcases hu with rfl|rfl <;> exact four_num _ (u64n_lt _));(refine call_op (i:=11) rfl (by kernel_rfl) (by rfl) (fun K hK=>?_);((refine wp_app _ (.tmp 14) (.tmp 23) 23 rfl _ 25 i1 _ 4 56 Tryd.underlying23 hi hz0 hz1 hz2 rfl (by omega) _ _ _ rfl O3 _ _ _ _ rfl hsrc ?h63 ?hby ?hbase ?_);(case h63=>(unfold maxLen;first|omega|(simp;done)|(simp;omega)));(case hby=>first|omega|(simp;done)|(simp;omega));(case hbase=>first|omega|(simp;done)|(simp;omega));intro v4 w4 hownw4 hgroww4 hatw4 holdw4);(have X4:Blk w4 (w.heap.size+1) 25 _:=(hgroww4.block _ X3.lt (fun e=>by have:=(O3.lt _ e.symm).1;omega)).trans X3);(have R4:Blk w4 w.heap.size 25 _:=(hgroww4.block _ R3.lt (fun e=>by have:=(O3.lt _ e.symm).1;omega)).trans R3);(have D4:Blk w4 wr.heap.size 41 _:=(hgroww4.block _ D3.lt (fun e=>by have:=hol _ e.symm;omega)).trans D3);have k4:=below_app (B:=w.heap.size) (k2.alloc (by omega) _) O3 hgroww4 (by omega) (by simp;omega);refine hK.out _ _ D4.cell (fun hHeld2=>?_);clear hK K hHeld;have hHeld:=hHeld2;clear hHeld2;(try simp only [Act.put,sta_,scz_,scs_]));have hown4:w4.ownsRow (w.heap.size+2) 25 4 v4 (2*(j+1)) (flatL (ivals (l.take (j+1)))):=(by rw [Hiv.out,flatL_append];exact hownw4);obtain ⟨A4,c4,rfl,_,_⟩:=own_form7 hown4;have X4c:=X4.cell;have X4f:=X4.frozen;(refine take_op (i:=12) (v:=?_) rfl (by kernel_rfl) (by kernel_rfl) (by kernel_rfl) (fun _ _ _ h=>h) (by rfl) ?_ hHeld ?_;rotate_left;(· (intro wS hSw;(try dsimp only at hSw);go_simp;first|done|with_reducible rfl));simp only [Act.put,sta_,scz_,scs_]);have X5:Blk (w4.setCell ⟨w.heap.size+1,3,none⟩ (.slice A4 (2*(j+1)) c4)) (w.heap.size+1) 25 #[.int .i64 2,.int .u64 0,.string ⟨#[]⟩,.slice A4 (2*(j+1)) c4]:=(by have:=X4.set_ 3 (.slice A4 (2*(j+1)) c4);simpa using this);have D5:Blk (w4.setCell ⟨w.heap.size+1,3,none⟩ (.slice A4 (2*(j+1)) c4)) wr.heap.size 41 _:=D4.far (p:=⟨w.heap.size+1,3,none⟩) (by simp;omega) _;(refine call_op (i:=13) rfl (by kernel_rfl) (by rfl) (fun K hK=>?_);go_simp;skip;refine hK.out _ _ D5.cell (fun hHeld2=>?_);clear hK K hHeld;have hHeld:=hHeld2;clear hHeld2;(try simp only [Act.put,sta_,scz_,scs_]));(refine wpAnyH_done (by kernel_rfl) ?_ _);have R5:=R4.far (p:=⟨w.heap.size+1,3,none⟩) (by simp) (.slice A4 (2*(j+1)) c4);have hown5:=ownsRow_setCell_below hown4 (a:=⟨w.heap.size+1,3,none⟩) (by simp) (.slice A4 (2*(j+1)) c4);have k5:Below w.heap.size w (w4.setCell ⟨w.heap.size+1,3,none⟩ (.slice A4 (2*(j+1)) c4)):=(blw);go_wp2_with fail;go_roundw;(case rel=>exact ⟨j+1,A4,c4,by omega,by go_num,R5,X5,hown5,k5⟩);(case measure=>simp [intOf];omega)))
  ·obtain rfl:j=m:=by omega
   have hin:=hin_nums hown (by have:=Hm.out;simp;omega)
   have hlt':List.take j l=l:=List.take_of_length_le (by have:=Hm.out;omega)
   rw [hlt'] at hin
   have Hin:=Lib.hid hin
   have Rc:=hR.cell
   have Rf:=hR.frozen
   have Xc:=hX.cell
   clear hin hR hX hown hlt' hnum
   go_wp2_with fail
   refine bodyPost_ret (v:=listV A' (2*j) c') (by simp [results,Tryd.results80,go_sem, *] <;> rfl) rfl ?_
   exact ⟨A',c',rfl,(hin_set4 Hin.out (by simp) _ _ _ _).mono (fun b hb=>by omega),blw⟩
end Go.Proofs.YtlolnakeancenaaDoor
namespace Go.Proofs.YtlolnakeancenaaDoor
open Go.RowKit
set_option linter.unusedVariables false
set_option linter.unusedSimpArgs false
set_option maxRecDepth 20000
attribute [local go_sem ↓] Go.wp_at_zero Go.wp_at_succ
attribute [local go_sem] World.cell?_alloc_some frozen_alloc_some
attribute [local go_sem] lt2 lt3 lt4 lt5
attribute [local simp] lt2 lt3 lt4 lt5
theorem add_block (a:Addr) (i:Nat):(a.add i).block=a.block:=by
 unfold Addr.add;split <;> rfl
theorem conv_bytes {w:World} {A:Option Addr} {n:Nat} {l:List Nat} (hb:Bytes w A n l) (c:Nat):
  (convert 28 9 (.slice A n c)).run Tryd.prog w= .ok (.string (ofBytes l)) w:=by
 have hl:=hb.1
 cases A with
 |none=>
  have h0:l=[]:=by
   cases l with
   |nil=>rfl
   |cons x l=>
    obtain ⟨_,ad,e,_⟩:=hb.2.2 0 x rfl
    cases e
  subst h0
  rw [run_convert_bytes_nil (P:=Tryd.prog) w 28 5 Tryd.underlying28 Tryd.underlying5 n c 9 Tryd.underlying9]
  rfl
 |some ad=>
  have key:=run_convert_bytes_back (P:=Tryd.prog) w 28 9 5 ad c (l.map fun c=>UInt8.ofNat c) Tryd.underlying28 Tryd.underlying5 Tryd.underlying9 (fun j hj=>by
   have hj':j<l.length:=by simpa using hj
   obtain ⟨hlt,ad',e,hc⟩:=hb.2.2 j l[j] (List.getElem?_eq_getElem hj')
   cases e
   rw [hc]
   simp [Nat.mod_eq_of_lt hlt])
  rw [List.length_map,←hl] at key
  exact key
/-- The reader in block g: the bytes L, and how far it is. -/
structure RD (w:World) (g:Nat) (A:Option Addr) (n cap:Nat) (L:List Nat) (a:Nat):Prop where
 blk:Blk w g 93 #[.slice A n cap,.int .i64 (a:Int)]
 bytes:Bytes w A n L
 apart:0<n→∀ad,A=some ad→ad.block≠g
 le:n≤cap
 max:cap≤maxLen
 at_:a≤n
theorem Bytes.grown {w w':World} {A:Option Addr} {n:Nat} {L:List Nat} {g:Nat} (h:Bytes w A n L) (hg:w.grownBy w' (some g)) (hA:0<n→∀ad,A=some ad→ad.block≠g):Bytes w' A n L:=
 ⟨h.1,h.2.1,fun i c hi=>by
  obtain ⟨h1,ad,e,hc⟩:=h.2.2 i c hi
  refine ⟨h1,ad,e,?_⟩
  rw [←hc]
  have hlt:(ad.add i).block<w.heap.size:=World.block_lt_of_cell? _ _ hc
  rw [add_block] at hlt
  exact World.cell?_of_block (w:=w) (by rw [add_block];exact hg.block _ hlt fun e2=>by injection e2 with e2;exact hA (by have:=h.1;have:=(List.getElem?_eq_some_iff.1 hi).1;omega) ad e e2)⟩
theorem RD.below {w w':World} {g:Nat} {A:Option Addr} {n cap:Nat} {L:List Nat} {a:Nat} (h:RD w g A n cap L a) (hb:Below w.heap.size w w'):RD w' g A n cap L a:=
 ⟨h.blk.keep hb,h.bytes.keep hb,h.apart,h.le,h.max,h.at_⟩
/-- It has moved on. -/
structure Moved (w:World) (g:Nat) (A:Option Addr) (n cap:Nat) (w':World) (a:Nat):Prop where
 grown:w.grownBy w' (some g)
 blk:Blk w' g 93 #[.slice A n cap,.int .i64 (a:Int)]
 le:a≤n
theorem RD.moved {w w':World} {g:Nat} {A:Option Addr} {n cap:Nat} {L:List Nat} {a a':Nat} (h:RD w g A n cap L a) (hm:Moved w g A n cap w' a'):RD w' g A n cap L a':=
 ⟨hm.blk,h.bytes.grown hm.grown h.apart,h.apart,h.le,h.max,hm.le⟩
theorem grown_same {a b c:World} {g:Nat} (h:a.grownBy b (some g)) (k:b.grownBy c (some g)):a.grownBy c (some g):=grown_trans' h k (.inl rfl)
theorem grown_below {a b c:World} {g:Nat} (h:a.grownBy b (some g)) (k:Below b.heap.size b c):a.grownBy c (some g):=grown_trans' h (grown_of_below k (some g)) (.inl rfl)
theorem Moved.trans {w w1 w2:World} {g:Nat} {A:Option Addr} {n cap:Nat} {a1 a2:Nat} (h:Moved w g A n cap w1 a1) (k:Moved w1 g A n cap w2 a2):Moved w g A n cap w2 a2:=⟨grown_same h.grown k.grown,k.blk,k.le⟩
theorem Moved.below {w w1 w2:World} {g:Nat} {A:Option Addr} {n cap:Nat} {a1:Nat} (h:Moved w g A n cap w1 a1) (hb:Below w1.heap.size w1 w2):Moved w g A n cap w2 a1:=⟨grown_below h.grown hb,h.blk.keep hb,h.le⟩
theorem grown_set {w w1:World} {g i:Nat} {u:Value} (h:w.grownBy w1 (some g)):w.grownBy (w1.setCell ⟨g,i,none⟩ u) (some g):=
 ⟨h.os,h.tape,h.output,by simpa using h.size,fun k hk hne=>by
  rw [Below.heap_setCell w1 ⟨g,i,none⟩ u k (fun e=>hne (by rw [e]))]
  exact h.block k hk hne⟩
/-- The place is stored anew. -/
theorem RD.store {w w1:World} {g:Nat} {A:Option Addr} {n cap:Nat} {L:List Nat} {a a':Nat} (h:RD w g A n cap L a) (hb:Below w.heap.size w w1) (ha:a'≤n):Moved w g A n cap (w1.setCell ⟨g,1,none⟩ (.int .i64 (a':Int))) a':=
 ⟨grown_set (grown_of_below hb (some g)),by have:=(h.blk.keep hb).set_ 1 (.int .i64 (a':Int));simpa using this,ha⟩
theorem Moved.store {w w1 w2:World} {g:Nat} {A:Option Addr} {n cap:Nat} {a a':Nat} (h:Moved w g A n cap w1 a) (hb:Below w1.heap.size w1 w2) (ha:a'≤n):Moved w g A n cap (w2.setCell ⟨g,1,none⟩ (.int .i64 (a':Int))) a':=
 ⟨grown_set (grown_below h.grown hb),by have:=(h.blk.keep hb).set_ 1 (.int .i64 (a':Int));simpa using this,ha⟩
/-- What number gives: the number at the place, and the reader has moved on; or it panics. -/
def Numbered (w:World) (g:Nat) (A:Option Addr) (n cap:Nat) (a:Nat) (x:Nat × Nat × Nat) (r:Ending) (w':World):Prop:=
 (x.2.2=0∧r= .returned (.int .u64 (x.1:Int))∧Moved w g A n cap w' (a+x.2.1))∨(x.2.2≠0∧r= .panicked (goes x.2.2 a)∧w.grownBy w' (some g))
set_option maxHeartbeats 4000000 in
theorem number_any (g:Nat) (A:Option Addr) (n cap:Nat) (L:List Nat) (a:Nat) (w:World) (h:RD w g A n cap L a):
  Calls Tryd.prog 75 #[.pointer (some ⟨g,0,none⟩)] w (Numbered w g A n cap a (ntake (L.drop a))):=by
 have Hrd:=Lib.hid h
 have c0:w.cell? ⟨g,0,none⟩=some (.slice A n cap):=by rw [h.blk.cell];rfl
 have c1:w.cell? ⟨g,1,none⟩=some (.int .i64 (a:Int)):=by rw [h.blk.cell];rfl
 have f1:w.frozen? ⟨g,1,none⟩=false:=h.blk.frozen 1
 have han:=h.at_
 have hnc:=h.le
 have hcm:=h.max
 have hB:=h.bytes.cutFrom (k:=a) (cap:=cap) h.at_ h.le
 have hln:=h.bytes.1
 have hle:=ntake_le (L.drop a)
 rw [List.length_drop,←hln] at hle
 obtain ⟨B2,hB2⟩:∃B2,(if cap=a then A else Option.map (fun x=>x.add a) A)=B2:=⟨_,rfl⟩
 rw [hB2] at hB
 have htk:∀W,Below w.heap.size w W→Calls Tryd.prog 98 #[.slice B2 (n - a) (cap - a)] W (Gives W (takeV (L.drop a))):=fun W hb=>take_any B2 (n - a) (cap - a) (L.drop a) W (hB.keep hb)
 unfold takeV at htk
 unfold maxLen at hcm
 have herr:=ntake_errs (L.drop a)
 generalize ntake (L.drop a)=x at*
 obtain ⟨v,m,e⟩:=x
 simp only at htk hle herr ⊢
 clear h hB hln
 by_cases he:e=0
 ·subst he
  clear herr
  go_enter Tryd.func75,Tryd.ntmps75
  go_wp2_with fail
  go_region_held3 (fun w'=>Below w.heap.size w w'∧w'.cell? ⟨g,0,none⟩=some (.slice A n cap)∧w'.cell? ⟨g,1,none⟩=some (.int .i64 (a:Int))∧w'.frozen? ⟨g,1,none⟩=false) ((go_split_ands;(repeat' apply And.intro) <;> (try simp only [World.cell?_drew,World.frozen?_drew]) <;> (first|with_reducible assumption|(exact cell_keep (by with_reducible assumption) (by with_reducible assumption))|(exact frozen_keep (by with_reducible assumption) (by with_reducible assumption) (by with_reducible assumption))|exact blw))) ((go_at_call 98;(with_reducible refine (htk _ ?hbel).mono ?_);(case hbel=>(go_split_ands;exact blw));rintro e w1 ⟨rfl,hbw1⟩;have hzw1:=hbw1.size;(try simp at hzw1)))
  all_goals
   go_split_ands
   go_wp2_with fail
   go_ret
   refine .inl ⟨rfl,rfl,?_⟩
   have:=Hrd.out.store (w1:=w1) (a':=a+m) (by assumption) (by omega)
   simpa using this
 ·have he':((e:Int) != 0)=true:=by simp;omega
  go_enter Tryd.func75,Tryd.ntmps75
  go_wp2_with fail
  go_region_held3 (fun w'=>Below w.heap.size w w'∧w'.cell? ⟨g,0,none⟩=some (.slice A n cap)∧w'.cell? ⟨g,1,none⟩=some (.int .i64 (a:Int))∧w'.frozen? ⟨g,1,none⟩=false) ((go_split_ands;(repeat' apply And.intro) <;> (try simp only [World.cell?_drew,World.frozen?_drew]) <;> (first|with_reducible assumption|(exact cell_keep (by with_reducible assumption) (by with_reducible assumption))|(exact frozen_keep (by with_reducible assumption) (by with_reducible assumption) (by with_reducible assumption))|exact blw))) ((go_at_call 98;(with_reducible refine (htk _ ?hbel).mono ?_);(case hbel=>(go_split_ands;exact blw));rintro e w1 ⟨rfl,hbw1⟩;have hzw1:=hbw1.size;(try simp at hzw1)))
  all_goals
   go_split_ands
   go_wp2_with fail
   exact ⟨rfl,.inr ⟨he,rfl,grown_of_below (by assumption) _⟩⟩
/-- What room gives: a number that is at most how many bytes are left. -/
def Roomed (w:World) (g:Nat) (A:Option Addr) (n cap:Nat) (a:Nat) (x:Nat × Nat × Nat) (r:Ending) (w':World):Prop:=
 (x.2.2=0∧x.1≤n - (a+x.2.1)∧r= .returned (.int .i64 (x.1:Int))∧Moved w g A n cap w' (a+x.2.1))∨
 (x.2.2=0∧n - (a+x.2.1)<x.1∧r= .panicked (goes 2 (a+x.2.1))∧w.grownBy w' (some g))∨
 (x.2.2≠0∧r= .panicked (goes x.2.2 a)∧w.grownBy w' (some g))
set_option maxHeartbeats 4000000 in
theorem room_any (g:Nat) (A:Option Addr) (n cap:Nat) (L:List Nat) (a:Nat) (w:World) (h:RD w g A n cap L a):
  Calls Tryd.prog 76 #[.pointer (some ⟨g,0,none⟩)] w (Roomed w g A n cap a (ntake (L.drop a))):=by
 have hnum:=number_any g A n cap L a w h
 have hnc:=h.le
 have hcm:=h.max
 have hnt:(ntake (L.drop a)).2.2=0→(ntake (L.drop a)).1<2 ^ 64:=fun he=>(ntake_back (fun c hc=>h.bytes.lt c (List.mem_of_mem_drop hc)) he).2.2.2
 unfold maxLen at hcm
 generalize ntake (L.drop a)=x at*
 obtain ⟨v,m,e⟩:=x
 simp only at hnt
 clear h
 go_enter Tryd.func76,Tryd.ntmps76
 go_wp2_with fail
 refine hnum.mono ?_
 rintro r w1 (⟨he,rfl,hmv⟩|⟨he,rfl,hgr⟩)
 ·simp only at he
  subst he
  have hv:=hnt rfl
  have c0:w1.cell? ⟨g,0,none⟩=some (.slice A n cap):=by rw [hmv.blk.cell];rfl
  have c1:w1.cell? ⟨g,1,none⟩=some (.int .i64 ((a+m:Nat):Int)):=by rw [hmv.blk.cell];rfl
  have hb:=hmv.le
  have Hmv:=Lib.hid hmv
  simp only at hb c1 ⊢
  obtain ⟨b,hbb⟩:∃b,b=a+m:=⟨_,rfl⟩
  have Hbb:=Lib.hid hbb
  rw [←hbb] at hb c1
  clear hbb hmv hnum hnt
  have hw0:IntKind.i64.wrap ((n:Int) - (b:Int))=((n - b:Nat):Int):=by rw [IntWalk.i64_in _ (by omega)];omega
  have hw1:IntKind.u64.wrap ((n - b:Nat):Int)=((n - b:Nat):Int):=by rw [wrap_u64];omega
  go_wp2_with fail
  go_region_held3 (fun w'=>Below w1.heap.size w1 w'∧w'.cell? ⟨g,0,none⟩=some (.slice A n cap)∧w'.cell? ⟨g,1,none⟩=some (.int .i64 (b:Int))) ((go_split_ands;(repeat' apply And.intro) <;> (try simp only [World.cell?_drew,World.frozen?_drew]) <;> (first|with_reducible assumption|(exact cell_keep (by with_reducible assumption) (by with_reducible assumption))|(exact frozen_keep (by with_reducible assumption) (by with_reducible assumption) (by with_reducible assumption))|exact blw))) (fail)
  all_goals
   go_split_ands
   by_cases hfit:v≤n - b
   ·have hf2:¬((n - b:Nat):Int)<(v:Int):=by omega
    have hf3:IntKind.i64.wrap (v:Int)=(v:Int):=IntWalk.i64_in _ (by omega)
    have hf4:wrap64 (v:Int)=(v:Int):=by simp only [wrap64];omega
    go_wp2_with fail
    go_ret
    exact .inl ⟨rfl,by rw [←Hbb.out];exact hfit,rfl,Hmv.out.below (by assumption)⟩
   ·have hf2:((n - b:Nat):Int)<(v:Int):=by omega
    go_wp2_with fail
    exact ⟨rfl,.inr (.inl ⟨rfl,by rw [←Hbb.out];simp only;omega,by rw [←Hbb.out];rfl,grown_below Hmv.out.grown (by assumption)⟩)⟩
 ·exact ⟨rfl,.inr (.inr ⟨he,rfl,hgr⟩)⟩
end Go.Proofs.YtlolnakeancenaaDoor
namespace Go.Proofs.YtlolnakeancenaaDoor
open Go.RowKit
set_option linter.unusedVariables false
set_option linter.unusedSimpArgs false
set_option maxRecDepth 20000
attribute [local go_sem ↓] Go.wp_at_zero Go.wp_at_succ
attribute [local go_sem] World.cell?_alloc_some frozen_alloc_some
open Go.ChangeShapes Go.WideShapes Go.ChangeAt Go.Deep
structure RecT where
 i:Int
 n:Int
 st:Int
 br:Int
 bb:Int
 tr:Int
 tb:Int
 k:Int
 c:Int
 q:Int
 y:ByteArray
 x:ByteArray
 r:Int
 A:Option Addr
 m:Nat
 cap:Nat
 sq:Int
 tg:Int
 l:List IdP
/-- The record's sixteen cells. -/
def RecT.v (r:RecT):Value:=.agg #[.int .i64 r.i,.int .i64 r.n,.int .i64 r.st,.int .i64 r.br,.int .i64 r.bb,.int .i64 r.tr,.int .i64 r.tb,.int .i64 r.k,.int .i64 r.c,.int .i64 r.q,.string r.y,.string r.x,.int .i64 r.r,.slice r.A r.m r.cap,.int .i64 r.sq,.int .i64 r.tg]
def RecT.p (r:RecT):AttrP:=⟨r.l,r.sq,r.tg⟩
/-- What is true of every record. -/
structure RecT.Ok (w:World) (R:RecT):Prop where
 i:(Lit.int .i64 R.i).wf=true
 n:(Lit.int .i64 R.n).wf=true
 st:(Lit.int .i64 R.st).wf=true
 br:(Lit.int .i64 R.br).wf=true
 bb:(Lit.int .i64 R.bb).wf=true
 tr:(Lit.int .i64 R.tr).wf=true
 tb:(Lit.int .i64 R.tb).wf=true
 k:(Lit.int .i64 R.k).wf=true
 c:(Lit.int .i64 R.c).wf=true
 q:(Lit.int .i64 R.q).wf=true
 y:R.y.size≤maxLen
 x:R.x.size≤maxLen
 r:(Lit.int .i64 R.r).wf=true
 m:R.m≤R.cap
 cap:R.m≤R.cap
 l:IdsAt w R.A R.m R.l
 sq:(Lit.int .i64 R.sq).wf=true
 tg:(Lit.int .i64 R.tg).wf=true
theorem RecT.Ok.keep {w w':World} {r:RecT} (h:r.Ok w) (hb:Below w.heap.size w w'):r.Ok w':={ h with l:=h.l.keep hb }
attribute [local go_sem ↓ high] id_neq_run id_eql_run bal_eql_run bal_neq_run cmd_neq_run cmd_eql_run
end Go.Proofs.YtlolnakeancenaaDoor
namespace Go.Proofs.YtlolnakeancenaaDoor
open Go.RowKit
set_option linter.unusedVariables false
set_option linter.unusedSimpArgs false
set_option maxRecDepth 20000
attribute [local go_sem ↓] Go.wp_at_zero Go.wp_at_succ
attribute [local go_sem] World.cell?_alloc_some frozen_alloc_some
def cgreat (y x:ByteArray):Bool:=decide (200<y.size)||decide (2000<x.size)
theorem great_any (k c q:Int) (y x:ByteArray) (r:Int) (w:World):
  Calls Tryd.prog 34 #[.agg #[.int .i64 k,.int .i64 c,.int .i64 q,.string y,.string x,.int .i64 r]] w (Gives w (.bool (cgreat y x))):=by
 obtain ⟨R,hR⟩:∃R,R=cgreat y x:=⟨_,rfl⟩
 rw [←hR]
 unfold cgreat at hR
 have HR:=Lib.hid hR
 clear hR
 by_cases h1:200<y.size
 ·have h1':(200:Int)<(y.size:Int):=by omega
  go_enter Tryd.func34,Tryd.ntmps34
  go_wp2_with fail
  go_ret
  exact ⟨by rw [HR.out];simp [h1],blw⟩
 ·have h1':¬(200:Int)<(y.size:Int):=by omega
  by_cases h2:2000<x.size
  ·have h2':(2000:Int)<(x.size:Int):=by omega
   go_enter Tryd.func34,Tryd.ntmps34
   go_wp2_with fail
   go_ret
   exact ⟨by rw [HR.out];simp [h1,h2],blw⟩
  ·have h2':¬(2000:Int)<(x.size:Int):=by omega
   go_enter Tryd.func34,Tryd.ntmps34
   go_wp2_with fail
   go_ret
   exact ⟨by rw [HR.out];simp [h1,h2],blw⟩
end Go.Proofs.YtlolnakeancenaaDoor
