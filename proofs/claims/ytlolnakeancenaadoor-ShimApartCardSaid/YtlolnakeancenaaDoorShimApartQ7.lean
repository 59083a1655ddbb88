/- The walks of package stonecropref03 on items: Form. The walks of package stonecropref03 on items: Form of any item that is right, Put, Same. The walks of package stonecropref03 on items: Same. Trees as values of type any: what the program's inner functions hand on. The walks of package crc: reckon, Sum; and of the document's Sum (stonecropref02), Pick (stonecropref01). -/
import Derived.Test.YtlolnakeancenaaDoorShimApartQ0
import Derived.Test.YtlolnakeancenaaDoorShimApartQ3
import Derived.Test.YtlolnakeancenaaDoorShimApartQ4
import Derived.Lib.ConvBytes
import Derived.Laws.MakeOwn
namespace Go.Proofs.YtlolnakeancenaaDoor
open Go.RowKit
set_option linter.unusedVariables false
set_option linter.unusedSimpArgs false
set_option maxRecDepth 20000
attribute [local go_sem ↓] Go.wp_at_zero Go.wp_at_succ
attribute [local go_sem] World.cell?_alloc_some frozen_alloc_some
attribute [local go_sem] lt2 lt3 lt4 lt5
attribute [local simp] lt2 lt3 lt4 lt5
theorem OwnB.lower {w:World} {base base':Nat} {e:TypeId} {v:Value} {l:List Nat} (h:OwnB w base e v l) (hb:base'≤base):OwnB w base' e v l:=by
 refine ⟨⟨h.1.1,?_⟩,h.2⟩
 rcases h.1.2 with h1|⟨g,cap,cur,e1,h1,h2⟩
 ·exact .inl h1
 ·exact .inr ⟨g,cap,cur,e1,by omega,h2⟩
theorem below_lit {w:World} {o o2:Obj}:Below (w.heap.size+1) (w.alloc o) ((w.alloc o).alloc o2):=(Below.refl _ _).alloc (by simp) _
theorem below_box {w w':World} {o:Obj} (h:Below (w.heap.size+1) (w.alloc o) w'):Below w.heap.size w w':=(below_one o).trans (h.mono (by omega))
theorem box_cell {w w':World} {c:Array Value} {t:TypeId} (h:Below (w.heap.size+1) (w.alloc (.cells c t)) w') (i:Nat) {v:Value} (hv:c[i]? =some v):w'.cell? ⟨w.heap.size,i,none⟩=some v:=
 (h.cell (p:=⟨w.heap.size,i,none⟩) (Nat.lt_succ_self _)).trans (new_cell w c t i hv).1
end Go.Proofs.YtlolnakeancenaaDoor
namespace Go.Proofs.YtlolnakeancenaaDoor
open Go.RowKit
set_option linter.unusedVariables false
set_option linter.unusedSimpArgs false
set_option maxRecDepth 20000
attribute [local go_sem ↓] Go.wp_at_zero Go.wp_at_succ
attribute [local go_sem] World.cell?_alloc_some frozen_alloc_some
attribute [local go_sem] lt2 lt3 lt4 lt5
attribute [local simp] lt2 lt3 lt4 lt5
theorem Holds.fit {w:World} {t:Tree} {v:Value} (h:Holds w t v):Fit t:=by
 induction h with
 |mk k n s l A m c vs hk hn hs hm hmc hc hcell hsub ih=>
  refine .mk k n s l hn (by unfold maxLen at hs;omega) (by unfold maxLen at hc;omega) fun t ht=>?_
  obtain ⟨i,hi,rfl⟩:=List.mem_iff_getElem.1 ht
  exact ih i _ (List.getElem?_eq_getElem hi)
theorem tsizes_le_take (l:List Tree) (j:Nat):tsizes (l.take j)≤tsizes l:=by
 conv=>rhs;rw [←List.take_append_drop j l,tsizes_append]
 omega
/-- The form of a tree and the error: what the document says. -/
def perr (t:Tree):Nat:=if check t 0≠0 then check t 0 else if 1048576<(tform t).length then 12 else 0
def pform (t:Tree):List Nat:=if perr t=0 then tform t else []
def Puts (w:World) (k:IntKind) (e:TypeId) (l:List Nat) (err:Nat) (r:Ending) (w':World):Prop:=
 ∃v,r= .returned (.tuple #[v,.int k (err:Int)])∧OwnB w' w.heap.size e v l∧Below w.heap.size w w'
end Go.Proofs.YtlolnakeancenaaDoor
namespace Go.Proofs.YtlolnakeancenaaDoor
open Go.RowKit
set_option linter.unusedVariables false
set_option linter.unusedSimpArgs false
set_option maxRecDepth 20000
attribute [local go_sem ↓] Go.wp_at_zero Go.wp_at_succ
attribute [local go_sem] World.cell?_alloc_some frozen_alloc_some
attribute [local go_sem] lt2 lt3 lt4 lt5
attribute [local simp] lt2 lt3 lt4 lt5
open Classical in
/-- Two trees are one. -/
noncomputable def tsame (t u:Tree):Bool:=decide (t=u)
theorem tsame_self (t:Tree):tsame t t=true:=by simp [tsame]
theorem tsame_iff {t u:Tree}:tsame t u=true↔t=u:=by simp [tsame]
theorem tsame_no {t u:Tree} (h:t≠u):tsame t u=false:=by simp [tsame,h]
theorem list_parts {l m:List Tree} {j:Nat} (h:l.take j=m.take j) (h1:j<l.length) (h2:j<m.length) (he:l[j]=m[j]):l.take (j+1)=m.take (j+1):=by
 rw [List.take_add_one,List.take_add_one,h,List.getElem?_eq_getElem h1,List.getElem?_eq_getElem h2,he]
theorem toList_inj {s t:ByteArray} (h:s.toList=t.toList):s=t:=by
 obtain ⟨⟨a⟩⟩:=s
 obtain ⟨⟨b⟩⟩:=t
 simp only [ByteArray.toList_eq] at h
 rw [show a=b from h]
end Go.Proofs.YtlolnakeancenaaDoor
namespace Go.Proofs.YtlolnakeancenaaDoor
open Go.RowKit
set_option linter.unusedVariables false
set_option linter.unusedSimpArgs false
set_option maxRecDepth 20000
attribute [local go_sem ↓] Go.wp_at_zero Go.wp_at_succ
attribute [local go_sem] World.cell?_alloc_some frozen_alloc_some
/-- What is behind a value of type any that is the tree; all of it lies in blocks of S. -/
inductive Tall (w:World) (S:Nat→Prop):Tree→Value→Prop
 |num (n:Nat) (hn:n<2 ^ 64):Tall w S (.mk 0 n ByteArray.empty []) (.iface 22 (.int .u64 (n:Int)))
 |text (s:ByteArray) (hs:s.size≤maxLen):Tall w S (.mk 1 0 s []) (.iface 9 (.string s))
 |list (l:List Tree) (A:Option Addr) (m c:Nat) (vs:Nat→Value) (hm:m=l.length) (hmc:m≤c) (hc:c≤maxLen)
  (hcell:∀i,i<m→∃b o,A=some ⟨b,o,none⟩∧S b∧w.cell? ⟨b,o+i,none⟩=some (vs i)) (hsub:∀i t,l[i]? =some t→Tall w S t (vs i)):
  Tall w S (.mk 2 0 ByteArray.empty l) (.iface 128 (.slice A m c))
theorem Tall.mono {w:World} {S S':Nat→Prop} {t:Tree} {v:Value} (h:Tall w S t v) (hS:∀b,S b→S' b):Tall w S' t v:=by
 induction h with
 |num n hn=>exact .num n hn
 |text s hs=>exact .text s hs
 |list l A m c vs hm hmc hc hcell hsub ih=>
  exact .list l A m c vs hm hmc hc (fun i hi=>by
   obtain ⟨b,o,e,hb,hv⟩:=hcell i hi
   exact ⟨b,o,e,hS b hb,hv⟩) ih
/-- It lies in blocks that are there. -/
theorem Tall.there {w:World} {S:Nat→Prop} {t:Tree} {v:Value} (h:Tall w S t v):Tall w (fun b=>S b∧b<w.heap.size) t v:=by
 induction h with
 |num n hn=>exact .num n hn
 |text s hs=>exact .text s hs
 |list l A m c vs hm hmc hc hcell hsub ih=>
  exact .list l A m c vs hm hmc hc (fun i hi=>by
   obtain ⟨b,o,e,hb,hv⟩:=hcell i hi
   exact ⟨b,o,e,⟨hb,World.block_lt_of_cell? _ _ hv⟩,hv⟩) ih
theorem Tall.keep {w w':World} {S:Nat→Prop} {t:Tree} {v:Value} (h:Tall w S t v) (hk:∀b,S b→b<w.heap.size→w'.heap[b]? =w.heap[b]?):Tall w' S t v:=by
 induction h with
 |num n hn=>exact .num n hn
 |text s hs=>exact .text s hs
 |list l A m c vs hm hmc hc hcell hsub ih=>
  exact .list l A m c vs hm hmc hc (fun i hi=>by
   obtain ⟨b,o,e,hb,hv⟩:=hcell i hi
   have hlt:b<w.heap.size:=World.block_lt_of_cell? _ _ hv
   exact ⟨b,o,e,hb,by rw [←hv];exact World.cell?_of_block (w:=w) (hk b hb hlt)⟩) ih
theorem Tall.under {w w':World} {S:Nat→Prop} {t:Tree} {v:Value} (h:Tall w S t v) (hb:Below w.heap.size w w'):Tall w' S t v:=h.keep fun b _ hl=>hb.block b hl
theorem Tall.grown {w w':World} {S:Nat→Prop} {t:Tree} {v:Value} {row:Option Nat} (h:Tall w S t v) (hg:w.grownBy w' row) (hS:∀b,S b→some b≠row):Tall w' S t v:=h.keep fun b hb hl=>hg.block b hl (hS b hb)
theorem Tall.one {w:World} {S:Nat→Prop} {t:Tree} {v:Value} (h:Tall w S t v):v.oneCell'=true:=by
 cases h <;> rfl
theorem Tall.form {w:World} {S:Nat→Prop} {t:Tree} {v:Value} (h:Tall w S t v):∃e x,v= .iface e x:=by
 cases h <;> exact ⟨_,_,rfl⟩
theorem Tall.kinds {w:World} {S:Nat→Prop} {t:Tree} {v:Value} (h:Tall w S t v):v≠ .nilIface:=by
 cases h <;> exact fun h=>by cases h
/-- A row of its own of such values: of the first so many of a list of trees. -/
structure Row (w:World) (base:Nat) (v:Value) (l:List Tree) (us:List Value):Prop where
 own:w.ownsRow base 20 1 v us.length us
 le:us.length≤l.length
 sub:∀(i:Nat) (t:Tree) (u:Value),l[i]? =some t→us[i]? =some u→Tall w (fun b=>base≤b∧some b≠v.ownBlock) t u
theorem Row.form {w:World} {base:Nat} {v:Value} {l:List Tree} {us:List Value} (h:Row w base v l us):∃A c,v= .slice A us.length c∧us.length≤c∧c≤maxLen:=by
 rcases h.own.2 with ⟨rfl,hl⟩|⟨g,cap,cur,rfl,_,_,hle,hm,_⟩
 ·exact ⟨none,0,by rw [hl],by omega,Nat.zero_le _⟩
 ·exact ⟨_,cap,rfl,hle,hm⟩
theorem Row.below {w w':World} {base:Nat} {v:Value} {l:List Tree} {us:List Value} (h:Row w base v l us) (hb:Below w.heap.size w w'):Row w' base v l us:=
 ⟨h.own.kept (grown_of_below hb none) (by cases v.ownBlock <;> simp),h.le,fun i t u ht hu=>(h.sub i t u ht hu).under hb⟩
/-- One more is appended. -/
theorem Row.step {w w':World} {base g:Nat} {v v':Value} {l:List Tree} {us:List Value} {t:Tree} {u:Value} (h:Row w base v l us) (ht:l[us.length]? =some t)
  (hu:Tall w (fun b=>g≤b) t u) (hg:base≤g) (hv:∀k,v.ownBlock=some k→k<g)
  (hown:w'.ownsRow base 20 1 v' (us.length+1) (us++ [u])) (hgr:w.grownBy w' v.ownBlock) (hat:v'.ownBlock=v.ownBlock∨v'.ownBlock=some w.heap.size):Row w' base v' l (us++ [u]):=by
 have hle:us.length<l.length:=by
  rcases Nat.lt_or_ge us.length l.length with h|h
  ·exact h
  ·rw [List.getElem?_eq_none h] at ht;cases ht
 have key:∀(i:Nat) (t:Tree) (x:Value),l[i]? =some t→(us++ [u])[i]? =some x→Tall w (fun b=>(base≤b∧some b≠v.ownBlock)∧b<w.heap.size) t x:=by
  intro i t' x hi hx
  by_cases hlt:i<us.length
  ·rw [List.getElem?_append_left hlt] at hx
   exact (h.sub i t' x hi hx).there
  ·have:i=us.length:=by
    have:i<(us++ [u]).length:=by
     rcases Nat.lt_or_ge i (us++ [u]).length with h|h
     ·exact h
     ·rw [List.getElem?_eq_none h] at hx;cases hx
    simp at this;omega
   subst this
   rw [ht] at hi
   simp at hi hx
   subst hi hx
   exact (hu.mono fun b hb=>(⟨by omega,fun e=>by have:=hv b e.symm;omega⟩:base≤b∧some b≠v.ownBlock)).there
 refine ⟨by simpa using hown,by simp;omega,fun i t' x hi hx=>?_⟩
 refine ((key i t' x hi hx).grown hgr fun b hb=>hb.1.2).mono fun b hb=>⟨hb.1.1,?_⟩
 rcases hat with e|e
 ·rw [e];exact hb.1.2
 ·rw [e]
  intro e2
  injection e2 with e2
  have:=hb.2
  omega
/-- A whole row is a list. -/
theorem Row.tall {w:World} {base:Nat} {A:Option Addr} {m c:Nat} {l:List Tree} {us:List Value} (h:Row w base (.slice A m c) l us) (hl:us.length=l.length):
  Tall w (fun b=>base≤b) (.mk 2 0 ByteArray.empty l) (.iface 128 (.slice A m c)):=by
 obtain ⟨A',c',e,hle,hm⟩:=h.form
 injection e with e1 e2 e3
 subst e1 e2 e3
 refine .list l A us.length c (fun i=>us.getD i .nilIface) hl hle hm (fun i hi=>?_) fun i t ht=>?_
 ·have hg:us[i]? =some (us.getD i .nilIface):=by simp [List.getD,List.getElem?_eq_getElem hi]
  rcases h.own.2 with ⟨hv,hn⟩|⟨g,cap,cur,hv,hb,_⟩
  ·omega
  ·injection hv with hv _ _
   subst hv
   refine ⟨g,0,rfl,hb,?_⟩
   have:=h.own.cells (g:=g) rfl i _ hg
   rw [←this]
   congr 1
   unfold Addr.add;split <;> simp_all
 ·have hi:i<us.length:=by
   rw [hl]
   rcases Nat.lt_or_ge i l.length with h|h
   ·exact h
   ·rw [List.getElem?_eq_none h] at ht;cases ht
  have hg:us[i]? =some (us.getD i .nilIface):=by simp [List.getD,List.getElem?_eq_getElem hi]
  exact (h.sub i t _ ht hg).mono fun b hb=>hb.1
theorem info_any:(Tryd.prog.info? 20).map (fun i=>(i.zero,i.size,i.bytes))=some (some .nilIface,1,16):=by kernel_rfl
theorem any_parts:∃i,Tryd.prog.info? 20=some i∧i.zero=some .nilIface∧i.size=1∧i.bytes=16:=by
 have h:=info_any
 cases hi:Tryd.prog.info? 20 with
 |none=>rw [hi] at h;cases h
 |some i=>
  rw [hi] at h
  simp at h
  exact ⟨i,rfl,h.1,h.2.1,h.2.2⟩
theorem made_any (n:Nat):(madeCells (Value.nilIface).cells (n*1)).size=n*1:=by
 simp [madeCells]
theorem run_make_any (n:Nat) (h:n≤17592186044416) (w:World):
  (Instr.makeSlice 128 (.int .i64 0) (.int .i64 (n:Int))).run Tryd.prog w= .ok (.slice (some ⟨w.heap.size,0,none⟩) 0 n) (w.alloc (.cells (madeCells (Value.nilIface).cells (n*1)) 20)):=by
 obtain ⟨i,hi,hz,hs,hb⟩:=any_parts
 have:=run_make (P:=Tryd.prog) w 128 20 i _ Tryd.underlying128 hi hz .i64 .i64 0 (n:Int) (by omega) (by omega) (by rw [hb];omega) (by omega)
 rw [this,hs,Int.toNat_natCast]
 rfl
theorem wrap_u32 (n:Int):IntKind.u32.wrap n=n % 4294967296:=by simp [IntKind.wrap,IntKind.bits,IntKind.signed]
theorem u32_xor_of {a b c:Nat} (ha:a<2 ^ 32) (hb:b<2 ^ 32) (h:a ^^^ b=c):bits .xor .u32 (a:Int) (b:Int)=(c:Int):=by
 rw [u32_xor_nat a b ha hb,h]
/-- The block of remainders, of which the first k are reckoned. -/
def tabTo (k:Nat):Array Value:=(Array.range 16).map fun i=>if i<k then .int .u32 (ctab i) else .int .u32 0
theorem tabTo_size (k:Nat):(tabTo k).size=16:=by simp [tabTo]
theorem tabTo_get (k i:Nat) (h:i<16):(tabTo k)[i]? =some (if i<k then .int .u32 (ctab i) else .int .u32 0):=by
 simp [tabTo,Array.getElem?_map,Array.getElem?_range,h]
theorem tabTo_set (k:Nat) (h:k<16):(tabTo k).setIfInBounds k (.int .u32 (ctab k))=tabTo (k+1):=by
 apply Array.ext
 ·simp [tabTo]
 ·intro i h1 h2
  have h16:i<16:=by simpa [tabTo] using h1
  apply Option.some.inj
  rw [←Array.getElem?_eq_getElem,←Array.getElem?_eq_getElem,tabTo_get _ _ h16,Array.getElem?_setIfInBounds]
  by_cases e:k=i
  ·subst e;rw [if_pos rfl,if_pos (by simpa [tabTo] using h),if_pos (by omega)]
  ·rw [if_neg e,tabTo_get _ _ h16]
   by_cases h3:i<k
   ·rw [if_pos h3,if_pos (by omega)]
   ·rw [if_neg h3,if_neg (by omega)]
theorem tab_info:(Tryd.prog.info? 88).map (·.size)=some 16:=by kernel_rfl
theorem tab_info16:(Tryd.prog.info? 88).map (·.size)=some (tabTo 16).size:=by rw [tabTo_size];exact tab_info
theorem tabTo_one (k:Nat):((tabTo k).all fun x=>x.oneCell')=true:=by
 rw [Array.all_eq_true]
 intro i hi
 have h16:i<16:=by rw [tabTo_size] at hi;exact hi
 have:=tabTo_get k i h16
 rw [Array.getElem?_eq_getElem hi] at this
 rw [Option.some.inj this]
 split <;> rfl
set_option maxHeartbeats 1000000 in
theorem reckon_any (w:World):Calls Tryd.prog 48 #[] w (Gives w (.agg (tabTo 16))):=by
 have e0:tabTo 0=#[.int .u32 0,.int .u32 0,.int .u32 0,.int .u32 0,.int .u32 0,.int .u32 0,.int .u32 0,.int .u32 0,.int .u32 0,.int .u32 0,.int .u32 0,.int .u32 0,.int .u32 0,.int .u32 0,.int .u32 0,.int .u32 0]:=by kernel_rfl
 have E0:=Lib.hid e0
 clear e0
 go_enter Tryd.func48,Tryd.ntmps48
 go_wp2
 go_loopw [4] (fun s4 wr=>∃k:Nat,k≤16∧s4= .int .i64 k∧Blk wr w.heap.size 88 (tabTo k)∧Below w.heap.size w wr) (fun s4 _=>16 - (intOf s4).toNat)
 case atStart=>exact ⟨0,by omega,rfl,by rw [E0.out];exact Blk.new _ _ _,blw⟩
 case round=>
  obtain ⟨k,hk,rfl,hblk,hbr⟩:=hrel
  by_cases hlt:k<16
  ·have hk2:IntKind.u32.wrap (k:Int)=k:=by rw [wrap_u32];omega
   go_wp2
   go_loop [2,9] (fun v s9=>∃j:Nat,j≤4∧s9= .int .i64 j∧v= .int .u32 (csteps j k)) (fun _ s9=>4 - (intOf s9).toNat)
   case atStart=>exact ⟨0,by omega,rfl,rfl⟩
   case round=>
    obtain ⟨j,hj,rfl,rfl⟩:=hrel
    have hvl:csteps j k<2 ^ 32:=csteps_lt j (by omega)
    have hsucc:=csteps_succ' j k
    have hfour:j=4→csteps j k=ctab k:=fun e=>by subst e;rfl
    have Hs:=Lib.hid hsucc
    have Hf:=Lib.hid hfour
    clear hsucc hfour
    generalize csteps j k=v at*
    by_cases hlj:j<4
    ·have b1:bits .and .u32 (v:Int) 1=((v % 2:Nat):Int):=by
      have h:=u32_and_nat v 1 hvl (by omega)
      rw [Nat.and_one_is_mod] at h
      exact h
     go_wp2
     go_round
     case rel=>
      refine ⟨j+1,by omega,by go_num,?_⟩
      rw [Hs.out]
      congr 1
      rcases Nat.mod_two_eq_zero_or_one v with h|h
      ·unfold cstep
       rw [if_neg (by omega),show (v:Int) % 2=((0:Nat):Int) by omega,show (v:Int) / 2=((v / 2:Nat):Int) by omega]
       exact u32_xor_of (b:=0) (by omega) (by omega) (Nat.xor_zero _)
      ·unfold cstep
       rw [if_pos h,show (v:Int) % 2=1 by omega,show (v:Int) / 2=((v / 2:Nat):Int) by omega]
       exact u32_xor_of (b:=crcP) (by omega) (by decide) rfl
     case measure=>simp [intOf];omega
    ·have hv:=Hf.out (by omega)
     have hc:=hblk.cell k
     rw [tabTo_get _ _ hlt,if_neg (by omega)] at hc
     have hf:=hblk.frozen k
     have Hv:=Lib.hid hv
     clear hv
     go_wp2
     go_roundw
     case rel=>exact ⟨k+1,by omega,by go_num,by rw [←tabTo_set k hlt,←Hv.out];exact hblk.set_ k _,blw⟩
     case measure=>simp [intOf];omega
  ·obtain rfl:k=16:=by omega
   go_wp2_with (first
    |(refine wpList_load_row rfl 88 (.tmp 0) rfl w.heap.size rfl 88 (tabTo 16) (0,0) _ hblk Tryd.underlying88 rfl tab_info16 ?_)
    |(refine wpList_store_mid rfl 88 (.tmp 0) (.tmp 23) rfl w.heap.size 0 (tabTo 16) rfl rfl ?hthere tab_info16 ?hone ?_))
   case hthere=>exact hblk.there (by omega)
   case hone=>exact tabTo_one 16
   have hb2:Blk (wr.setCells w.heap.size 0 (tabTo 16).toList) w.heap.size 88 (tabTo 16):=hblk.setCells rfl
   go_wp2
   refine bodyPost_ret (results_cell_row rfl _ _ w.heap.size 88 (tabTo 16) (0,0) _ rfl hb2 Tryd.underlying88 rfl tab_info16) rfl ?_
   exact ⟨rfl,below_setCells (Nat.le_refl _) _ _ hbr⟩
theorem flatten_lt {ls:List (List Nat)} (h:∀l∈ls,∀c∈l,c<256):∀c∈ls.flatten,c<256:=fun c hc=>by
 obtain ⟨l,hl,hc⟩:=List.mem_flatten.1 hc
 exact h l hl c hc
set_option maxHeartbeats 2000000 in
theorem sum_any (A:Option Addr) (n cap:Nat) (ls:List (List Nat)) (w:World) (hp:Texts w A n ls):
  Calls Tryd.prog 27 #[.slice A n cap] w (Gives w (.int .u32 (crc ls.flatten))):=by
 have hn1:=hp.1
 have Hn:=Lib.hid hn1
 have hn2:=hp.2.1
 unfold maxLen at hn2
 clear hn1
 go_enter Tryd.func27,Tryd.ntmps27
 go_wp2_with (first
  |(go_at_call 48;refine (reckon_any _).mono ?_;rintro e w1 ⟨rfl,hbw1⟩;have hzw1:=hbw1.size)
  |(refine wpList_store_mid rfl 88 (.tmp 3) (.tmp 9) rfl w1.heap.size 0 (tabTo 16) rfl rfl ?hthere tab_info16 ?hone ?_))
 case hthere=>exact (Blk.new _ _ _).there (by rw [tabTo_size];exact Nat.le_refl _)
 case hone=>exact tabTo_one 16
 go_wp2
 have hb2:Below w.heap.size w ((w1.alloc (.cells #[.int .u32 0,.int .u32 0,.int .u32 0,.int .u32 0,.int .u32 0,.int .u32 0,.int .u32 0,.int .u32 0,.int .u32 0,.int .u32 0,.int .u32 0,.int .u32 0,.int .u32 0,.int .u32 0,.int .u32 0,.int .u32 0] 88)).setCells w1.heap.size 0 (tabTo 16).toList):=
  below_setCells hzw1 _ _ (blw)
 have hblk:Blk ((w1.alloc (.cells #[.int .u32 0,.int .u32 0,.int .u32 0,.int .u32 0,.int .u32 0,.int .u32 0,.int .u32 0,.int .u32 0,.int .u32 0,.int .u32 0,.int .u32 0,.int .u32 0,.int .u32 0,.int .u32 0,.int .u32 0,.int .u32 0] 88)).setCells w1.heap.size 0 (tabTo 16).toList) w1.heap.size 88 (tabTo 16):=
  (Blk.new _ _ _).setCells (tabTo_size 16)
 generalize (World.setCells _ _ _ _)=W2 at hb2 hblk ⊢
 have hp2:=hp.keep hb2
 generalize w1.heap.size=g at hblk ⊢
 clear hp hbw1 hzw1 w1
 have hM:crcM<2 ^ 32:=by decide
 go_loop [4,12] (fun v s12=>∃k:Nat,k≤n∧s12= .int .i64 k∧v= .int .u32 (cfold crcM (ls.take k).flatten)) (fun _ s12=>n - (intOf s12).toNat)
 case atStart=>exact ⟨0,by omega,rfl,rfl⟩
 case round=>
  obtain ⟨k,hk,rfl,rfl⟩:=hrel
  by_cases hlt:k<n
  ·have hkl:k<ls.length:=by have:=Hn.out;omega
   obtain ⟨ad,B,m,c,rfl,hcell,hby⟩:=hp2.2.2 k ls[k] (List.getElem?_eq_getElem hkl)
   have hm1:=hby.1
   have Hm:=Lib.hid hm1
   have hm2:=hby.2.1
   unfold maxLen at hm2
   clear hm1
   have hv0:cfold crcM (ls.take k).flatten<2 ^ 32:=by
    refine cfold_lt _ (flatten_lt fun l hl=>?_) hM
    obtain ⟨i,hi⟩:=List.getElem?_of_mem hl
    rw [List.getElem?_take] at hi
    split at hi
    ·obtain ⟨_,_,_,_,_,_,hbl⟩:=hp2.2.2 i l hi
     exact hbl.lt
    ·cases hi
   have hnext:cfold crcM (ls.take (k+1)).flatten=cfold (cfold crcM (ls.take k).flatten) ls[k]:=by
    rw [List.take_succ_eq_append_getElem hkl,List.flatten_append,cfold_append]
    simp
   have Hnext:=Lib.hid hnext
   clear hnext
   generalize cfold crcM (ls.take k).flatten=v0 at*
   generalize ls[k]=l at*
   go_wp2
   go_loop [4,18] (fun v s18=>∃j:Nat,j≤m∧s18= .int .i64 j∧v= .int .u32 (cfold v0 (l.take j))) (fun _ s18=>m - (intOf s18).toNat)
   case atStart=>exact ⟨0,by omega,rfl,rfl⟩
   case round=>
    obtain ⟨j,hj,rfl,rfl⟩:=hrel
    by_cases hlj:j<m
    ·obtain ⟨bd,x,rfl,hx,hx2,hxc⟩:=hby.at_ hlj
     have hv1:cfold v0 (l.take j)<2 ^ 32:=cfold_lt _ (fun c hc=>hby.lt c (List.mem_of_mem_take hc)) hv0
     have hnx:cfold v0 (l.take (j+1))=cupd (cfold v0 (l.take j)) x:=by
      rw [List.take_add_one,hx,←cfold_snoc]
      rfl
     have Hnx:=Lib.hid hnx
     clear hnx
     generalize cfold v0 (l.take j)=v at*
     have hupd:=cupd_halves v x
     obtain ⟨y,hy⟩:∃y,y=v ^^^ x:=⟨_,rfl⟩
     have b1:bits .xor .u32 (v:Int) (x:Int)=(y:Int):=u32_xor_of hv1 (by omega) hy.symm
     have hyl:y<2 ^ 32:=by rw [hy];exact Nat.xor_lt_two_pow hv1 (by omega)
     rw [←hy] at hupd
     clear hy
     have b2:bits .and .u32 (y:Int) 15=((y % 16:Nat):Int):=by
      have h:=u32_and_nat y 15 hyl (by omega)
      rw [Nat.and_two_pow_sub_one_eq_mod (n:=4)] at h
      exact h
     obtain ⟨z,hz⟩:∃z,z=chalf y:=⟨_,rfl⟩
     rw [←hz] at hupd
     have hzl:z<2 ^ 32:=by rw [hz];exact chalf_lt hyl
     have c1:=hblk.cell (y % 16)
     rw [tabTo_get _ _ (Nat.mod_lt _ (by omega)),if_pos (Nat.mod_lt _ (by omega))] at c1
     have b3:bits .xor .u32 ((y:Int) / 16) (ctab (y % 16):Int)=(z:Int):=by
      rw [show (y:Int) / 16=((y / 16:Nat):Int) by omega]
      exact u32_xor_of (by omega) (ctab_lt (Nat.mod_lt _ (by omega))) hz.symm
     clear hz
     have hr1:y % 16<16:=Nat.mod_lt _ (by omega)
     generalize ctab (y % 16)=t1 at*
     generalize y % 16=r1 at*
     have b4:bits .and .u32 (z:Int) 15=((z % 16:Nat):Int):=by
      have h:=u32_and_nat z 15 hzl (by omega)
      rw [Nat.and_two_pow_sub_one_eq_mod (n:=4)] at h
      exact h
     have c2:=hblk.cell (z % 16)
     rw [tabTo_get _ _ (Nat.mod_lt _ (by omega)),if_pos (Nat.mod_lt _ (by omega))] at c2
     have b5:bits .xor .u32 ((z:Int) / 16) (ctab (z % 16):Int)=((chalf z:Nat):Int):=by
      rw [show (z:Int) / 16=((z / 16:Nat):Int) by omega]
      exact u32_xor_of (by omega) (ctab_lt (Nat.mod_lt _ (by omega))) rfl
     have hr2:z % 16<16:=Nat.mod_lt _ (by omega)
     generalize chalf z=zz at*
     generalize ctab (z % 16)=t2 at*
     generalize z % 16=r2 at*
     have Hupd:=Lib.hid hupd
     clear hupd hx
     go_wp2
     go_round
     case rel=>exact ⟨j+1,by omega,by go_num,by rw [Hnx.out,Hupd.out]⟩
     case measure=>simp [intOf];omega
    ·have hjm:j=m:=by omega
     have hfull:cfold v0 (l.take j)=cfold v0 l:=by rw [List.take_of_length_le (by have:=Hm.out;omega)]
     have Hf:=Lib.hid hfull
     clear hfull hjm
     go_wp2
     go_round
     case rel=>exact ⟨k+1,by omega,by go_num,by rw [Hnext.out,Hf.out]⟩
     case measure=>simp [intOf];omega
  ·have hfull:(ls.take k)=ls:=List.take_of_length_le (by have:=Hn.out;omega)
   have Hf:=Lib.hid hfull
   clear hfull
   go_wp2
   go_ret
   refine ⟨ret_int ?_,hb2⟩
   rw [Hf.out]
   have hl:∀c∈ls.flatten,c<256:=flatten_lt fun l hl=>by
    obtain ⟨i,hi⟩:=List.getElem?_of_mem hl
    obtain ⟨_,_,_,_,_,_,hbl⟩:=hp2.2.2 i l hi
    exact hbl.lt
   exact u32_xor_of (a:=crcM) hM (cfold_lt _ hl hM) (crcM_sub (cfold_lt _ hl hM)).symm
end Go.Proofs.YtlolnakeancenaaDoor
