/- A right command's item is taken as the command. A row of items of its own that grows, beside one block that is written anew; a right command's item. What msg.item holds from stage to stage; orders that come to the same are joined. What msg.item is walked with: its closure, its parts, the code behind its first region. The walks of stonecropref06.Int and of stonecropref06.Take at six. cmd.Take and the document's, at any item: one answer. The walk of cmd.Take at any item, against a plain function. A right set's item is taken as the set, in plain Lean. -/
import Derived.Test.YtlolnakeancenaaDoorShimApartQ20
import Derived.Test.YtlolnakeancenaaDoorShimApartQ13
import Derived.Test.YtlolnakeancenaaDoorShimApartQ11
import Derived.Test.YtlolnakeancenaaDoorShimApartQ18
import Derived.Test.YtlolnakeancenaaDoorShimApartQ21
import Derived.Test.YtlolnakeancenaaDoorShimApartQ12
import Derived.Test.YtlolnakeancenaaDoorShimApartQ0
import Derived.Test.YtlolnakeancenaaDoorShimApartQ6
import Derived.Test.YtlolnakeancenaaDoorShimApartQ24
import Derived.WalkKit
import Derived.WalkSpells
import Derived.WalkLawsBesides
import Derived.Deep.RegionHeld3
import Derived.Deep.DrawnRows
import Derived.Deep.DeepCutAuto
import Derived.Deep.DeepFit
import Derived.Lib.Hide
import Derived.BigQuiet
import Derived.Deep.QuietTactic
namespace Go.Proofs.YtlolnakeancenaaDoor
open Go.RowKit
set_option linter.unusedVariables false
set_option linter.unusedSimpArgs false
set_option maxRecDepth 20000
attribute [local go_sem ↓] Go.wp_at_zero Go.wp_at_succ
attribute [local go_sem] World.cell?_alloc_some frozen_alloc_some
theorem clamp_small {n:Nat} (h:n≤4611686018427387904):clamp n=n:=Nat.min_eq_left h
/-- The parts of a right command. -/
theorem ccheck_right {k c q:Int} {y x:ByteArray} {r:Int} (h:ccheck k c q y x r=0):0≤k∧k≤6∧0≤c∧c≤1048576∧0≤q∧q≤1099511627776∧0≤r∧r≤1099511627776:=by
 unfold ccheck at h
 by_cases h1:cform k c q y x r=true
 ·rw [if_pos h1] at h;cases h
 ·rw [if_neg h1] at h
  by_cases h2:crange c q r=true
  ·rw [if_pos h2] at h;cases h
  ·unfold cform at h1
   unfold crange at h2
   simp only [Bool.or_eq_true,Bool.not_eq_true',decide_eq_false_iff_not,not_or,Decidable.not_not] at h1 h2
   omega
/-- A row of its own of the items of all trees of a list; nothing of it lies in the block gx. -/
structure RowX (w:World) (base gx:Nat) (v:Value) (n:Nat) (l:List Tree) (us:List Value):Prop where
 own:w.ownsRow base 25 4 v n (flatL us)
 ln:n=l.length
 len:us.length=n
 ne:v.ownBlock≠some gx
 sub:∀(i:Nat) (t:Tree) (u:Value),l[i]? =some t→us[i]? =some u→HoldsIn w (fun b=>base≤b∧b≠gx∧some b≠v.ownBlock) t u
theorem RowX.keep {w w':World} {base gx:Nat} {v:Value} {n:Nat} {l:List Tree} {us:List Value} (h:RowX w base gx v n l us) (hb:Below w.heap.size w w'):RowX w' base gx v n l us:=
 ⟨h.own.kept (grown_of_below hb none) (by cases v.ownBlock <;> simp),h.ln,h.len,h.ne,fun i t u ht hu=>(h.sub i t u ht hu).under hb⟩
theorem RowX.alloc {w:World} {base gx:Nat} {v:Value} {n:Nat} {l:List Tree} {us:List Value} (h:RowX w base gx v n l us) (o:Obj):RowX (w.alloc o) base gx v n l us:=h.keep (below_one o)
theorem ownsRow_setCell_ne {w:World} {base:Nat} {e:TypeId} {size:Nat} {v:Value} {n:Nat} {xs:List Value} (h:w.ownsRow base e size v n xs) {p:Addr} (hp:v.ownBlock≠some p.block) (u:Value):(w.setCell p u).ownsRow base e size v n xs:=
 own_far h (fun e=>hp e) u
theorem RowX.set {w:World} {base gx:Nat} {v:Value} {n:Nat} {l:List Tree} {us:List Value} (h:RowX w base gx v n l us) {p:Addr} (hp:p.block=gx) (u:Value):RowX (w.setCell p u) base gx v n l us:=
 ⟨ownsRow_setCell_ne h.own (by rw [hp];exact h.ne) u,h.ln,h.len,h.ne,fun i t x ht hx=>(h.sub i t x ht hx).set (by omega) u⟩
theorem RowX.form {w:World} {base gx:Nat} {v:Value} {n:Nat} {l:List Tree} {us:List Value} (h:RowX w base gx v n l us):∃A c,v= .slice A n c∧n≤c∧c≤maxLen:=own_form7 h.own
theorem RowX.app {w w':World} {base gx:Nat} {v v':Value} {n n':Nat} {l ts:List Tree} {us us':List Value} (h:RowX w base gx v n l us) (hl:us'.length=ts.length) (hn:n'=n+us'.length)
  (hu:∀(i:Nat) (t:Tree) (u:Value),ts[i]? =some t→us'[i]? =some u→HoldsIn w (fun b=>base≤b∧b≠gx∧some b≠v.ownBlock) t u)
  (hown:w'.ownsRow base 25 4 v' (n+us'.length) (flatL us++flatL us')) (hgr:w.grownBy w' v.ownBlock) (hat:v'.ownBlock=v.ownBlock∨v'.ownBlock=some w.heap.size) (hgx:gx<w.heap.size):
  RowX w' base gx v' n' (l++ts) (us++us'):=by
 subst hn
 have h1:=h.ln
 have h2:=h.len
 have key:∀(i:Nat) (t:Tree) (x:Value),(l++ts)[i]? =some t→(us++us')[i]? =some x→HoldsIn w (fun b=>(base≤b∧b≠gx∧some b≠v.ownBlock)∧b<w.heap.size) t x:=by
  intro i t' x hi hx
  by_cases hlt:i<n
  ·rw [List.getElem?_append_left (by omega)] at hi hx
   exact (h.sub i t' x hi hx).there
  ·rw [List.getElem?_append_right (by omega)] at hi hx
   rw [show i - us.length=i - l.length by omega] at hx
   exact (hu _ t' x hi hx).there
 refine ⟨?_,by simp;omega,by simp;omega,?_,fun i t' x hi hx=>?_⟩
 ·have e:flatL (us++us')=flatL us++flatL us':=by simp [flatL]
  rw [e];exact hown
 ·rcases hat with e|e
  ·rw [e];exact h.ne
  ·rw [e];intro e2;injection e2 with e2;omega
 refine ((key i t' x hi hx).grown hgr fun b hb=>hb.1.2.2).mono fun b hb=>⟨hb.1.1,hb.1.2.1,?_⟩
 rcases hat with e|e
 ·rw [e];exact hb.1.2.2
 ·rw [e]
  intro e2
  injection e2 with e2
  have:=hb.2
  omega
theorem RowX.node {w:World} {base gx:Nat} {A:Option Addr} {m n c:Nat} {l:List Tree} {us:List Value} (h:RowX w base gx (.slice A m c) n l us):HoldsIn w (fun b=>base≤b) (ltree l) (listV A m c):=by
 obtain ⟨A',c',e, -, -⟩:=h.form
 injection e with e1 e2 e3
 subst e1 e2 e3
 have hs:RowS w base (.slice A m c) l us:=⟨by have:=h.own;rwa [h.len],by have:=h.ln;have:=h.len;omega,fun i t u ht hu=>(h.sub i t u ht hu).mono fun b hb=>⟨hb.1,hb.2.2⟩⟩
 exact hs.node (by have:=h.ln;have:=h.len;omega)
/-- Leaves lie nowhere. -/
theorem holds_leaf {w:World} {S:Nat→Prop} {k:Int} {n:Nat} {s:ByteArray} {v:Value} (h:Holds w (.mk k n s []) v):HoldsIn w S (.mk k n s []) v:=by
 cases h with
 |mk k n s l A m c vs hk hn hs hm hmc hc hcell hsub=>
  exact .mk k n s [] A m c vs hk hn hs hm hmc hc (fun i hi=>by simp at hm;omega) (fun i t ht=>by simp at ht)
theorem flat4_flatL (vs:Nat→Value) (m:Nat):flat4 vs m=flatL ((List.range m).map vs):=by
 induction m with
 |zero=>rfl
 |succ m ih=>rw [flat4,ih,List.range_succ,List.map_append];simp [flatL]
theorem RowI.leaves {w:World} {base:Nat} {A:Option Addr} {k c m:Nat} {l:List Tree} (h:RowI w base (.slice A k c) m l) (hl:∀t∈l,∃k n s,t= .mk k n s []):HoldsIn w (fun b=>base≤b) (ltree l) (listV A k c):=by
 obtain ⟨hm,vs,hown,hsub⟩:=h
 obtain ⟨A',c',e, -, -⟩:=own_form7 hown
 injection e with e1 e2 e3
 subst e1 e2 e3
 have hs:RowS w base (.slice A k c) l ((List.range k).map vs):=⟨by rw [←flat4_flatL];simpa using hown,by simp;omega,fun i t u ht hu=>by
  obtain ⟨k1,n1,s1,rfl⟩:=hl t (List.mem_of_getElem? ht)
  have hik:i<k:=by
   rcases Nat.lt_or_ge i k with h|h
   ·exact h
   ·rw [List.getElem?_eq_none (by simp;omega)] at hu;cases hu
  rw [List.getElem?_map,List.getElem?_range hik] at hu
  simp at hu
  subst hu
  exact holds_leaf (hsub i _ ht)⟩
 exact hs.node (by simp;omega)
theorem cmditem_right (k c q:Int) (y x:ByteArray) (r:Int) (hy:y.size≤maxLen) (hx:x.size≤maxLen) (h:ccheck k c q y x r=0) (w:World):
  Calls Tryd.prog 57 #[.agg #[.int .i64 k,.int .i64 c,.int .i64 q,.string y,.string x,.int .i64 r]] w
   (fun e w'=>∃A c',e= .returned (listV A 6 c')∧HoldsIn w' (fun b=>w.heap.size≤b) (ctree k.toNat c.toNat q.toNat y x r.toNat) (listV A 6 c')∧Below w.heap.size w w'):=by
 obtain ⟨hk0,hk1,hc0,hc1,hq0,hq1,hr0,hr1⟩:=ccheck_right h
 have hit:=cmditem_any k.toNat c.toNat q.toNat y x r.toNat (by omega) (by omega) (by omega) hy hx (by omega) w
 rw [show ((k.toNat:Nat):Int)=k by omega,show ((c.toNat:Nat):Int)=c by omega,show ((q.toNat:Nat):Int)=q by omega,show ((r.toNat:Nat):Int)=r by omega] at hit
 refine hit.mono ?_
 rintro e w' ⟨A,c',rfl,hr,hb⟩
 refine ⟨A,c',rfl,(hr.leaves fun t ht=>?_).mono fun b hb=>by omega,hb⟩
 simp at ht
 rcases ht with rfl|rfl|rfl|rfl|rfl|rfl <;> exact ⟨_,_,_,rfl⟩
theorem RowX.fresh {w0:World} {base gx:Nat} {v:Value} {n:Nat} {l:List Tree} {us:List Value} (h:RowX w0 base gx v n l us) (hgx:gx<w0.heap.size) (hb:base≤w0.heap.size) (W:World) (B:Nat) (t:Tree) (u:Value) (hB:w0.heap.size≤B)
  (hh:HoldsIn W (fun b=>B≤b) t u):HoldsIn W (fun b=>base≤b∧b≠gx∧some b≠v.ownBlock) t u:=
 hh.mono fun b hb'=>⟨by omega,by omega,fun e=>by have:=(h.own.lt _ e.symm).2;omega⟩
structure St (w:World) (W:World) (gh gx:Nat) (MC HB:Array Value) (v:Value) (n:Nat) (l:List Tree) (us:List Value):Prop where
 kk:Below w.heap.size w W
 X:Blk W w.heap.size 50 MC
 R:Blk W (w.heap.size+1) 25 #[.int .i64 0,.int .u64 0,.string ⟨#[]⟩,.slice none 0 0]
 Hh:Blk W gh 99 HB
 G:Blk W gx 25 #[.int .i64 2,.int .u64 0,.string ByteArray.empty,v]
 P:RowX W (w.heap.size+2) gx v n l us
 hz:w.heap.size+2≤W.heap.size
 hgh:w.heap.size+2≤gh
 hgx:w.heap.size+2≤gx
 hne:gh≠gx
 nh:v.ownBlock≠some gh
theorem St.keep {w W W':World} {gh gx:Nat} {MC HB:Array Value} {v:Value} {n:Nat} {l:List Tree} {us:List Value} (h:St w W gh gx MC HB v n l us) (hb:Below W.heap.size W W'):St w W' gh gx MC HB v n l us:=
 ⟨below_call h.kk hb h.kk.size,h.X.keep hb,h.R.keep hb,h.Hh.keep hb,h.G.keep hb,h.P.keep hb,Nat.le_trans h.hz hb.size,h.hgh,h.hgx,h.hne,h.nh⟩
theorem St.app {w W w4:World} {gh gx:Nat} {MC HB:Array Value} {v v4:Value} {n n':Nat} {l ts:List Tree} {us us':List Value} (h:St w W gh gx MC HB v n l us) (hl:us'.length=ts.length) (hn:n'=n+us'.length)
  (hu:∀(i:Nat) (t:Tree) (u:Value),ts[i]? =some t→us'[i]? =some u→HoldsIn W (fun b=>w.heap.size+2≤b∧b≠gx∧some b≠v.ownBlock) t u)
  (hown:w4.ownsRow (w.heap.size+2) 25 4 v4 (n+us'.length) (flatL us++flatL us')) (hgr:W.grownBy w4 v.ownBlock) (hat:v4.ownBlock=v.ownBlock∨v4.ownBlock=some W.heap.size):
  Blk w4 w.heap.size 50 MC∧Blk w4 gx 25 #[.int .i64 2,.int .u64 0,.string ByteArray.empty,v]∧
   St w (w4.setCell ⟨gx,3,none⟩ v4) gh gx MC HB v4 n' (l++ts) (us++us'):=by
 have hPl:=h.P.own.lt
 have h1:=h.hgh
 have h2:=h.hgx
 have h3:=h.hne
 have hz:=h.hz
 have P4:=h.P.app hl hn hu hown hgr hat h.G.lt
 have X4:Blk w4 w.heap.size 50 MC:=(hgr.block _ h.X.lt (fun e=>by have:=(hPl _ e.symm).1;omega)).trans h.X
 have R4:=(hgr.block _ h.R.lt (fun e=>by have:=(hPl _ e.symm).1;omega)).trans h.R
 have H4:=(hgr.block _ h.Hh.lt (fun e=>h.nh e.symm)).trans h.Hh
 have G4:Blk w4 gx 25 _:=(hgr.block _ h.G.lt (fun e=>h.P.ne e.symm)).trans h.G
 have k4:=below_app (B:=w.heap.size) h.kk h.P.own hgr (by omega) (by omega)
 have hs:=hgr.size
 refine ⟨X4,G4,⟨k4.setCell (p:=⟨gx,3,none⟩) (by simp;omega) _,Blk.far X4 (p:=⟨gx,3,none⟩) (by simp;omega) _,Blk.far R4 (p:=⟨gx,3,none⟩) (by simp;omega) _,Blk.far H4 (p:=⟨gx,3,none⟩) (by simpa using h3) _,?_,P4.set (p:=⟨gx,3,none⟩) rfl _,by simp;omega,h1,h2,h3,?_⟩⟩
 ·have:=G4.set_ 3 v4
  simpa using this
 ·rcases hat with e|e
  ·rw [e];exact h.nh
  ·rw [e]
   intro e2
   injection e2 with e2
   have:=h.Hh.lt
   omega
attribute [local go_sem] lt2 lt3 lt4 lt5
attribute [local simp] lt2 lt3 lt4 lt5
theorem item101_any (v:Int) (w:World):Calls Tryd.prog 52 #[.int .i64 v] w (Gives w (numV (u64n v))):=by
 have hw:=u64n_cast v
 have hn:=fun W=>num_any (u64n v) W
 go_enter Tryd.func52,Tryd.ntmps52
 go_wp2_with fail
 refine (hn _).mono ?_
 rintro e w1 ⟨rfl,hb1⟩
 have hz1:=hb1.size
 simp at hz1
 obtain ⟨q0,r0⟩:=new_keep hb1 0 rfl
 obtain ⟨q1,r1⟩:=new_keep hb1 1 rfl
 obtain ⟨q2,r2⟩:=new_keep hb1 2 rfl
 obtain ⟨q3,r3⟩:=new_keep hb1 3 rfl
 have hbw:Below w.heap.size w w1:=blw
 unfold numV
 go_wp2_with fail
 refine bodyPost_ret (v:=numV (u64n v)) (by simp [results,Tryd.results52,go_sem, *,numV] <;> rfl) rfl ?_
 exact ⟨rfl,blw⟩
/-- A message as a tree's list. -/
def mpartsF (f0 f1 f2 f3 f4 f5:Bool) (a:MsgT):List Tree:=
 [ntree a.k]++(if f0 then [ntree a.i,ntree a.n] else [])++(if f1 then [btree a.br a.bb] else [])++(if f2 then [ntree a.st,btree a.tr a.tb] else [])++(if f3 then [ctree a.ck.toNat a.cc.toNat a.cq.toNat a.cy a.cx a.cr.toNat] else [])++(if f4 then [atree a.l a.sq a.tg] else [])++(if f5 then [ntree a.ver] else [])
def mparts (a:MsgT):List Tree:=mpartsF (kId a.k) (kBal a.k) (kSt a.k) (kCmd a.k a.st) (kAt a.k a.st) (kVer a.k) a
/-- The code behind the regions 0 to 2. -/
noncomputable def itemRest:Code:=match Tryd.f35.body with|some (.seq _ (.seq _ (.seq _ c)))=>c|_=>.skip
def ItemPost (w:World) (l:List Tree) (e:Ending) (w':World):Prop:=∃A m c,e= .returned (listV A m c)∧HoldsIn w' (fun b=>w.heap.size≤b) (ltree l) (listV A m c)∧Below w.heap.size w w'
end Go.Proofs.YtlolnakeancenaaDoor
namespace Go.Proofs.YtlolnakeancenaaDoor
open Go.RowKit
set_option linter.unusedVariables false
set_option linter.unusedSimpArgs false
set_option maxRecDepth 20000
attribute [local go_sem ↓] Go.wp_at_zero Go.wp_at_succ
attribute [local go_sem] World.cell?_alloc_some frozen_alloc_some
attribute [local go_sem] lt2 lt3 lt4 lt5
attribute [local simp] lt2 lt3 lt4 lt5
abbrev RkS (w:World) (kk nn:Int) (ss:ByteArray) (ad:Addr) (cc:Nat) (eb eo n em ec:Nat→Nat) (ek:Nat→Int) (es:Nat→ByteArray) (eA:Nat→Option Addr) (s3 s4:ByteArray) (wx:World):Prop:=Below w.heap.size w wx∧w.heap.size+1<wx.heap.size∧wx.cell? ⟨w.heap.size,0,none⟩=some (.int .i64 kk)∧wx.cell? ⟨w.heap.size,1,none⟩=some (.int .u64 nn)∧wx.cell? ⟨w.heap.size,2,none⟩=some (.string ss)∧wx.cell? ⟨w.heap.size,3,none⟩=some (.slice (some ad) 6 cc)∧wx.cell? ⟨w.heap.size+1,0,none⟩=some (.int .i64 0)∧wx.cell? ⟨w.heap.size+1,1,none⟩=some (.int .i64 0)∧wx.cell? ⟨w.heap.size+1,2,none⟩=some (.int .i64 0)∧wx.cell? ⟨w.heap.size+1,3,none⟩=some (.string ByteArray.empty)∧wx.cell? ⟨w.heap.size+1,4,none⟩=some (.string ByteArray.empty)∧wx.cell? ⟨w.heap.size+1,5,none⟩=some (.int .i64 0)∧wx.frozen? ⟨w.heap.size+1,0,none⟩=false∧wx.frozen? ⟨w.heap.size+1,1,none⟩=false∧wx.frozen? ⟨w.heap.size+1,2,none⟩=false∧wx.frozen? ⟨w.heap.size+1,3,none⟩=false∧wx.frozen? ⟨w.heap.size+1,4,none⟩=false∧wx.frozen? ⟨w.heap.size+1,5,none⟩=false∧wx.cell? ⟨eb 0,eo 0,none⟩=some (.int .i64 (ek 0))∧wx.cell? ⟨eb 0,eo 0+1,none⟩=some (.int .u64 (n 0:Int))∧wx.cell? ⟨eb 0,eo 0+2,none⟩=some (.string (es 0))∧wx.cell? ⟨eb 0,eo 0+3,none⟩=some (.slice (eA 0) (em 0) (ec 0))∧wx.cell? ⟨eb 1,eo 1,none⟩=some (.int .i64 (ek 1))∧wx.cell? ⟨eb 1,eo 1+1,none⟩=some (.int .u64 (n 1:Int))∧wx.cell? ⟨eb 1,eo 1+2,none⟩=some (.string (es 1))∧wx.cell? ⟨eb 1,eo 1+3,none⟩=some (.slice (eA 1) (em 1) (ec 1))∧wx.cell? ⟨eb 2,eo 2,none⟩=some (.int .i64 (ek 2))∧wx.cell? ⟨eb 2,eo 2+1,none⟩=some (.int .u64 (n 2:Int))∧wx.cell? ⟨eb 2,eo 2+2,none⟩=some (.string (es 2))∧wx.cell? ⟨eb 2,eo 2+3,none⟩=some (.slice (eA 2) (em 2) (ec 2))∧wx.cell? ⟨eb 5,eo 5,none⟩=some (.int .i64 (ek 5))∧wx.cell? ⟨eb 5,eo 5+1,none⟩=some (.int .u64 (n 5:Int))∧wx.cell? ⟨eb 5,eo 5+2,none⟩=some (.string (es 5))∧wx.cell? ⟨eb 5,eo 5+3,none⟩=some (.slice (eA 5) (em 5) (ec 5))∧wx.cell? ⟨eb 3,eo 3+2,none⟩=some (.string s3)∧wx.cell? ⟨eb 4,eo 4+2,none⟩=some (.string s4)
theorem RkS.drew {w:World} {kk nn:Int} {ss:ByteArray} {ad:Addr} {cc:Nat} {eb eo n em ec:Nat→Nat} {ek:Nat→Int} {es:Nat→ByteArray} {eA:Nat→Option Addr} {s3 s4:ByteArray} {W:World} (h:RkS w kk nn ss ad cc eb eo n em ec ek es eA s3 s4 W):RkS w kk nn ss ad cc eb eo n em ec ek es eA s3 s4 W.drew:=⟨h.1.drew,h.2⟩
theorem RkS.keep {w:World} {kk nn:Int} {ss:ByteArray} {ad:Addr} {cc:Nat} {eb eo n em ec:Nat→Nat} {ek:Nat→Int} {es:Nat→ByteArray} {eA:Nat→Option Addr} {s3 s4:ByteArray} {W w1:World} (hb:Below W.heap.size W w1) (h:RkS w kk nn ss ad cc eb eo n em ec ek es eA s3 s4 W):RkS w kk nn ss ad cc eb eo n em ec ek es eA s3 s4 w1:=by
 obtain ⟨h1,h2,a0,a1,a2,a3,z0,z1,z2,z3,z4,z5,f0,f1,f2,f3,f4,f5,e00,e01,e02,e03,e10,e11,e12,e13,e20,e21,e22,e23,e50,e51,e52,e53,t3,t4⟩:=h
 have hz:=hb.size
 exact ⟨below_call h1 hb (by omega),by omega,cell_keep hb a0,cell_keep hb a1,cell_keep hb a2,cell_keep hb a3,cell_keep hb z0,cell_keep hb z1,cell_keep hb z2,cell_keep hb z3,cell_keep hb z4,cell_keep hb z5,frozen_keep hb z0 f0,frozen_keep hb z1 f1,frozen_keep hb z2 f2,frozen_keep hb z3 f3,frozen_keep hb z4 f4,frozen_keep hb z5 f5,cell_keep hb e00,cell_keep hb e01,cell_keep hb e02,cell_keep hb e03,cell_keep hb e10,cell_keep hb e11,cell_keep hb e12,cell_keep hb e13,cell_keep hb e20,cell_keep hb e21,cell_keep hb e22,cell_keep hb e23,cell_keep hb e50,cell_keep hb e51,cell_keep hb e52,cell_keep hb e53,cell_keep hb t3,cell_keep hb t4⟩
theorem RkS.alloc {w:World} {kk nn:Int} {ss:ByteArray} {ad:Addr} {cc:Nat} {eb eo n em ec:Nat→Nat} {ek:Nat→Int} {es:Nat→ByteArray} {eA:Nat→Option Addr} {s3 s4:ByteArray} {W:World} (h:RkS w kk nn ss ad cc eb eo n em ec ek es eA s3 s4 W) (o:Obj):RkS w kk nn ss ad cc eb eo n em ec ek es eA s3 s4 (W.alloc o):=h.keep (below_one o)
abbrev RgS (G:Nat) (w:World) (kk nn:Int) (ss:ByteArray) (ad:Addr) (cc:Nat) (eb eo n em ec:Nat→Nat) (ek:Nat→Int) (es:Nat→ByteArray) (eA:Nat→Option Addr) (s3 s4:ByteArray) (wx:World):Prop:=RkS w kk nn ss ad cc eb eo n em ec ek es eA s3 s4 wx∧G<wx.heap.size∧wx.cell? ⟨G,0,none⟩=some (.int .i64 (clamp (n 0):Int))∧wx.cell? ⟨G,1,none⟩=some (.int .i64 (clamp (n 1):Int))∧wx.cell? ⟨G,2,none⟩=some (.int .i64 (clamp (n 2):Int))∧wx.cell? ⟨G,3,none⟩=some (.string s3)∧wx.cell? ⟨G,4,none⟩=some (.string s4)∧wx.cell? ⟨G,5,none⟩=some (.int .i64 (clamp (n 5):Int))
theorem RgS.keep {G:Nat} {w:World} {kk nn:Int} {ss:ByteArray} {ad:Addr} {cc:Nat} {eb eo n em ec:Nat→Nat} {ek:Nat→Int} {es:Nat→ByteArray} {eA:Nat→Option Addr} {s3 s4:ByteArray} {W w1:World} (hb:Below W.heap.size W w1) (h:RgS G w kk nn ss ad cc eb eo n em ec ek es eA s3 s4 W):RgS G w kk nn ss ad cc eb eo n em ec ek es eA s3 s4 w1:=by
 obtain ⟨h0,hG,g0,g1,g2,g3,g4,g5⟩:=h
 have hz:=hb.size
 exact ⟨h0.keep hb,by omega,cell_keep hb g0,cell_keep hb g1,cell_keep hb g2,cell_keep hb g3,cell_keep hb g4,cell_keep hb g5⟩
theorem RgS.drew {G:Nat} {w:World} {kk nn:Int} {ss:ByteArray} {ad:Addr} {cc:Nat} {eb eo n em ec:Nat→Nat} {ek:Nat→Int} {es:Nat→ByteArray} {eA:Nat→Option Addr} {s3 s4:ByteArray} {W:World} (h:RgS G w kk nn ss ad cc eb eo n em ec ek es eA s3 s4 W):RgS G w kk nn ss ad cc eb eo n em ec ek es eA s3 s4 W.drew:=⟨h.1.drew,h.2⟩
end Go.Proofs.YtlolnakeancenaaDoor
namespace Go.Proofs.YtlolnakeancenaaDoor
open Go.RowKit
set_option linter.unusedVariables false
set_option linter.unusedSimpArgs false
set_option maxRecDepth 20000
attribute [local go_sem ↓] Go.wp_at_zero Go.wp_at_succ
attribute [local go_sem] World.cell?_alloc_some frozen_alloc_some
attribute [local go_sem] lt2 lt3 lt4 lt5
attribute [local simp] lt2 lt3 lt4 lt5
set_option maxHeartbeats 4000000 in
theorem take_short (kk nn:Int) (ss:ByteArray) (A:Option Addr) (m cc:Nat) (w:World) (hm:m≠6):
  Calls Tryd.prog 62 #[.agg #[.int .i64 kk,.int .u64 nn,.string ss,.slice A m cc]] w (Gives w (.tuple #[.agg #[.int .i64 0,.int .i64 0,.int .i64 0,.string ByteArray.empty,.string ByteArray.empty,.int .i64 0],.bool false])):=by
 have hm':((m:Int) != 6)=true:=by simp;omega
 go_enter Tryd.func62,Tryd.ntmps62
 go_wp2_with fail
 refine bodyPost_ret (v:=.tuple #[.agg #[.int .i64 0,.int .i64 0,.int .i64 0,.string ByteArray.empty,.string ByteArray.empty,.int .i64 0],.bool false]) (by simp [results,Tryd.results62,go_sem, *] <;> rfl) rfl ?_
 exact ⟨rfl,blw⟩
/-- An element's four cells. -/
theorem Items.elem7 {w:World} {ad:Addr} {m c:Nat} {l:List Tree} (h:Items w (some ad) m c l) {i:Nat} {t:Tree} (hi:l[i]? =some t):
  ∃(eb eo:Nat) (ek:Int) (n:Nat) (es:ByteArray) (eA:Option Addr) (em ec:Nat),ad.add (i*4)=⟨eb,eo,none⟩∧n<2 ^ 64∧es.size≤maxLen∧w.cell? ⟨eb,eo,none⟩=some (.int .i64 ek)∧w.cell? ⟨eb,eo+1,none⟩=some (.int .u64 (n:Int))∧w.cell? ⟨eb,eo+2,none⟩=some (.string es)∧w.cell? ⟨eb,eo+3,none⟩=some (.slice eA em ec)∧cnum t=clamp n∧ctxt t=es:=by
 obtain ⟨k,n,s,l'⟩:=t
 obtain ⟨ad',u,e,hu,b,o,k2,n2,s2,A2,m2,c2,ea,rfl,q0,q1,q2,q3⟩:=h.elem hi
 injection e with e
 subst e
 obtain ⟨A3,m3,c3,e3,_,hn,hs,_⟩:=hu.open_
 injection e3 with e3
 simp at e3
 obtain ⟨rfl,rfl,rfl,rfl,rfl,rfl⟩:=e3
 exact ⟨b,o,_,n,_,_,_,_,ea,hn,hs,q0,q1,q2,q3,rfl,rfl⟩
end Go.Proofs.YtlolnakeancenaaDoor
namespace Go.Proofs.YtlolnakeancenaaDoor
open Go.RowKit
set_option linter.unusedVariables false
set_option linter.unusedSimpArgs false
set_option maxRecDepth 20000
attribute [local go_sem ↓] Go.wp_at_zero Go.wp_at_succ
attribute [local go_sem] World.cell?_alloc_some frozen_alloc_some
/-- A command that was taken, and whether it was. -/
structure CmdR where
 k:Int
 c:Int
 q:Int
 y:ByteArray
 x:ByteArray
 r:Int
 b:Bool
def CmdR.v (a:CmdR):Value:=.tuple #[.agg #[.int .i64 a.k,.int .i64 a.c,.int .i64 a.q,.string a.y,.string a.x,.int .i64 a.r],.bool a.b]
def czero:CmdR:=⟨0,0,0,ByteArray.empty,ByteArray.empty,0,false⟩
noncomputable def ctk (T:Tree) (n0 n1 n2:Nat) (s3 s4:ByteArray) (n5:Nat):CmdR:=
 if ccheck (n0:Int) (n1:Int) (n2:Int) s3 s4 (n5:Int)=0∧tsame T (ctree n0 n1 n2 s3 s4 n5)=true then ⟨(n0:Int),(n1:Int),(n2:Int),s3,s4,(n5:Int),true⟩ else czero
noncomputable def ctake:Tree→CmdR
 | .mk k n s [t0,t1,t2,t3,t4,t5]=>ctk (.mk k n s [t0,t1,t2,t3,t4,t5]) (cnum t0) (cnum t1) (cnum t2) (ctxt t3) (ctxt t4) (cnum t5)
 |_=>czero
theorem ctake_none {k:Int} {n:Nat} {s:ByteArray} {l:List Tree} (h:l.length≠6):ctake (.mk k n s l)=czero:=by
 match l,h with
 | [],_=>rfl
 | [a],_=>rfl
 | [a,b],_=>rfl
 | [a,b,c],_=>rfl
 | [a,b,c,d],_=>rfl
 | [a,b,c,d,e],_=>rfl
 | [a,b,c,d,e,f],h=>exact absurd rfl h
 |a :: b :: c :: d :: e :: f :: g :: l,_=>rfl
set_option maxHeartbeats 4000000 in
theorem cmdtake_any (t:Tree) (v:Value) (w:World) (hv:Holds w t v) (hT:Tabs w):Calls Tryd.prog 62 #[v] w (Gives w (ctake t).v):=by
 obtain ⟨kk,nn,ss,l⟩:=t
 obtain ⟨A,m,cc,rfl,_,_,_,hm,_,_,_⟩:=hv.open_
 have hi:=hv.items
 by_cases h6:m=6
 ·subst h6
  obtain ⟨t0,t1,t2,t3,t4,t5,rfl⟩:∃t0 t1 t2 t3 t4 t5,l=[t0,t1,t2,t3,t4,t5]:=by
   match l,hm with
   | [a,b,c,d,e,f],_=>exact ⟨a,b,c,d,e,f,rfl⟩
  obtain ⟨ad,rfl⟩:∃ad,A=some ad:=by
   obtain ⟨ad,u,e,_⟩:=hi.elem (i:=0) rfl
   exact ⟨ad,e⟩
  obtain ⟨eb0,eo0,ek0,n0,es0,eA0,em0,ec0,a0,l0,z0,p0,q0,r0,s0,u0,v0⟩:=hi.elem7 (i:=0) rfl
  obtain ⟨eb1,eo1,ek1,n1,es1,eA1,em1,ec1,a1,l1,z1,p1,q1,r1,s1,u1,v1⟩:=hi.elem7 (i:=1) rfl
  obtain ⟨eb2,eo2,ek2,n2,es2,eA2,em2,ec2,a2,l2,z2,p2,q2,r2,s2,u2,v2⟩:=hi.elem7 (i:=2) rfl
  obtain ⟨eb3,eo3,ek3,n3,es3,eA3,em3,ec3,a3,l3,z3,p3,q3,r3,s3,u3,v3⟩:=hi.elem7 (i:=3) rfl
  obtain ⟨eb4,eo4,ek4,n4,es4,eA4,em4,ec4,a4,l4,z4,p4,q4,r4,s4,u4,v4⟩:=hi.elem7 (i:=4) rfl
  obtain ⟨eb5,eo5,ek5,n5,es5,eA5,em5,ec5,a5,l5,z5,p5,q5,r5,s5,u5,v5⟩:=hi.elem7 (i:=5) rfl
  have h:=take_six _ (kk:Int) (nn:Int) ss ad cc (fun i=>match i with|0=>eb0|1=>eb1|2=>eb2|3=>eb3|4=>eb4|_=>eb5) (fun i=>match i with|0=>eo0|1=>eo1|2=>eo2|3=>eo3|4=>eo4|_=>eo5) (fun i=>match i with|0=>n0|1=>n1|2=>n2|3=>n3|4=>n4|_=>n5) es3 es4 w hT hv z3 z4 (fun i hi=>by match i,hi with|0,_=>exact l0|1,_=>exact l1|2,_=>exact l2|3,_=>exact l3|4,_=>exact l4|5,_=>exact l5|i+6,hi=>omega) (fun i hi=>by match i,hi with|0,_=>exact a0|1,_=>exact a1|2,_=>exact a2|3,_=>exact a3|4,_=>exact a4|5,_=>exact a5|i+6,hi=>omega) (fun i hi=>by match i,hi with|0,_=>exact q0|1,_=>exact q1|2,_=>exact q2|3,_=>exact q3|4,_=>exact q4|5,_=>exact q5|i+6,hi=>omega) r3 r4
  have e:ctake (.mk kk nn ss [t0,t1,t2,t3,t4,t5])=ctk (.mk kk nn ss [t0,t1,t2,t3,t4,t5]) (clamp n0) (clamp n1) (clamp n2) es3 es4 (clamp n5):=by
   show ctk _ (cnum t0) (cnum t1) (cnum t2) (ctxt t3) (ctxt t4) (cnum t5)=_
   rw [u0,u1,u2,v3,v4,u5]
  rw [e]
  by_cases hc:ccheck (clamp n0:Int) (clamp n1:Int) (clamp n2:Int) es3 es4 (clamp n5:Int)=0∧tsame (.mk kk nn ss [t0,t1,t2,t3,t4,t5]) (ctree (clamp n0) (clamp n1) (clamp n2) es3 es4 (clamp n5))=true
  ·unfold ctk
   rw [if_pos hc]
   exact h.mono fun e w' ⟨h1,h2⟩=>⟨h1.trans (congrArg Ending.returned (if_pos hc)),h2⟩
  ·unfold ctk
   rw [if_neg hc]
   exact h.mono fun e w' ⟨h1,h2⟩=>⟨h1.trans (congrArg Ending.returned (if_neg hc)),h2⟩
 ·rw [ctake_none (by omega)]
  exact take_short _ _ _ A m cc w h6
theorem isN_mk (k:Int) (n:Nat) (s:ByteArray) (l:List Tree):isN (.mk k n s l)=true↔k=0∧s.size=0∧l=[]:=by
 unfold isN
 rw [tsame_iff]
 constructor
 ·intro h
  injection h with h1 h2 h3 h4
  exact ⟨h1,by rw [h3];rfl,h4⟩
 ·rintro ⟨rfl,h2,rfl⟩
  rw [size0 h2];rfl
/-- A right set's item is taken as the set. -/
theorem isN_ntree (a:Int):isN (ntree a)=true:=(isN_mk _ _ _ _).2 ⟨rfl,rfl,rfl⟩
theorem inums_get (l:List IdP) (j:Nat) (h:j<l.length):(inums l)[2*j]? =some l[j].1∧(inums l)[2*j+1]? =some l[j].2:=by
 induction l generalizing j with
 |nil=>simp at h
 |cons p l ih=>
  have e:inums (p :: l)=p.1 :: p.2 :: inums l:=rfl
  rw [e]
  cases j with
  |zero=>exact ⟨rfl,rfl⟩
  |succ j=>
   have:=ih j (by simpa using h)
   rw [show 2*(j+1)=2*j+1+1 by omega]
   simpa using this
theorem itake_item (l:List IdP) (h:idsOk l=true):itake (ltree (itrees l))=some l:=by
 have hl:(itrees l).length=2*l.length:=by simp [itrees,inums_length]
 have hk:=idsOk_iff.1 h
 have h2:l.length≤4096:=hk.2.2
 have e2:(itrees l).length / 2=l.length:=by omega
 have hg:∀j,(hj:j<l.length)→gd (itrees l) j=true∧pa (itrees l) j=l[j]:=fun j hj=>by
  obtain ⟨g1,g2⟩:=inums_get l j hj
  have q1:(itrees l)[2*j]? =some (ntree l[j].1):=by unfold itrees;rw [List.getElem?_map,g1];rfl
  have q2:(itrees l)[2*j+1]? =some (ntree l[j].2):=by unfold itrees;rw [List.getElem?_map,g2];rfl
  have r1:(itrees l).getD (2*j) default=ntree l[j].1:=by simp [List.getD,q1]
  have r2:(itrees l).getD (2*j+1) default=ntree l[j].2:=by simp [List.getD,q2]
  have hr:=idRight_iff.1 (hk.1 l[j] (List.getElem_mem hj))
  refine ⟨?_,?_⟩
  ·unfold gd;rw [r1,r2,isN_ntree,isN_ntree];rfl
  ·unfold pa
   rw [r1,r2]
   have e1:tN (ntree l[j].1)=u64n l[j].1:=rfl
   have e2:tN (ntree l[j].2)=u64n l[j].2:=rfl
   rw [e1,e2,u64n_of hr.1 (by omega),u64n_of hr.2.2.1 (by omega)]
   refine Prod.ext ?_ ?_
   ·show ((clamp l[j].1.toNat:Nat):Int)=l[j].1
    unfold clamp;omega
   ·show ((clamp l[j].2.toNat:Nat):Int)=l[j].2
    unfold clamp;omega
 have hm:(List.range l.length).map (pa (itrees l))=l:=by
  apply List.ext_getElem
  ·simp
  ·intro i h1 h2
   simp only [List.getElem_map,List.getElem_range]
   exact (hg i h2).2
 unfold ltree
 rw [itake_mk,e2,hm,if_pos]
 exact ⟨by unfold tkHead;simp [hl];omega,fun j hj=>(hg j hj).1,h⟩
end Go.Proofs.YtlolnakeancenaaDoor
