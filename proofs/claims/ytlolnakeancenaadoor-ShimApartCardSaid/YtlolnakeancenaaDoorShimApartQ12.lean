/- The walk of codec.plain: a value of type any as an item. A message, opened; its load and store as a whole; msg.known, of, Same. The walks of attr.Item, attr.old. The walk of ballot.Item. An append onto a full slice that is not one's own; a list with another last part. From the listed variables of a row to the table of kinds. A record that came in, opened. A message that came in, opened. -/
import Derived.Test.YtlolnakeancenaaDoorShimApartQ11
import Derived.Test.YtlolnakeancenaaDoorShimApartQ0
import Derived.Test.YtlolnakeancenaaDoorShimApartQ1
import Derived.Deep.RegionLaw
import Derived.Deep.WholeRow
import Derived.Deep.MidRow
import Derived.Deep.Upon
import Derived.WalkKit
import Derived.WalkSpells
import Derived.WalkLawsBesides
import Derived.Deep.RegionHeld3
import Derived.Deep.DrawnRows
import Derived.Deep.DeepCutAuto
import Derived.Deep.DeepFit
import Derived.Lib.Hide
import Derived.BigQuiet
import Derived.Deep.QuietTactic
import Derived.ArgAppend
import Derived.Test.YtlolnakeancenaaDoorRows
import Derived.Lib.LaidU8
import Derived.PinnedBridge
namespace Go.Proofs.YtlolnakeancenaaDoor
open Go.RowKit
set_option linter.unusedVariables false
set_option linter.unusedSimpArgs false
set_option maxRecDepth 20000
attribute [local go_sem ↓] Go.wp_at_zero Go.wp_at_succ
attribute [local go_sem] World.cell?_alloc_some frozen_alloc_some
attribute [local go_sem] lt2 lt3 lt4 lt5
attribute [local simp] lt2 lt3 lt4 lt5
/-- What plain gives: the tree as an item, in blocks of its own. -/
def Plained (w:World) (t:Tree) (r:Ending) (w':World):Prop:=∃v,r= .returned v∧HoldsIn w' (fun b=>w.heap.size≤b) t v∧Below w.heap.size w w'
theorem plain_num (n:Nat) (hn:n<2 ^ 64) (w:World):Calls Tryd.prog 51 #[.iface 22 (.int .u64 (n:Int))] w (Plained w (.mk 0 n ByteArray.empty [])):=by
 have hnum:=num_any n
 go_enter Tryd.func51,Tryd.ntmps51
 go_wp2_with fail
 refine (hnum _).mono ?_
 rintro e w1 ⟨rfl,hb1⟩
 have hz1:=hb1.size
 simp at hz1
 obtain ⟨q0,r0⟩:=new_keep hb1 0 rfl
 obtain ⟨q1,r1⟩:=new_keep hb1 1 rfl
 obtain ⟨q2,r2⟩:=new_keep hb1 2 rfl
 obtain ⟨q3,r3⟩:=new_keep hb1 3 rfl
 have hbw:Below w.heap.size w w1:=blw
 unfold numV
 go_wp2_with fail
 refine bodyPost_ret (v:=numV n) (by simp [results,Tryd.results51,go_sem, *,numV] <;> rfl) rfl ?_
 exact ⟨_,rfl,hin_num _ _ hn,blw⟩
theorem plain_text (s:ByteArray) (hs:s.size≤maxLen) (w:World):Calls Tryd.prog 51 #[.iface 9 (.string s)] w (Plained w (.mk 1 0 s [])):=by
 have htxt:=codectext_any s
 go_enter Tryd.func51,Tryd.ntmps51
 go_wp2_with fail
 refine (htxt _).mono ?_
 rintro e w1 ⟨rfl,hb1⟩
 have hz1:=hb1.size
 simp at hz1
 obtain ⟨q0,r0⟩:=new_keep hb1 0 rfl
 obtain ⟨q1,r1⟩:=new_keep hb1 1 rfl
 obtain ⟨q2,r2⟩:=new_keep hb1 2 rfl
 obtain ⟨q3,r3⟩:=new_keep hb1 3 rfl
 have hbw:Below w.heap.size w w1:=blw
 unfold textV
 go_wp2_with fail
 refine bodyPost_ret (v:=textV s) (by simp [results,Tryd.results51,go_sem, *,textV] <;> rfl) rfl ?_
 exact ⟨_,rfl,hin_text _ _ hs,blw⟩
theorem own_form {w:World} {base:Nat} {e:TypeId} {size:Nat} {v:Value} {n:Nat} {xs:List Value} (h:w.ownsRow base e size v n xs):∃A c,v= .slice A n c∧n≤c∧c≤maxLen:=by
 rcases h.2 with ⟨rfl,rfl⟩|⟨g,cap,cur,rfl,_,_,hle,hm,_⟩
 ·exact ⟨none,0,rfl,Nat.le_refl _,Nat.zero_le _⟩
 ·exact ⟨_,cap,rfl,hle,hm⟩
theorem grown_cell {w w':World} {row:Option Nat} {B:Nat} (hg:w.grownBy w' row) (hr:∀k,row=some k→B≤k) {a:Addr} {v:Value} (h:w.cell? a=some v) (ha:a.block<B):w'.cell? a=some v:=by
 rw [←h]
 exact World.cell?_of_block (w:=w) (hg.block _ (World.block_lt_of_cell? _ _ h) fun e=>by have:=hr _ e.symm;omega)
theorem grown_frozen {w w':World} {row:Option Nat} {B:Nat} (hg:w.grownBy w' row) (hr:∀k,row=some k→B≤k) {a:Addr} {v:Value} (h:w.cell? a=some v) (ha:a.block<B) {b:Bool} (hf:w.frozen? a=b):w'.frozen? a=b:=by
 rw [←hf]
 exact World.frozen?_of_block (w:=w) (hg.block _ (World.block_lt_of_cell? _ _ h) fun e=>by have:=hr _ e.symm;omega)
set_option maxHeartbeats 8000000 in
theorem plain_list (l:List Tree) (S:Nat→Prop) (v:Value) (w:World) (ht:Tall w S (.mk 2 0 ByteArray.empty l) v) (hlen:l.length≤1000000000)
  (ih:∀t∈l,∀(u:Value) (S:Nat→Prop) (w:World),Tall w S t u→Calls Tryd.prog 51 #[u] w (Plained w t)):
  Calls Tryd.prog 51 #[v] w (Plained w (.mk 2 0 ByteArray.empty l)):=by
 obtain ⟨i1,hi,hz0,hz1,hz2⟩:=info_item
 obtain ⟨A,m,c,vs,rfl,hm,hmc,hc,hcell,hsub⟩:∃(A:Option Addr) (m c:Nat) (vs:Nat→Value),v= .iface 128 (.slice A m c)∧m=l.length∧m≤c∧c≤maxLen∧
   (∀i,i<m→∃b o,A=some ⟨b,o,none⟩∧S b∧w.cell? ⟨b,o+i,none⟩=some (vs i))∧∀(i:Nat) (t:Tree),l[i]? =some t→Tall w S t (vs i):=by
  cases ht with
  |list l A m c vs hm hmc hc hcell hsub=>exact ⟨A,m,c,vs,rfl,hm,hmc,hc,hcell,hsub⟩
 have hml:m≤1000000000:=by omega
 have Hm:=Lib.hid hm
 have Hcell:=Lib.hid hcell
 have Hsub:=Lib.hid hsub
 have Ih:=Lib.hid ih
 clear hm hcell hsub ih ht hlen
 go_enter Tryd.func51,Tryd.ntmps51
 go_wp2_with fail
 go_loopw [30] (fun s30 wr=>∃(us:List Value) (x:Value),s30= .int .i64 us.length∧us.length≤m∧RowS wr (w.heap.size+2) x l us∧Blk wr (w.heap.size+1) 25 #[.int .i64 2,.int .u64 0,.string ByteArray.empty,x]∧Below (w.heap.size+1) (w.alloc (.cells #[.int .i64 0,.int .u64 0,.string ByteArray.empty,.slice none 0 0] 25)) wr) (fun s30 _=>m - (intOf s30).toNat)
 case atStart=>exact ⟨[],.slice none 0 0,rfl,by simp,RowS.nil_ _ _ _,(by have h:=Blk.new (w.alloc (.cells #[.int .i64 0,.int .u64 0,.string ByteArray.empty,.slice none 0 0] 25)) 25 #[.int .i64 2,.int .u64 0,.string ByteArray.empty,.slice none 0 0];rw [World.size_alloc] at h;exact h),(Below.refl _ _).alloc (by simp) _⟩
 case round=>
  obtain ⟨us,x,rfl,hj,hrow,hblk,hbr⟩:=hrel
  have hzr:=hbr.size
  have hzb:=hblk.lt
  simp at hzr
  have hbw:=below_box hbr
  by_cases hlt:us.length<m
  ·have hjl:us.length<l.length:=by have:=Hm.out;omega
   obtain ⟨g,o,rfl,hSg,hca⟩:=Hcell.out us.length hlt
   have hu:=(Hsub.out us.length _ (List.getElem?_eq_getElem hjl)).under hbw
   have hcr:=cell_keep hbw hca
   have hcall:∀W,Below wr.heap.size wr W→Calls Tryd.prog 51 #[vs us.length] W (Plained W l[us.length]):=fun W h=>Ih.out l[us.length] (List.getElem_mem hjl) (vs us.length) S W (hu.under h)
   have j0:(0:Int)≤(us.length:Int):=by omega
   have j1:(us.length:Int)<(m:Int):=by omega
   obtain ⟨A3,c3,rfl,hl3,hc3⟩:=hrow.form
   have k3:wr.cell? ⟨w.heap.size+1,3,none⟩=some (.slice A3 us.length c3):=by rw [hblk.cell];rfl
   have f3:wr.frozen? ⟨w.heap.size+1,3,none⟩=false:=hblk.frozen 3
   have Hget:=Lib.hid (List.getElem?_eq_getElem hjl)
   have Hrow:=Lib.hid hrow
   have Hblk:=Lib.hid hblk
   clear hu hrow hblk
   go_wp2_with fail
   go_region_law (first|((((refine step_app _ rfl (.tmp 35) (.tmp 38) 23 rfl _ 25 i1 _ 4 56 Tryd.underlying23 hi hz0 hz1 hz2 rfl (by omega) _ _ _ rfl hrow5.own _ _ _ _ rfl hsrc ?h63 ?hby ?hbase ?_);(case h63=>(unfold maxLen;first|omega|(simp;done)|(simp;omega)));(case hby=>first|omega|(simp;done)|(simp;omega));(case hbase=>first|omega|(simp;done)|(simp;omega));intro v6 w6 hownw6 hgroww6 hatw6 holdw6));have k6:=grown_cell hgroww6 (fun k hk=>(hrow5.own.lt k hk).1) k5 (Nat.lt_succ_self _);have f6:=grown_frozen hgroww6 (fun k hk=>(hrow5.own.lt k hk).1) k5 (Nat.lt_succ_self _) f5;obtain ⟨A6,c6,rfl,_,_⟩:=own_form hownw6)|(go_simp;go_at_call 51;(with_reducible refine (hcall _ ?hbel).mono ?_);(case hbel=>exact blw);rintro e w5 ⟨u,rfl,hin,hb5⟩;have hz5:=hb5.size;(try simp at hz5);obtain ⟨ku,nu,su,Au,mu,cu,rfl⟩:=hin.form;have k4:=cell_keep hb5 (show World.cell? wr.drew ⟨w.heap.size+1,3,none⟩=some (.slice A3 us.length c3) from k3);have f4:=frozen_keep hb5 (show World.cell? wr.drew ⟨w.heap.size+1,3,none⟩=some (.slice A3 us.length c3) from k3) (show World.frozen? wr.drew ⟨w.heap.size+1,3,none⟩=false from f3);have k5:=cell_alloc (o:=.cells #[.int .i64 ku,.int .u64 nu,.string su,.slice Au mu cu] 25) k4;have f5:=frozen_alloc (o:=.cells #[.int .i64 ku,.int .u64 nu,.string su,.slice Au mu cu] 25) k4 f4;have hrow5:=((Hrow.out.below ((Below.refl _ _).drew)).below hb5).below ((Below.refl _ _).alloc (Nat.le_refl _) (.cells #[.int .i64 ku,.int .u64 nu,.string su,.slice Au mu cu] 25));have hsrc:=src_item (w:=w5) (e:=25) hin.four.1 hin.four.2))
   all_goals
    have hkw5:Below wr.heap.size wr w5:=blw
    have hin5:=hin.under (w':=w5.alloc (.cells #[.int .i64 ku,.int .u64 nu,.string su,.slice Au mu cu] 25)) ((Below.refl _ _).alloc (Nat.le_refl _) _)
    have hb5':Below (w.heap.size+1) (w.alloc (.cells #[.int .i64 0,.int .u64 0,.string ByteArray.empty,.slice none 0 0] 25)) (w5.alloc (.cells #[.int .i64 ku,.int .u64 nu,.string su,.slice Au mu cu] 25)):=(below_call hbr hkw5 hzr).alloc (by omega) _
    have hb6:=below_app hb5' hrow5.own hgroww6 (Nat.le_succ _) (by simp;omega)
    have hb7:=hb6.setCell (p:=⟨w.heap.size+1,3,none⟩) (Nat.le_refl _) (.slice A6 (us.length+1) c6)
    have hblk5:=(Hblk.out.keep hkw5).alloc (.cells #[.int .i64 ku,.int .u64 nu,.string su,.slice Au mu cu] 25)
    have hblk6:Blk w6 (w.heap.size+1) 25 _:=(hgroww6.block _ hblk5.lt (fun e=>by have:=(hrow5.own.lt _ e.symm).1;omega)).trans hblk5
    have hblk7:=hblk6.set_ 3 (.slice A6 (us.length+1) c6)
    have hst:=hrow5.step Hget.out hin5 (by simp;omega) (fun k hk=>by have:=(Hrow.out.own.lt k hk).2;simpa using this) hownw6 hgroww6 hatw6
    have hst7:=hst.set (p:=⟨w.heap.size+1,3,none⟩) (Nat.lt_succ_self _) (.slice A6 (us.length+1) c6)
    have Hst7:=Lib.hid hst7
    have Hblk7:=Lib.hid hblk7
    have Hb7:=Lib.hid hb7
    clear hst hst7 hblk5 hblk6 hblk7 hb5' hb6 hb7 hin hin5 hownw6 holdw6 hatw6
    go_wp2_with fail
    go_roundw
    case rel=>exact ⟨us++ [.agg #[.int .i64 ku,.int .u64 nu,.string su,.slice Au mu cu]],.slice A6 (us.length+1) c6,(by first|rfl|(simp;done)|go_num),(by first|omega|(simp;done)|(simp;omega)),Hst7.out,(by have:=Hblk7.out;simpa using this),Hb7.out⟩
    case measure=>simp [intOf];omega
  ·have hul:us.length=l.length:=by have:=Hm.out;omega
   obtain ⟨A3,c3,rfl,hl3,hc3⟩:=hrow.form
   have hnode:=hrow.node hul
   have Hnode:=Lib.hid hnode
   have k0:wr.cell? ⟨w.heap.size+1,0,none⟩=some (.int .i64 2):=by rw [hblk.cell];rfl
   have k1:wr.cell? ⟨w.heap.size+1,1,none⟩=some (.int .u64 0):=by rw [hblk.cell];rfl
   have k2:wr.cell? ⟨w.heap.size+1,2,none⟩=some (.string ByteArray.empty):=by rw [hblk.cell];rfl
   have k3:wr.cell? ⟨w.heap.size+1,3,none⟩=some (.slice A3 us.length c3):=by rw [hblk.cell];rfl
   have q0:=box_cell hbr 0 rfl
   have q1:=box_cell hbr 1 rfl
   have q2:=box_cell hbr 2 rfl
   have q3:=box_cell hbr 3 rfl
   have g0:wr.frozen? ⟨w.heap.size,0,none⟩=false:=(hbr.frozen (p:=⟨w.heap.size,0,none⟩) (Nat.lt_succ_self _)).trans (by simp [go_sem])
   have g1:wr.frozen? ⟨w.heap.size,1,none⟩=false:=(hbr.frozen (p:=⟨w.heap.size,1,none⟩) (Nat.lt_succ_self _)).trans (by simp [go_sem])
   have g2:wr.frozen? ⟨w.heap.size,2,none⟩=false:=(hbr.frozen (p:=⟨w.heap.size,2,none⟩) (Nat.lt_succ_self _)).trans (by simp [go_sem])
   have g3:wr.frozen? ⟨w.heap.size,3,none⟩=false:=(hbr.frozen (p:=⟨w.heap.size,3,none⟩) (Nat.lt_succ_self _)).trans (by simp [go_sem])
   clear hrow hnode hblk hul
   go_wp2_with fail
   refine bodyPost_ret (v:=.agg #[.int .i64 2,.int .u64 0,.string ByteArray.empty,.slice A3 us.length c3]) (by simp [results,Tryd.results51,go_sem, *] <;> rfl) rfl ?_
   have h4:=(((Hnode.out.set (p:=⟨w.heap.size,0,none⟩) (by simp) (.int .i64 2)).set (p:=⟨w.heap.size,1,none⟩) (by simp) (.int .u64 0)).set (p:=⟨w.heap.size,2,none⟩) (by simp) (.string ByteArray.empty)).set (p:=⟨w.heap.size,3,none⟩) (by simp) (.slice A3 us.length c3)
   exact ⟨_,rfl,h4.mono fun b hb=>by omega,blw⟩
theorem plain_any (t:Tree):∀(u:Value) (S:Nat→Prop) (w:World),tsize t≤10000000→Tall w S t u→Calls Tryd.prog 51 #[u] w (Plained w t):=by
 refine Tree.ind (P:=fun t=>∀(u:Value) (S:Nat→Prop) (w:World),tsize t≤10000000→Tall w S t u→Calls Tryd.prog 51 #[u] w (Plained w t)) ?_ t
 intro k n s l ih u S w hsz ht
 simp only [tsize] at hsz
 have ht2:=ht
 cases ht with
 |num n hn=>exact plain_num n hn w
 |text s hs=>exact plain_text s hs w
 |list l A m c vs hm hmc hc hcell hsub=>
  exact plain_list l S _ w ht2 (by have:=tsizes_len l;omega) fun t hm u S w h=>ih t hm u S w (by have:=tsizes_mem hm;omega) h
end Go.Proofs.YtlolnakeancenaaDoor
namespace Go.Proofs.YtlolnakeancenaaDoor
open Go.RowKit
set_option linter.unusedVariables false
set_option linter.unusedSimpArgs false
set_option maxRecDepth 20000
attribute [local go_sem ↓] Go.wp_at_zero Go.wp_at_succ
attribute [local go_sem] World.cell?_alloc_some frozen_alloc_some
structure MsgT where
 k:Int
 i:Int
 n:Int
 br:Int
 bb:Int
 tr:Int
 tb:Int
 st:Int
 ck:Int
 cc:Int
 cq:Int
 cy:ByteArray
 cx:ByteArray
 cr:Int
 A:Option Addr
 m:Nat
 cap:Nat
 sq:Int
 tg:Int
 ver:Int
 l:List IdP
/-- The message's eighteen cells. -/
def MsgT.v (r:MsgT):Value:=.agg #[.int .i64 r.k,.int .i64 r.i,.int .i64 r.n,.int .i64 r.br,.int .i64 r.bb,.int .i64 r.tr,.int .i64 r.tb,.int .i64 r.st,.int .i64 r.ck,.int .i64 r.cc,.int .i64 r.cq,.string r.cy,.string r.cx,.int .i64 r.cr,.slice r.A r.m r.cap,.int .i64 r.sq,.int .i64 r.tg,.int .i64 r.ver]
def MsgT.p (r:MsgT):AttrP:=⟨r.l,r.sq,r.tg⟩
/-- What is true of every message. -/
structure MsgT.Ok (w:World) (R:MsgT):Prop where
 k:(Lit.int .i64 R.k).wf=true
 i:(Lit.int .i64 R.i).wf=true
 n:(Lit.int .i64 R.n).wf=true
 br:(Lit.int .i64 R.br).wf=true
 bb:(Lit.int .i64 R.bb).wf=true
 tr:(Lit.int .i64 R.tr).wf=true
 tb:(Lit.int .i64 R.tb).wf=true
 st:(Lit.int .i64 R.st).wf=true
 ck:(Lit.int .i64 R.ck).wf=true
 cc:(Lit.int .i64 R.cc).wf=true
 cq:(Lit.int .i64 R.cq).wf=true
 cy:R.cy.size≤maxLen
 cx:R.cx.size≤maxLen
 cr:(Lit.int .i64 R.cr).wf=true
 m:R.m≤R.cap
 cap:R.m≤R.cap
 l:IdsAt w R.A R.m R.l
 sq:(Lit.int .i64 R.sq).wf=true
 tg:(Lit.int .i64 R.tg).wf=true
 ver:(Lit.int .i64 R.ver).wf=true
theorem MsgT.Ok.keep {w w':World} {r:MsgT} (h:r.Ok w) (hb:Below w.heap.size w w'):r.Ok w':={ h with l:=h.l.keep hb }
theorem msginfo_size:(Tryd.prog.info? 50).map (·.size)=some 18:=by kernel_rfl
def loadMsg (a:Addr):Sem Value:=loadVar 50 a
theorem loadVar_msg (a:Addr):loadVar 50 a=loadMsg a:=rfl
def storeMsg (a:Addr) (v:Value):Sem Unit:=storeVar 50 a v
theorem storeVar_msg (a:Addr) (v:Value):storeVar 50 a v=storeMsg a v:=rfl
theorem msg_load {w:World} {g:Nat} {d0 d1 d2 d3 d4 d5 d6 d7 d8 d9 d10 d11 d12 d13 d14 d15 d16 d17:Value} (h:Blk w g 50 #[d0,d1,d2,d3,d4,d5,d6,d7,d8,d9,d10,d11,d12,d13,d14,d15,d16,d17]):(loadMsg ⟨g,0,none⟩).run Tryd.prog w= .ok (.agg #[d0,d1,d2,d3,d4,d5,d6,d7,d8,d9,d10,d11,d12,d13,d14,d15,d16,d17]) w:=
 run_loadVar_mid (P:=Tryd.prog) w g 0 50 [d0,d1,d2,d3,d4,d5,d6,d7,d8,d9,d10,d11,d12,d13,d14,d15,d16,d17] _ (fun j v hv=>by rw [Nat.zero_add,h.cell];simpa using hv) Tryd.underlying50 rfl (by rw [msginfo_size];rfl)
theorem msg_store_new (w:World) (d0 d1 d2 d3 d4 d5 d6 d7 d8 d9 d10 d11 d12 d13 d14 d15 d16 d17:Value) (c0:Int) (c1:Int) (c2:Int) (c3:Int) (c4:Int) (c5:Int) (c6:Int) (c7:Int) (c8:Int) (c9:Int) (c10:Int) (c11:ByteArray) (c12:ByteArray) (c13:Int) (c14a:Option Addr) (c14m c14c:Nat) (c15:Int) (c16:Int) (c17:Int):
  (storeMsg ⟨w.heap.size,0,none⟩ (.agg #[.int .i64 c0,.int .i64 c1,.int .i64 c2,.int .i64 c3,.int .i64 c4,.int .i64 c5,.int .i64 c6,.int .i64 c7,.int .i64 c8,.int .i64 c9,.int .i64 c10,.string c11,.string c12,.int .i64 c13,.slice c14a c14m c14c,.int .i64 c15,.int .i64 c16,.int .i64 c17])).run Tryd.prog (w.alloc (.cells #[d0,d1,d2,d3,d4,d5,d6,d7,d8,d9,d10,d11,d12,d13,d14,d15,d16,d17] 50))= .ok () (w.alloc (.cells #[.int .i64 c0,.int .i64 c1,.int .i64 c2,.int .i64 c3,.int .i64 c4,.int .i64 c5,.int .i64 c6,.int .i64 c7,.int .i64 c8,.int .i64 c9,.int .i64 c10,.string c11,.string c12,.int .i64 c13,.slice c14a c14m c14c,.int .i64 c15,.int .i64 c16,.int .i64 c17] 50)):=
 run_storeVar_new w _ _ _ (by rw [msginfo_size];rfl) rfl (by simp [Value.oneCell'])
/-- A world with a block's eighteen cells anew. -/
def msgSet (w:World) (g:Nat) (cs:Array Value):World:=w.setCells g 0 cs.toList
theorem msg_store {w:World} {g:Nat} {cs:Array Value} (h:Blk w g 50 cs) (hs:cs.size=18) (c0:Int) (c1:Int) (c2:Int) (c3:Int) (c4:Int) (c5:Int) (c6:Int) (c7:Int) (c8:Int) (c9:Int) (c10:Int) (c11:ByteArray) (c12:ByteArray) (c13:Int) (c14a:Option Addr) (c14m c14c:Nat) (c15:Int) (c16:Int) (c17:Int):
  (storeMsg ⟨g,0,none⟩ (.agg #[.int .i64 c0,.int .i64 c1,.int .i64 c2,.int .i64 c3,.int .i64 c4,.int .i64 c5,.int .i64 c6,.int .i64 c7,.int .i64 c8,.int .i64 c9,.int .i64 c10,.string c11,.string c12,.int .i64 c13,.slice c14a c14m c14c,.int .i64 c15,.int .i64 c16,.int .i64 c17])).run Tryd.prog w= .ok () (msgSet w g #[.int .i64 c0,.int .i64 c1,.int .i64 c2,.int .i64 c3,.int .i64 c4,.int .i64 c5,.int .i64 c6,.int .i64 c7,.int .i64 c8,.int .i64 c9,.int .i64 c10,.string c11,.string c12,.int .i64 c13,.slice c14a c14m c14c,.int .i64 c15,.int .i64 c16,.int .i64 c17]):=
 run_storeVar_mid (P:=Tryd.prog) w g 0 50 #[.int .i64 c0,.int .i64 c1,.int .i64 c2,.int .i64 c3,.int .i64 c4,.int .i64 c5,.int .i64 c6,.int .i64 c7,.int .i64 c8,.int .i64 c9,.int .i64 c10,.string c11,.string c12,.int .i64 c13,.slice c14a c14m c14c,.int .i64 c15,.int .i64 c16,.int .i64 c17] (h.there (by rw [hs];exact Nat.le_refl _)) (by rw [msginfo_size];rfl) (by simp [Value.oneCell'])
theorem Blk.msgSet {w:World} {g:Nat} {cs cs':Array Value} (h:Blk w g 50 cs) (hs:cs'.size=cs.size):Blk (msgSet w g cs') g 50 cs':=h.setCells hs
theorem Blk.msgSet_far {w:World} {g k:Nat} {t:TypeId} {cs cs':Array Value} (h:Blk w k t cs) (hk:k≠g):Blk (Go.Proofs.YtlolnakeancenaaDoor.msgSet w g cs') k t cs:=
 (World.heap_setCells_other w g 0 cs'.toList h.lt hk).trans h
theorem below_msgSet {B g:Nat} {a w:World} (h:Below B a w) (hg:B≤g) (cs:Array Value):Below B a (msgSet w g cs):=below_setCells hg _ 0 h
theorem results_cell1 {fn:Func} {p:Tmp} {ty:TypeId} (h:fn.results=#[.cell p ty]) (tmps:Array Value) (P:Program) (w:World):
  (results fn tmps).run P w=((asAddr (tmps.getD p undef)).run P w).andThen fun a w₁=>(loadVar ty a).run P w₁:=by
 simp only [results,h]
 simp [Sem.run_bind,Result.andThen]
theorem results_msg1 {fn:Func} {p:Tmp} {tmps:Array Value} {w:World} {g:Nat} {d0 d1 d2 d3 d4 d5 d6 d7 d8 d9 d10 d11 d12 d13 d14 d15 d16 d17:Value} (h:fn.results=#[.cell p 50]) (hp:tmps.getD p undef= .pointer (some ⟨g,0,none⟩))
  (hb:Blk w g 50 #[d0,d1,d2,d3,d4,d5,d6,d7,d8,d9,d10,d11,d12,d13,d14,d15,d16,d17]):(results fn tmps).run Tryd.prog w= .ok (.agg #[d0,d1,d2,d3,d4,d5,d6,d7,d8,d9,d10,d11,d12,d13,d14,d15,d16,d17]) w:=by
 have hl:=msg_load hb
 rw [results_cell1 h,hp]
 show ((loadMsg ⟨g,0,none⟩).run Tryd.prog w)=_
 exact hl
abbrev SM (g:Nat) (cs:Array Value) (wx:World):Prop:=(loadMsg ⟨g,0,none⟩).run Tryd.prog wx= .ok (.agg cs) wx∧∀i,wx.cell? ⟨g,i,none⟩=cs[i]?
theorem Blk.sm {w:World} {g:Nat} {d0 d1 d2 d3 d4 d5 d6 d7 d8 d9 d10 d11 d12 d13 d14 d15 d16 d17:Value} (h:Blk w g 50 #[d0,d1,d2,d3,d4,d5,d6,d7,d8,d9,d10,d11,d12,d13,d14,d15,d16,d17]):SM g #[d0,d1,d2,d3,d4,d5,d6,d7,d8,d9,d10,d11,d12,d13,d14,d15,d16,d17] w:=⟨msg_load h,h.cell⟩
/-- What kinds have. -/
def kId (k:Int):Bool:=decide (1≤k∧k≤8)
def kBal (k:Int):Bool:=decide (1≤k∧k≤8∧k≠5)
def kSt (k:Int):Bool:=k==7
def kCmd0 (k:Int):Bool:=k==1||k==3||k==5||k==7
def kAt0 (k:Int):Bool:=k==1||k==2||k==3||k==5||k==7
def kVer (k:Int):Bool:=k==9
def kCmd (k st:Int):Bool:=kCmd0 k&& !(k==7&&st==0)
def kAt (k st:Int):Bool:=kAt0 k&& !(k==7&&st==0)
def kHas (k:Int):Array Value:=#[.bool (kId k),.bool (kBal k),.bool (kSt k),.bool (kCmd0 k),.bool (kAt0 k),.bool (kVer k)]
/-- The table of kinds lies where it lies. -/
def KindsAt (w:World):Prop:=∀(k j:Nat) (b:Value),k<10→(kHas (k:Int))[j]? =some b→w.cell? ⟨0,k*6+j,none⟩=some b
theorem KindsAt.keep {w w':World} (h:KindsAt w) (hb:Below w.heap.size w w'):KindsAt w':=fun k j b hk hj=>cell_keep hb (h k j b hk hj)
theorem known_any (k:Int) (w:World):Calls Tryd.prog 42 #[.int .i64 k] w (Gives w (.bool (decide (1≤k∧k<10)))):=by
 by_cases h1:1≤k
 ·by_cases h2:k<10
  ·rw [decide_eq_true ⟨h1,h2⟩]
   go_enter Tryd.func42,Tryd.ntmps42
   go_wp2_with fail
   go_ret
   exact ⟨by simp [h1,h2],blw⟩
  ·rw [decide_eq_false (fun h=>h2 h.2)]
   go_enter Tryd.func42,Tryd.ntmps42
   go_wp2_with fail
   go_ret
   exact ⟨by simp [h1,h2],blw⟩
 ·rw [decide_eq_false (fun h=>h1 h.1)]
  go_enter Tryd.func42,Tryd.ntmps42
  go_wp2_with fail
  go_ret
  exact ⟨by simp [h1],blw⟩
attribute [local go_sem] lt2 lt3 lt4 lt5
attribute [local simp] lt2 lt3 lt4 lt5
def atree (l:List IdP) (sq tg:Int):Tree:=ltree [ntree tg,ntree sq,ltree (itrees l)]
def otree (l:List IdP) (sq:Int):Tree:=ltree [ntree sq,ltree (itrees l)]
set_option maxHeartbeats 4000000 in
theorem attritem_any (A:Option Addr) (m c:Nat) (sq tg:Int) (l:List IdP) (w:World) (h1:IdsAt w A m l) (hm:m≤1000000):Calls Tryd.prog 58 #[.agg #[.slice A m c,.int .i64 sq,.int .i64 tg]] w
  (fun e w'=>∃A' c',e= .returned (listV A' 3 c')∧HoldsIn w' (fun x=>w.heap.size≤x) (atree l sq tg) (listV A' 3 c')∧Below w.heap.size w w'):=by
 have ws:=u64n_cast sq
 have wt:=u64n_cast tg
 have hns:=fun W=>num_any (u64n sq) W
 have hnt:=fun W=>num_any (u64n tg) W
 have hid:=fun W (hb:Below w.heap.size w W)=>idsitem_any A m c l W (h1.keep hb) hm
 have hli:∀(W:World) (A3:Option Addr) (c3:Nat),w.heap.size+2≤W.heap.size→HoldsIn W (fun x=>w.heap.size+2≤x) (ltree (itrees l)) (listV A3 (2*m) c3)→Calls Tryd.prog 55 #[.slice (some ⟨W.heap.size,0,none⟩) 3 3] (W.alloc (.cells #[.int .i64 0,.int .u64 (u64n tg:Int),.string ByteArray.empty,.slice none 0 0,.int .i64 0,.int .u64 (u64n sq:Int),.string ByteArray.empty,.slice none 0 0,.int .i64 2,.int .u64 0,.string ByteArray.empty,.slice A3 (2*m) c3] 25))
   (fun e w'=>∃A' c',e= .returned (.agg #[.int .i64 2,.int .u64 0,.string ByteArray.empty,.slice A' 3 c'])∧HoldsIn w' (fun x=>w.heap.size+2≤x) (atree l sq tg) (.agg #[.int .i64 2,.int .u64 0,.string ByteArray.empty,.slice A' 3 c'])∧Below (W.alloc (.cells #[.int .i64 0,.int .u64 (u64n tg:Int),.string ByteArray.empty,.slice none 0 0,.int .i64 0,.int .u64 (u64n sq:Int),.string ByteArray.empty,.slice none 0 0,.int .i64 2,.int .u64 0,.string ByteArray.empty,.slice A3 (2*m) c3] 25)).heap.size (W.alloc (.cells #[.int .i64 0,.int .u64 (u64n tg:Int),.string ByteArray.empty,.slice none 0 0,.int .i64 0,.int .u64 (u64n sq:Int),.string ByteArray.empty,.slice none 0 0,.int .i64 2,.int .u64 0,.string ByteArray.empty,.slice A3 (2*m) c3] 25)) w'):=fun W A3 c3 h hi=>
  list_in (us:=[numV (u64n tg),numV (u64n sq),listV A3 (2*m) c3]) W (by simp [flatL,numV,Value.cells]) rfl rfl h (by decide) (fun i t u ht hu=>by
   match i with
   |0=>simp at ht hu;subst ht hu;exact hin_num _ _ (u64n_lt _)
   |1=>simp at ht hu;subst ht hu;exact hin_num _ _ (u64n_lt _)
   |2=>simp at ht hu;subst ht hu;exact hi
   |i+3=>simp at ht)
 unfold numV at hns hnt
 unfold listV at hid
 have Hli:=Lib.hid hli
 have Hid:=Lib.hid hid
 clear hli hid h1
 go_enter Tryd.func58,Tryd.ntmps58
 go_upto_region 1 with fail
 have X0:Blk ((w.alloc (.cells #[.slice A m c,.int .i64 sq,.int .i64 tg] 48)).alloc (.cells #[.int .i64 0,.int .u64 0,.string ⟨#[]⟩,.slice none 0 0] 25)).drew w.heap.size 48 #[.slice A m c,.int .i64 sq,.int .i64 tg]:=((Blk.new w _ _).alloc _).drew
 have R0:Blk ((w.alloc (.cells #[.slice A m c,.int .i64 sq,.int .i64 tg] 48)).alloc (.cells #[.int .i64 0,.int .u64 0,.string ⟨#[]⟩,.slice none 0 0] 25)).drew (w.heap.size+1) 25 #[.int .i64 0,.int .u64 0,.string ⟨#[]⟩,.slice none 0 0]:=(Blk.newAt (by simp)).drew
 have k0:Below w.heap.size w ((w.alloc (.cells #[.slice A m c,.int .i64 sq,.int .i64 tg] 48)).alloc (.cells #[.int .i64 0,.int .u64 0,.string ⟨#[]⟩,.slice none 0 0] 25)).drew:=blw
 have z0:w.heap.size+2≤((w.alloc (.cells #[.slice A m c,.int .i64 sq,.int .i64 tg] 48)).alloc (.cells #[.int .i64 0,.int .u64 0,.string ⟨#[]⟩,.slice none 0 0] 25)).drew.heap.size:=by simp
 (refine wp_region_held_drew (S:=(S1 w.heap.size #[.slice A m c,.int .i64 sq,.int .i64 tg])) (by kernel_rfl) ?_ (fun hHeld=>?_);(· exact X0.s1))
 (refine take_op (i:=0) (v:=?_) rfl (by kernel_rfl) (by kernel_rfl) (by kernel_rfl) (fun _ _ _ h=>h) (by rfl) ?_ hHeld ?_;rotate_left;(· (intro wS hSw;(try dsimp only at hSw);go_simp;first|done|with_reducible rfl));simp only [Act.put,sta_,scz_,scs_]);(refine take_op (i:=1) (v:=?_) rfl (by kernel_rfl) (by kernel_rfl) (by kernel_rfl) (fun _ _ _ h=>h) (by rfl) ?_ hHeld ?_;rotate_left;(· (intro wS hSw;(try dsimp only at hSw);go_simp;first|done|with_reducible rfl));simp only [Act.put,sta_,scz_,scs_]);(refine take_op (i:=2) (v:=?_) rfl (by kernel_rfl) (by kernel_rfl) (by kernel_rfl) (fun _ _ _ h=>h) (by rfl) ?_ hHeld ?_;rotate_left;(· (intro wS hSw;(try dsimp only at hSw);go_simp;first|done|with_reducible rfl));simp only [Act.put,sta_,scz_,scs_]);(refine take_op (i:=4) (v:=?_) rfl (by kernel_rfl) (by kernel_rfl) (by kernel_rfl) (fun _ _ _ h=>h) (by rfl) ?_ hHeld ?_;rotate_left;(· (intro wS hSw;(try dsimp only at hSw);go_simp;first|done|with_reducible rfl));simp only [Act.put,sta_,scz_,scs_]);(refine take_op (i:=5) (v:=?_) rfl (by kernel_rfl) (by kernel_rfl) (by kernel_rfl) (fun _ _ _ h=>h) (by rfl) ?_ hHeld ?_;rotate_left;(· (intro wS hSw;(try dsimp only at hSw);go_simp;first|done|with_reducible rfl));simp only [Act.put,sta_,scz_,scs_]);(refine take_op (i:=6) (v:=?_) rfl (by kernel_rfl) (by kernel_rfl) (by kernel_rfl) (fun _ _ _ h=>h) (by rfl) ?_ hHeld ?_;rotate_left;(· (intro wS hSw;(try dsimp only at hSw);go_simp;first|done|with_reducible rfl));simp only [Act.put,sta_,scz_,scs_]);(refine take_op (i:=8) (v:=?_) rfl (by kernel_rfl) (by kernel_rfl) (by kernel_rfl) (fun _ _ _ h=>h) (by rfl) ?_ hHeld ?_;rotate_left;(· (intro wS hSw;(try dsimp only at hSw);go_simp;first|done|with_reducible rfl));simp only [Act.put,sta_,scz_,scs_]);(refine take_op (i:=9) (v:=?_) rfl (by kernel_rfl) (by kernel_rfl) (by kernel_rfl) (fun _ _ _ h=>h) (by rfl) ?_ hHeld ?_;rotate_left;(· (intro wS hSw;(try dsimp only at hSw);go_simp;first|done|with_reducible rfl));simp only [Act.put,sta_,scz_,scs_])
 revert X0 R0 k0 z0
 generalize World.drew _=w0
 intro X0 R0 k0 z0
 (refine call_op (i:=3) rfl (by kernel_rfl) (by rfl) (fun K hK=>?_);go_simp;(go_at_call 53;(with_reducible refine (hnt _).mono ?_);rintro e w1 ⟨rfl,hb1⟩;have X1:=X0.keep hb1;have R1:=R0.keep hb1;have k1:=below_call k0 hb1 k0.size;have z1:=hb1.size);refine hK.out _ _ X1.s1 (fun hHeld2=>?_);clear hK K hHeld;have hHeld:=hHeld2;clear hHeld2;(try simp only [Act.put,sta_,scz_,scs_]))
 (refine call_op (i:=7) rfl (by kernel_rfl) (by rfl) (fun K hK=>?_);go_simp;(go_at_call 53;(with_reducible refine (hns _).mono ?_);rintro e w2 ⟨rfl,hb2⟩;have X2:=X1.keep hb2;have R2:=R1.keep hb2;have k2:=below_call k1 hb2 k1.size;have z2:=hb2.size);refine hK.out _ _ X2.s1 (fun hHeld2=>?_);clear hK K hHeld;have hHeld:=hHeld2;clear hHeld2;(try simp only [Act.put,sta_,scz_,scs_]))
 (refine call_op (i:=10) rfl (by kernel_rfl) (by rfl) (fun K hK=>?_);go_simp;(go_at_call 80;(with_reducible refine (Hid.out _ k2).mono ?_);rintro e w3 ⟨A3,c3,rfl,hin3,hb3⟩;have Hin3:=Lib.hid hin3;clear hin3;have X3:=X2.keep hb3;have R3:=R2.keep hb3;have k3:=below_call k2 hb3 k2.size;have z3:=hb3.size);refine hK.out _ _ X3.s1 (fun hHeld2=>?_);clear hK K hHeld;have hHeld:=hHeld2;clear hHeld2;(try simp only [Act.put,sta_,scz_,scs_]))
 (refine call_op (i:=11) rfl (by kernel_rfl) (by rfl) (fun K hK=>?_);go_simp;skip;refine hK.out _ _ (X3.alloc _).s1 (fun hHeld2=>?_);clear hK K hHeld;have hHeld:=hHeld2;clear hHeld2;(try simp only [Act.put,sta_,scz_,scs_]))
 (refine call_op (i:=12) rfl (by kernel_rfl) (by rfl) (fun K hK=>?_);go_simp;(go_at_call 55;(with_reducible refine (Hli.out w3 _ _ (by omega) (Hin3.out.mono (fun b hb=>by omega))).mono ?_);rintro e w4 ⟨A4,c4,rfl,hin4,hb4⟩;have Hin4:=Lib.hid hin4;clear hin4;have X4:=(X3.alloc _).keep hb4;have R4:=(R3.alloc _).keep hb4;have k4:=below_call (below_call k3 (below_one _) k3.size) hb4 (by have:=k3.size;simp;omega);have R4c:=R4.cell;have R4f:=R4.frozen);refine hK.out _ _ X4.s1 (fun hHeld2=>?_);clear hK K hHeld;have hHeld:=hHeld2;clear hHeld2;(try simp only [Act.put,sta_,scz_,scs_]))
 (refine call_op (i:=13) rfl (by kernel_rfl) (by rfl) (fun K hK=>?_);go_simp;skip;refine hK.out _ _ (((((X4.far (p:=⟨w.heap.size+1,0,none⟩) (by simp) _).far (p:=⟨w.heap.size+1,1,none⟩) (by simp) _).far (p:=⟨w.heap.size+1,2,none⟩) (by simp) _).far (p:=⟨w.heap.size+1,3,none⟩) (by simp) _).s1) (fun hHeld2=>?_);clear hK K hHeld;have hHeld:=hHeld2;clear hHeld2;(try simp only [Act.put,sta_,scz_,scs_]))
 (refine wpAnyH_done (by kernel_rfl) ?_ _)
 go_wp2_with fail
 refine bodyPost_ret (v:=listV A4 3 c4) (by simp [results,Tryd.results58,go_sem, *] <;> rfl) rfl ?_
 exact ⟨A4,c4,rfl,(hin_set4 Hin4.out (by omega) _ _ _ _).mono (fun b hb=>by omega),blw⟩
set_option maxHeartbeats 4000000 in
theorem attroldi_any (A:Option Addr) (m c:Nat) (sq tg:Int) (l:List IdP) (w:World) (h1:IdsAt w A m l) (hm:m≤1000000):Calls Tryd.prog 86 #[.agg #[.slice A m c,.int .i64 sq,.int .i64 tg]] w
  (fun e w'=>∃A' c',e= .returned (listV A' 2 c')∧HoldsIn w' (fun x=>w.heap.size≤x) (otree l sq) (listV A' 2 c')∧Below w.heap.size w w'):=by
 have ws:=u64n_cast sq
 have wt:=u64n_cast tg
 have hns:=fun W=>num_any (u64n sq) W
 have hnt:=fun W=>num_any (u64n tg) W
 have hid:=fun W (hb:Below w.heap.size w W)=>idsitem_any A m c l W (h1.keep hb) hm
 have hli:∀(W:World) (A3:Option Addr) (c3:Nat),w.heap.size+2≤W.heap.size→HoldsIn W (fun x=>w.heap.size+2≤x) (ltree (itrees l)) (listV A3 (2*m) c3)→Calls Tryd.prog 55 #[.slice (some ⟨W.heap.size,0,none⟩) 2 2] (W.alloc (.cells #[.int .i64 0,.int .u64 (u64n sq:Int),.string ByteArray.empty,.slice none 0 0,.int .i64 2,.int .u64 0,.string ByteArray.empty,.slice A3 (2*m) c3] 25))
   (fun e w'=>∃A' c',e= .returned (.agg #[.int .i64 2,.int .u64 0,.string ByteArray.empty,.slice A' 2 c'])∧HoldsIn w' (fun x=>w.heap.size+2≤x) (otree l sq) (.agg #[.int .i64 2,.int .u64 0,.string ByteArray.empty,.slice A' 2 c'])∧Below (W.alloc (.cells #[.int .i64 0,.int .u64 (u64n sq:Int),.string ByteArray.empty,.slice none 0 0,.int .i64 2,.int .u64 0,.string ByteArray.empty,.slice A3 (2*m) c3] 25)).heap.size (W.alloc (.cells #[.int .i64 0,.int .u64 (u64n sq:Int),.string ByteArray.empty,.slice none 0 0,.int .i64 2,.int .u64 0,.string ByteArray.empty,.slice A3 (2*m) c3] 25)) w'):=fun W A3 c3 h hi=>
  list_in (us:=[numV (u64n sq),listV A3 (2*m) c3]) W (by simp [flatL,numV,Value.cells]) rfl rfl h (by decide) (fun i t u ht hu=>by
   match i with
   |0=>simp at ht hu;subst ht hu;exact hin_num _ _ (u64n_lt _)
   |1=>simp at ht hu;subst ht hu;exact hi
   |i+2=>simp at ht)
 unfold numV at hns hnt
 unfold listV at hid
 have Hli:=Lib.hid hli
 have Hid:=Lib.hid hid
 clear hli hid h1
 go_enter Tryd.func86,Tryd.ntmps86
 go_upto_region 1 with fail
 have X0:Blk ((w.alloc (.cells #[.slice A m c,.int .i64 sq,.int .i64 tg] 48)).alloc (.cells #[.int .i64 0,.int .u64 0,.string ⟨#[]⟩,.slice none 0 0] 25)).drew w.heap.size 48 #[.slice A m c,.int .i64 sq,.int .i64 tg]:=((Blk.new w _ _).alloc _).drew
 have R0:Blk ((w.alloc (.cells #[.slice A m c,.int .i64 sq,.int .i64 tg] 48)).alloc (.cells #[.int .i64 0,.int .u64 0,.string ⟨#[]⟩,.slice none 0 0] 25)).drew (w.heap.size+1) 25 #[.int .i64 0,.int .u64 0,.string ⟨#[]⟩,.slice none 0 0]:=(Blk.newAt (by simp)).drew
 have k0:Below w.heap.size w ((w.alloc (.cells #[.slice A m c,.int .i64 sq,.int .i64 tg] 48)).alloc (.cells #[.int .i64 0,.int .u64 0,.string ⟨#[]⟩,.slice none 0 0] 25)).drew:=blw
 have z0:w.heap.size+2≤((w.alloc (.cells #[.slice A m c,.int .i64 sq,.int .i64 tg] 48)).alloc (.cells #[.int .i64 0,.int .u64 0,.string ⟨#[]⟩,.slice none 0 0] 25)).drew.heap.size:=by simp
 (refine wp_region_held_drew (S:=(S1 w.heap.size #[.slice A m c,.int .i64 sq,.int .i64 tg])) (by kernel_rfl) ?_ (fun hHeld=>?_);(· exact X0.s1))
 (refine take_op (i:=0) (v:=?_) rfl (by kernel_rfl) (by kernel_rfl) (by kernel_rfl) (fun _ _ _ h=>h) (by rfl) ?_ hHeld ?_;rotate_left;(· (intro wS hSw;(try dsimp only at hSw);go_simp;first|done|with_reducible rfl));simp only [Act.put,sta_,scz_,scs_]);(refine take_op (i:=1) (v:=?_) rfl (by kernel_rfl) (by kernel_rfl) (by kernel_rfl) (fun _ _ _ h=>h) (by rfl) ?_ hHeld ?_;rotate_left;(· (intro wS hSw;(try dsimp only at hSw);go_simp;first|done|with_reducible rfl));simp only [Act.put,sta_,scz_,scs_]);(refine take_op (i:=2) (v:=?_) rfl (by kernel_rfl) (by kernel_rfl) (by kernel_rfl) (fun _ _ _ h=>h) (by rfl) ?_ hHeld ?_;rotate_left;(· (intro wS hSw;(try dsimp only at hSw);go_simp;first|done|with_reducible rfl));simp only [Act.put,sta_,scz_,scs_]);(refine take_op (i:=4) (v:=?_) rfl (by kernel_rfl) (by kernel_rfl) (by kernel_rfl) (fun _ _ _ h=>h) (by rfl) ?_ hHeld ?_;rotate_left;(· (intro wS hSw;(try dsimp only at hSw);go_simp;first|done|with_reducible rfl));simp only [Act.put,sta_,scz_,scs_]);(refine take_op (i:=5) (v:=?_) rfl (by kernel_rfl) (by kernel_rfl) (by kernel_rfl) (fun _ _ _ h=>h) (by rfl) ?_ hHeld ?_;rotate_left;(· (intro wS hSw;(try dsimp only at hSw);go_simp;first|done|with_reducible rfl));simp only [Act.put,sta_,scz_,scs_])
 revert X0 R0 k0 z0
 generalize World.drew _=w0
 intro X0 R0 k0 z0
 (refine call_op (i:=3) rfl (by kernel_rfl) (by rfl) (fun K hK=>?_);go_simp;(go_at_call 53;(with_reducible refine (hns _).mono ?_);rintro e w2 ⟨rfl,hb2⟩;have X2:=X0.keep hb2;have R2:=R0.keep hb2;have k2:=below_call k0 hb2 k0.size;have z2:=hb2.size);refine hK.out _ _ X2.s1 (fun hHeld2=>?_);clear hK K hHeld;have hHeld:=hHeld2;clear hHeld2;(try simp only [Act.put,sta_,scz_,scs_]))
 (refine call_op (i:=6) rfl (by kernel_rfl) (by rfl) (fun K hK=>?_);go_simp;(go_at_call 80;(with_reducible refine (Hid.out _ k2).mono ?_);rintro e w3 ⟨A3,c3,rfl,hin3,hb3⟩;have Hin3:=Lib.hid hin3;clear hin3;have X3:=X2.keep hb3;have R3:=R2.keep hb3;have k3:=below_call k2 hb3 k2.size;have z3:=hb3.size);refine hK.out _ _ X3.s1 (fun hHeld2=>?_);clear hK K hHeld;have hHeld:=hHeld2;clear hHeld2;(try simp only [Act.put,sta_,scz_,scs_]))
 (refine call_op (i:=7) rfl (by kernel_rfl) (by rfl) (fun K hK=>?_);go_simp;skip;refine hK.out _ _ (X3.alloc _).s1 (fun hHeld2=>?_);clear hK K hHeld;have hHeld:=hHeld2;clear hHeld2;(try simp only [Act.put,sta_,scz_,scs_]))
 (refine call_op (i:=8) rfl (by kernel_rfl) (by rfl) (fun K hK=>?_);go_simp;(go_at_call 55;(with_reducible refine (Hli.out w3 _ _ (by omega) (Hin3.out.mono (fun b hb=>by omega))).mono ?_);rintro e w4 ⟨A4,c4,rfl,hin4,hb4⟩;have Hin4:=Lib.hid hin4;clear hin4;have X4:=(X3.alloc _).keep hb4;have R4:=(R3.alloc _).keep hb4;have k4:=below_call (below_call k3 (below_one _) k3.size) hb4 (by have:=k3.size;simp;omega);have R4c:=R4.cell;have R4f:=R4.frozen);refine hK.out _ _ X4.s1 (fun hHeld2=>?_);clear hK K hHeld;have hHeld:=hHeld2;clear hHeld2;(try simp only [Act.put,sta_,scz_,scs_]))
 (refine call_op (i:=9) rfl (by kernel_rfl) (by rfl) (fun K hK=>?_);go_simp;skip;refine hK.out _ _ (((((X4.far (p:=⟨w.heap.size+1,0,none⟩) (by simp) _).far (p:=⟨w.heap.size+1,1,none⟩) (by simp) _).far (p:=⟨w.heap.size+1,2,none⟩) (by simp) _).far (p:=⟨w.heap.size+1,3,none⟩) (by simp) _).s1) (fun hHeld2=>?_);clear hK K hHeld;have hHeld:=hHeld2;clear hHeld2;(try simp only [Act.put,sta_,scz_,scs_]))
 (refine wpAnyH_done (by kernel_rfl) ?_ _)
 go_wp2_with fail
 refine bodyPost_ret (v:=listV A4 2 c4) (by simp [results,Tryd.results86,go_sem, *] <;> rfl) rfl ?_
 exact ⟨A4,c4,rfl,(hin_set4 Hin4.out (by omega) _ _ _ _).mono (fun b hb=>by omega),blw⟩
end Go.Proofs.YtlolnakeancenaaDoor
namespace Go.Proofs.YtlolnakeancenaaDoor
open Go.RowKit
set_option linter.unusedVariables false
set_option linter.unusedSimpArgs false
set_option maxRecDepth 20000
attribute [local go_sem ↓] Go.wp_at_zero Go.wp_at_succ
attribute [local go_sem] World.cell?_alloc_some frozen_alloc_some
attribute [local go_sem] lt2 lt3 lt4 lt5
attribute [local simp] lt2 lt3 lt4 lt5
def btree (a b:Int):Tree:=ltree [ntree a,ntree b]
set_option maxHeartbeats 4000000 in
theorem balitem_any (a b:Int) (w:World):Calls Tryd.prog 56 #[.agg #[.int .i64 a,.int .i64 b]] w
  (fun e w'=>∃A c,e= .returned (listV A 2 c)∧HoldsIn w' (fun x=>w.heap.size≤x) (btree a b) (listV A 2 c)∧Below w.heap.size w w'):=by
 have wa:=u64n_cast a
 have wb:=u64n_cast b
 have hna:=fun W=>num_any (u64n a) W
 have hnb:=fun W=>num_any (u64n b) W
 have hli:∀W:World,w.heap.size+2≤W.heap.size→Calls Tryd.prog 55 #[.slice (some ⟨W.heap.size,0,none⟩) 2 2] (W.alloc (.cells #[.int .i64 0,.int .u64 (u64n a:Int),.string ByteArray.empty,.slice none 0 0,.int .i64 0,.int .u64 (u64n b:Int),.string ByteArray.empty,.slice none 0 0] 25))
   (fun e w'=>∃A' c',e= .returned (.agg #[.int .i64 2,.int .u64 0,.string ByteArray.empty,.slice A' 2 c'])∧HoldsIn w' (fun x=>w.heap.size+2≤x) (btree a b) (.agg #[.int .i64 2,.int .u64 0,.string ByteArray.empty,.slice A' 2 c'])∧Below (W.alloc (.cells #[.int .i64 0,.int .u64 (u64n a:Int),.string ByteArray.empty,.slice none 0 0,.int .i64 0,.int .u64 (u64n b:Int),.string ByteArray.empty,.slice none 0 0] 25)).heap.size (W.alloc (.cells #[.int .i64 0,.int .u64 (u64n a:Int),.string ByteArray.empty,.slice none 0 0,.int .i64 0,.int .u64 (u64n b:Int),.string ByteArray.empty,.slice none 0 0] 25)) w'):=fun W h=>
  list_in (us:=[numV (u64n a),numV (u64n b)]) W (by simp [flatL,numV,Value.cells]) rfl rfl h (by decide) (fun i t u ht hu=>by
   match i with
   |0=>simp at ht hu;subst ht hu;exact hin_num _ _ (u64n_lt a)
   |1=>simp at ht hu;subst ht hu;exact hin_num _ _ (u64n_lt b)
   |i+2=>simp at ht)
 unfold numV at hna hnb
 have Hli:=Lib.hid hli
 clear hli
 go_enter Tryd.func56,Tryd.ntmps56
 go_upto_region 1 with fail
 have R0:Blk ((w.alloc (.cells #[.int .i64 a,.int .i64 b] 43)).alloc (.cells #[.int .i64 0,.int .u64 0,.string ⟨#[]⟩,.slice none 0 0] 25)).drew (w.heap.size+1) 25 #[.int .i64 0,.int .u64 0,.string ⟨#[]⟩,.slice none 0 0]:=(Blk.newAt (by simp)).drew
 have b0:Below w.heap.size w ((w.alloc (.cells #[.int .i64 a,.int .i64 b] 43)).alloc (.cells #[.int .i64 0,.int .u64 0,.string ⟨#[]⟩,.slice none 0 0] 25)).drew:=blw
 (refine wp_region_held_drew (S:=(S2 ⟨w.heap.size,0,none⟩ ⟨w.heap.size,1,none⟩ (.int .i64 a) (.int .i64 b))) (by kernel_rfl) ?_ (fun hHeld=>?_);(· exact S2.drew ⟨by simp [go_sem],by simp [go_sem]⟩))
 (refine take_op (i:=0) (v:=?_) rfl (by kernel_rfl) (by kernel_rfl) (by kernel_rfl) (fun _ _ _ h=>h) (by rfl) ?_ hHeld ?_;rotate_left;(· (intro wS hSw;(try dsimp only at hSw);go_simp;first|done|with_reducible rfl));simp only [Act.put,sta_,scz_,scs_]);(refine take_op (i:=1) (v:=?_) rfl (by kernel_rfl) (by kernel_rfl) (by kernel_rfl) (fun _ _ _ h=>h) (by rfl) ?_ hHeld ?_;rotate_left;(· (intro wS hSw;(try dsimp only at hSw);go_simp;first|done|with_reducible rfl));simp only [Act.put,sta_,scz_,scs_]);(refine take_op (i:=2) (v:=?_) rfl (by kernel_rfl) (by kernel_rfl) (by kernel_rfl) (fun _ _ _ h=>h) (by rfl) ?_ hHeld ?_;rotate_left;(· (intro wS hSw;(try dsimp only at hSw);go_simp;first|done|with_reducible rfl));simp only [Act.put,sta_,scz_,scs_]);(refine take_op (i:=4) (v:=?_) rfl (by kernel_rfl) (by kernel_rfl) (by kernel_rfl) (fun _ _ _ h=>h) (by rfl) ?_ hHeld ?_;rotate_left;(· (intro wS hSw;(try dsimp only at hSw);go_simp;first|done|with_reducible rfl));simp only [Act.put,sta_,scz_,scs_]);(refine take_op (i:=5) (v:=?_) rfl (by kernel_rfl) (by kernel_rfl) (by kernel_rfl) (fun _ _ _ h=>h) (by rfl) ?_ hHeld ?_;rotate_left;(· (intro wS hSw;(try dsimp only at hSw);go_simp;first|done|with_reducible rfl));simp only [Act.put,sta_,scz_,scs_]);(refine take_op (i:=6) (v:=?_) rfl (by kernel_rfl) (by kernel_rfl) (by kernel_rfl) (fun _ _ _ h=>h) (by rfl) ?_ hHeld ?_;rotate_left;(· (intro wS hSw;(try dsimp only at hSw);go_simp;first|done|with_reducible rfl));simp only [Act.put,sta_,scz_,scs_])
 (refine call_op (i:=3) rfl (by kernel_rfl) (by rfl) (fun K hK=>?_);go_simp;(go_at_call 53;(with_reducible refine (hna _).mono ?_);rintro e w1 ⟨rfl,hb1⟩;have R1:=R0.keep hb1;have z1:=hb1.size;(try simp at z1));refine hK.out _ _ (hHeld.keep hb1) (fun hHeld2=>?_);clear hK K hHeld;have hHeld:=hHeld2;clear hHeld2;(try simp only [Act.put,sta_,scz_,scs_]))
 (refine call_op (i:=7) rfl (by kernel_rfl) (by rfl) (fun K hK=>?_);go_simp;(go_at_call 53;(with_reducible refine (hnb _).mono ?_);rintro e w2 ⟨rfl,hb2⟩;have R2:=R1.keep hb2;have z2:=hb2.size);refine hK.out _ _ (hHeld.keep hb2) (fun hHeld2=>?_);clear hK K hHeld;have hHeld:=hHeld2;clear hHeld2;(try simp only [Act.put,sta_,scz_,scs_]))
 (refine call_op (i:=8) rfl (by kernel_rfl) (by rfl) (fun K hK=>?_);go_simp;skip;refine hK.out _ _ (hHeld.keep (below_one _)) (fun hHeld2=>?_);clear hK K hHeld;have hHeld:=hHeld2;clear hHeld2;(try simp only [Act.put,sta_,scz_,scs_]))
 (refine call_op (i:=9) rfl (by kernel_rfl) (by rfl) (fun K hK=>?_);go_simp;(go_at_call 55;(with_reducible refine (Hli.out w2 (by omega)).mono ?_);rintro e w3 ⟨A3,c3,rfl,hin,hb3⟩;have Hin:=Lib.hid hin;clear hin;have R3:=(R2.alloc _).keep hb3;have z3:=hb3.size;(try simp at z3);have R3c:=R3.cell;have R3f:=R3.frozen);refine hK.out _ _ ((hHeld.keep hb3)) (fun hHeld2=>?_);clear hK K hHeld;have hHeld:=hHeld2;clear hHeld2;(try simp only [Act.put,sta_,scz_,scs_]))
 have hbw:Below w.heap.size w w3:=blw
 (refine call_op (i:=10) rfl (by kernel_rfl) (by rfl) (fun K hK=>?_);go_simp;skip;refine hK.out _ _ (hHeld.below (B:=w.heap.size+1) (blw) (by simp) (by simp)) (fun hHeld2=>?_);clear hK K hHeld;have hHeld:=hHeld2;clear hHeld2;(try simp only [Act.put,sta_,scz_,scs_]))
 (refine wpAnyH_done (by kernel_rfl) ?_ _)
 go_wp2_with fail
 refine bodyPost_ret (v:=listV A3 2 c3) (by simp [results,Tryd.results56,go_sem, *] <;> rfl) rfl ?_
 exact ⟨A3,c3,rfl,(hin_set4 Hin.out (by simp) _ _ _ _).mono fun b hb=>by omega,blw⟩
end Go.Proofs.YtlolnakeancenaaDoor
namespace Go.Proofs.YtlolnakeancenaaDoor
open Go.RowKit
set_option linter.unusedVariables false
set_option linter.unusedSimpArgs false
set_option maxRecDepth 20000
attribute [local go_sem ↓] Go.wp_at_zero Go.wp_at_succ
attribute [local go_sem] World.cell?_alloc_some frozen_alloc_some
theorem wp_grow {P:Program} (w:World) {o:Oper} {a:Act} {K:Act→World→Prop} {Q:Exit→Act→World→Prop} (s x:Operand) (t:TypeId)
  (ho:o.op= .call { callee:=.builtin .append,args:=#[s,x],argTypes:=#[t,t] })
  (e:TypeId) (i:TypeInfo) (z:Value) (size bytes:Nat) (ht:P.underlying t=some (.slice e)) (hi:P.info? e=some i) (hz:i.zero=some z) (hsize:i.size=size) (hby:i.bytes=bytes) (hzs:z.cells.size=size) (hsz:0<size)
  (b:Addr) (n cap:Nat) (olds:List Value) (hs:a.eval s= .slice (some b) n cap) (hlo:olds.length=n*size) (holds:∀j u,olds[j]? =some u→w.cell? (b.add j)=some u)
  (ad:Addr) (m c:Nat) (news:List Value) (hx:a.eval x= .slice (some ad) m c) (hn:news.length=m*size) (hc:∀j u,news[j]? =some u→w.cell? (ad.add j)=some u)
  (hfull:cap<n+m) (b1:n+m≤maxLen) (b2:(n+m)*bytes≤140737488355328)
  (h:∀v' w',w'.ownsRow w.heap.size e size v' (n+m) (olds++news)→w.grownBy w' none→K (a.put o.dst v') w'):o.wp P a w K Q:=by
 obtain ⟨v',w',hr,h2,h3⟩:=run_append_arg_grows (P:=P) w t o.type e i z size bytes ht hi hz hsize hby hzs hsz b n cap olds hlo holds ad m c news hn hc hfull b1 b2
 unfold Oper.wp execOp
 simp only [ho,resolve,invoke,builtin,Sem.run_bind,Sem.run_pure,Result.andThen_ok,List.map_toArray,List.map_cons,List.map_nil,hs,hx,hr]
 exact h v' w' h2 h3
theorem below_gr0 {w w':World} (hg:w.grownBy w' none):Below w.heap.size w w':=⟨hg.os,hg.tape,hg.output,hg.size,fun k hk=>hg.block k hk (by simp)⟩
theorem flat4_snoc (vs:Nat→Value) (k:Nat):flat4 vs (k+1)=flat4 vs k++(vs k).cells.toList:=rfl
theorem Holds.hin {w:World} {t:Tree} {v:Value} (h:Holds w t v):HoldsIn w (fun b=>b<w.heap.size) t v:=by
 induction h with
 |mk k n s l A m c vs hk hn hs hm hmc hc hcell hsub ih=>
  refine .mk k n s l A m c vs hk hn hs hm hmc hc (fun i hi=>?_) ih
  obtain ⟨ad,e,h⟩:=hcell i hi
  obtain ⟨ad0,e0,h0⟩:=hcell 0 (by omega)
  have h40:=(hsub 0 l[0] (List.getElem?_eq_getElem (by omega))).four.1
  have h4:=(hsub i l[i] (List.getElem?_eq_getElem (by omega))).four.1
  replace h0:=h0 0 _ (Array.getElem?_eq_getElem (by omega))
  have h5:=h 0 _ (Array.getElem?_eq_getElem (by omega))
  rw [e] at e0
  injection e0 with e0
  subst e0
  obtain ⟨b,o,sp⟩:=ad
  have hs:sp=none:=by simpa [Addr.add] using World.cell?_spot h0
  subst hs
  simp only [Addr.add_lit] at h h5
  exact ⟨b,o,e,World.block_lt_of_cell? _ _ h5,h⟩
theorem src_row {w:World} {base g n c:Nat} {xs:List Value} (own:w.ownsRow base 25 4 (.slice (some ⟨g,0,none⟩) n c) n xs) (h1:∀u∈xs,u.oneCell'=true):Src w 4 (some ⟨g,0,none⟩) n xs:=
 ⟨own.1,fun j u hj=>⟨_,rfl,own.cells (g:=g) rfl j u hj⟩,h1⟩
theorem hin_row {w:World} {base n c:Nat} {A:Option Addr} {l:List Tree} {vs:Nat→Value} {S:Nat→Prop} (hl:l.length=n) (own:w.ownsRow base 25 4 (.slice A n c) n (flat4 vs n)) (hS:∀b,base≤b→S b)
  (sub:∀(i:Nat) (t:Tree),l[i]? =some t→HoldsIn w S t (vs i)):HoldsIn w S (ltree l) (listV A n c):=by
 have hsz:n≤c∧c≤maxLen:=by
  rcases own.2 with ⟨e,hn⟩|⟨g2,cap,cur,e,_,_,hle,hm,_⟩
  ·injection e with e1 e2 e3
   subst e2 e3
   exact ⟨Nat.le_refl _,Nat.zero_le _⟩
  ·injection e with e1 e2 e3
   subst e3
   exact ⟨hle,hm⟩
 have h4:∀i,i<n→(vs i).cells.size=4:=fun i hi=>(sub i l[i] (List.getElem?_eq_getElem (by omega))).four.1
 refine .mk 2 0 _ l A n c vs (by decide) (by decide) (by decide) hl.symm hsz.1 hsz.2 (fun i hi=>?_) sub
 rcases own.2 with ⟨hv,hn⟩|⟨g,cap,cur,hv,hb,_⟩
 ·omega
 ·injection hv with hv _ _
  subst hv
  refine ⟨g,0,rfl,hS g hb,fun j u hu=>?_⟩
  have hj:j<4:=by
   rw [←h4 i hi]
   exact (Array.getElem?_eq_some_iff.1 hu).1
  have:=own.cells (g:=g) rfl (4*i+j) u (by rw [flat4_get h4 hi hj];exact hu)
  rw [←this]
  congr 1
  unfold Addr.add;split <;> simp_all
theorem flat4_congr {vs us:Nat→Value}:∀(k:Nat),(∀i,i<k→vs i=us i)→flat4 vs k=flat4 us k
 |0,_=>rfl
 |k+1,h=>by rw [flat4_snoc,flat4_snoc,flat4_congr k (fun i hi=>h i (by omega)),h k (by omega)]
theorem flat4_last (vs:Nat→Value) (k:Nat) (y:Value):flat4 (fun i=>if i<k then vs i else y) (k+1)=flat4 vs k++y.cells.toList:=by
 rw [flat4_snoc,flat4_congr k (us:=vs) (fun i hi=>if_pos hi)]
 simp
theorem last_get {l:List Tree} {k:Nat} {u t:Tree} {i:Nat} (hl:l.length=k+1) (h:(l.dropLast++ [u])[i]? =some t):(i<k∧l[i]? =some t)∨(i=k∧t=u):=by
 by_cases hik:i<k
 ·rw [List.getElem?_append_left (by simp [hl];omega),List.getElem?_dropLast,if_pos (by omega)] at h
  exact .inl ⟨hik,h⟩
 ·have hi:i<k+1:=by
   rcases Nat.lt_or_ge i (k+1) with h2|h2
   ·exact h2
   ·rw [List.getElem?_eq_none (by simp [hl];omega)] at h;cases h
  have hik2:i=k:=by omega
  subst hik2
  rw [List.getElem?_append_right (by simp [hl])] at h
  simp [hl] at h
  exact .inr ⟨rfl,h.symm⟩
theorem HoldsIn.src {w:World} {S:Nat→Prop} {k:Int} {n:Nat} {s:ByteArray} {l:List Tree} {kk nn:Int} {ss:ByteArray} {A:Option Addr} {m c:Nat} (h:HoldsIn w S (.mk k n s l) (.agg #[.int .i64 kk,.int .u64 nn,.string ss,.slice A m c])):
  ∃vs:Nat→Value,Src w 4 A m (flat4 vs m)∧∀(i:Nat) (t:Tree),l[i]? =some t→HoldsIn w S t (vs i):=by
 cases h with
 |mk k n s l A m c vs hk hn hs hm hmc hc hcell hsub=>
  have h4:∀i,i<m→(vs i).cells.size=4∧∀u∈(vs i).cells.toList,u.oneCell'=true:=fun i hi=>(hsub i l[i] (List.getElem?_eq_getElem (by omega))).four
  refine ⟨vs,⟨flat4_length fun i hi=>(h4 i hi).1,fun q u hq=>?_,flat4_one fun i hi=>(h4 i hi).2⟩,hsub⟩
  have hlen:=flat4_length fun i hi=>(h4 i hi).1
  have hql:q<m*4:=by
   rw [←hlen]
   rcases Nat.lt_or_ge q (flat4 vs m).length with h|h
   ·exact h
   ·rw [List.getElem?_eq_none h] at hq;cases hq
  have hq2:q=4*(q / 4)+q % 4:=by omega
  have hi:q / 4<m:=by omega
  obtain ⟨b,o,e,_,hcl⟩:=hcell (q / 4) hi
  refine ⟨_,e,?_⟩
  rw [hq2] at hq ⊢
  rw [flat4_get (fun i hi=>(h4 i hi).1) hi (by omega)] at hq
  rw [Addr.add_lit]
  exact hcl _ _ hq
theorem bools6 {fuel:Nat} {W:World} {cs:List Value} {b0 b1 b2 b3 b4 b5:Bool} {sp:Nat→Bool} {held:Bool} {q:List MemPlace}
  (h:DataW.trod (fun _=>()) Tryd.prog W 0 sp held fuel 99 cs=some (.agg [.lit (.bool b0),.lit (.bool b1),.lit (.bool b2),.lit (.bool b3),.lit (.bool b4),.lit (.bool b5)],q)):
  cs=[.bool b0,.bool b1,.bool b2,.bool b3,.bool b4,.bool b5]:=by
 obtain ⟨xs,n,hn,hx,hl,hlen,hf⟩:=DataW.trod_struct Tryd.underlying99 h
 have hb:Tryd.prog.cellsOf 4=1:=by kernel_rfl
 have hC:Tryd.prog.cellsOf 99=6:=by kernel_rfl
 rw [hC] at hl
 match xs,hlen with
 | [y0,y1,y2,y3,y4,y5],_=>
  match cs,hl with
  | [c0,c1,c2,c3,c4,c5],_=>
   have g0:=hf 0 _ rfl
   have g1:=hf 1 _ rfl
   have g2:=hf 2 _ rfl
   have g3:=hf 3 _ rfl
   have g4:=hf 4 _ rfl
   have g5:=hf 5 _ rfl
   simp only [List.getElem_toArray,List.getElem_cons_zero,List.getElem_cons_succ,hb] at g0 g1 g2 g3 g4 g5
   obtain ⟨a0,e0,z0⟩:=DataW.trod_bool Tryd.underlying4 (x:=y0) (by simpa using g0)
   obtain ⟨a1,e1,z1⟩:=DataW.trod_bool Tryd.underlying4 (x:=y1) (by simpa using g1)
   obtain ⟨a2,e2,z2⟩:=DataW.trod_bool Tryd.underlying4 (x:=y2) (by simpa using g2)
   obtain ⟨a3,e3,z3⟩:=DataW.trod_bool Tryd.underlying4 (x:=y3) (by simpa using g3)
   obtain ⟨a4,e4,z4⟩:=DataW.trod_bool Tryd.underlying4 (x:=y4) (by simpa using g4)
   obtain ⟨a5,e5,z5⟩:=DataW.trod_bool Tryd.underlying4 (x:=y5) (by simpa using g5)
   simp at e0 e1 e2 e3 e4 e5
   subst e0 e1 e2 e3 e4 e5 z0 z1 z2 z3 z4 z5
   have hx1:=congrArg Prod.fst hx
   simp at hx1
   obtain ⟨rfl,rfl,rfl,rfl,rfl,rfl⟩:=hx1
   rfl
theorem kinds_reads {W:World} (h:Lib.VarReads Tryd.prog W "stonecrop/msg.kinds" Rows.laid_stonecrop_msg_kinds):KindsAt W:=by
 obtain ⟨g,t,cs,fuel,p,hg,hty,hvar,hd⟩:=h
 obtain rfl:=Option.some.inj ((show Tryd.prog.globalNamed "stonecrop/msg.kinds"=some 0 by kernel_rfl).symm.trans hg)
 obtain rfl:=Option.some.inj ((show (Tryd.prog.globals[0]?).map (·.type)=some 107 by kernel_rfl).symm.trans hty)
 have hC:Tryd.prog.cellsOf 99=6:=by kernel_rfl
 intro k j b hk hj
 obtain ⟨fuel',d,q,hdi,he⟩:=Lib.array_elem Tryd.underlying107 hd k hk
 rw [hC] at he
 rw [World.var?_cell hg hvar (k*6+j),←Array.getElem?_toList]
 have fin:∀{b0 b1 b2 b3 b4 b5:Bool},(cs.toList.drop (k*6)).take 6=[.bool b0,.bool b1,.bool b2,.bool b3,.bool b4,.bool b5]→#[Value.bool b0,.bool b1,.bool b2,.bool b3,.bool b4,.bool b5][j]? =some b→cs.toList[k*6+j]? =some b:=fun e h=>by
  have hj6:j<6:=by
   rcases Nat.lt_or_ge j 6 with h1|h1
   ·exact h1
   ·rw [Array.getElem?_eq_none (by simpa using h1)] at h;cases h
  have e1:=congrArg (·[j]?) e
  simp only [List.getElem?_take,List.getElem?_drop,if_pos hj6] at e1
  rw [e1]
  simpa using h
 have hk':k=0∨k=1∨k=2∨k=3∨k=4∨k=5∨k=6∨k=7∨k=8∨k=9:=by omega
 rcases hk' with rfl|rfl|rfl|rfl|rfl|rfl|rfl|rfl|rfl|rfl
 all_goals
  obtain rfl:=Option.some.inj hdi
  exact fin (bools6 he) hj
/-- The row's variables: the decoder's tables and the kinds. -/
theorem mlaid {W:World} (hL:laidMet Tryd.prog [("unicode/utf8.acceptRanges",Rows.laid_unicode_utf8_acceptRanges),("stonecrop/msg.kinds",Rows.laid_stonecrop_msg_kinds),("unicode/utf8.first",Rows.laid_unicode_utf8_first)] W):Tabs W∧KindsAt W:=by
 refine ⟨?_,kinds_reads (Lib.laidMet.reads hL (.tail _ (.head _)))⟩
 have h1:Lib.VarReads Tryd.prog W "unicode/utf8.first" Lib.firstData:=by
  rw [←Pinned.utf8First_eq]
  exact Lib.laidMet.reads hL (.tail _ (.tail _ (.head _)))
 have e2:(Rows.laid_unicode_utf8_acceptRanges:DataW Unit)=Lib.acceptData:=by kernel_rfl
 have h2:Lib.VarReads Tryd.prog W "unicode/utf8.acceptRanges" Lib.acceptData:=by
  rw [←e2]
  exact Lib.laidMet.reads hL (.head _)
 exact utf8Tabs_of_reads Tryd.lays260 ⟨by kernel_rfl,by kernel_rfl,by kernel_rfl,by kernel_rfl,by kernel_rfl,by kernel_rfl,by kernel_rfl⟩ h1 h2
open Go.ChangeShapes Go.WideShapes Go.ChangeAt Go.Deep Go.Joins
section
variable {H:Type} {enc:TypeId × Value→H} {w:World} {base:Nat} {spare:Nat→Bool} {held:Bool}
theorem open_two {t:TypeId} {f0 f1:Field} {fuel:Nat} {a b:Value} {x:DataW H × List MemPlace} (ht:Tryd.prog.underlying t=some (.struct #[f0,f1])) (e0:f0.type=3) (e1:f1.type=3) (o0:f0.offset=0) (o1:f1.offset=1)
  (h:DataW.trod enc Tryd.prog w base spare held fuel t [a,b]=some x):∃i j:Int,a= .int .i64 i∧b= .int .i64 j∧(Lit.int .i64 i).wf=true∧(Lit.int .i64 j).wf=true:=by
 obtain ⟨xs,n,_,_,hl,hlen,hf⟩:=DataW.trod_struct ht h
 have hi:Tryd.prog.cellsOf 3=1:=by kernel_rfl
 match xs,hlen with
 | [y0,y1],_=>
  have g0:=hf 0 f0 rfl
  have g1:=hf 1 f1 rfl
  rw [e0,o0,hi] at g0
  rw [e1,o1,hi] at g1
  obtain ⟨i,h0,_,w0⟩:=DataW.trod_int Tryd.underlying3 (x:=y0) (by simpa using g0)
  obtain ⟨j,h1,_,w1⟩:=DataW.trod_int Tryd.underlying3 (x:=y1) (by simpa using g1)
  simp at h0 h1
  exact ⟨i,j,h0,h1,w0,w1⟩
theorem open_cmd_cells {fuel:Nat} {a b c d e f:Value} {x:DataW H × List MemPlace} (h:DataW.trod enc Tryd.prog w base spare held fuel 45 [a,b,c,d,e,f]=some x):
  ∃(k cl sq:Int) (ke va:ByteArray) (rv:Int),a= .int .i64 k∧b= .int .i64 cl∧c= .int .i64 sq∧d= .string ke∧e= .string va∧f= .int .i64 rv∧
   (Lit.int .i64 k).wf=true∧(Lit.int .i64 cl).wf=true∧(Lit.int .i64 sq).wf=true∧ke.size≤maxLen∧va.size≤maxLen∧(Lit.int .i64 rv).wf=true:=by
 obtain ⟨xs,n,_,_,hl,hlen,hf⟩:=DataW.trod_struct Tryd.underlying45 h
 have hi:Tryd.prog.cellsOf 3=1:=by kernel_rfl
 have hs:Tryd.prog.cellsOf 9=1:=by kernel_rfl
 match xs,hlen with
 | [y0,y1,y2,y3,y4,y5],_=>
  have g0:=hf 0 _ rfl
  have g1:=hf 1 _ rfl
  have g2:=hf 2 _ rfl
  have g3:=hf 3 _ rfl
  have g4:=hf 4 _ rfl
  have g5:=hf 5 _ rfl
  simp only [List.getElem_toArray,List.getElem_cons_zero,List.getElem_cons_succ,hi,hs] at g0 g1 g2 g3 g4 g5
  obtain ⟨a0,e0,_,w0⟩:=DataW.trod_int Tryd.underlying3 (x:=y0) (by simpa using g0)
  obtain ⟨a1,e1,_,w1⟩:=DataW.trod_int Tryd.underlying3 (x:=y1) (by simpa using g1)
  obtain ⟨a2,e2,_,w2⟩:=DataW.trod_int Tryd.underlying3 (x:=y2) (by simpa using g2)
  obtain ⟨a3,e3,_,w3⟩:=DataW.trod_string Tryd.underlying9 (x:=y3) (by simpa using g3)
  obtain ⟨a4,e4,_,w4⟩:=DataW.trod_string Tryd.underlying9 (x:=y4) (by simpa using g4)
  obtain ⟨a5,e5,_,w5⟩:=DataW.trod_int Tryd.underlying3 (x:=y5) (by simpa using g5)
  simp at e0 e1 e2 e3 e4 e5
  exact ⟨a0,a1,a2,a3,a4,a5,e0,e1,e2,e3,e4,e5,w0,w1,w2,w3,w4,w5⟩
end
end Go.Proofs.YtlolnakeancenaaDoor
namespace Go.Proofs.YtlolnakeancenaaDoor
open Go.RowKit
set_option linter.unusedVariables false
set_option linter.unusedSimpArgs false
set_option maxRecDepth 20000
attribute [local go_sem ↓] Go.wp_at_zero Go.wp_at_succ
attribute [local go_sem] World.cell?_alloc_some frozen_alloc_some
open Go.ChangeShapes Go.WideShapes Go.ChangeAt Go.Deep Go.Joins
section
variable {H:Type} {enc:TypeId × Value→H} {w:World} {base:Nat} {spare:Nat→Bool} {held:Bool}
theorem list18 {α:Type} {cs:List α} (h:cs.length=18):∃c0 c1 c2 c3 c4 c5 c6 c7 c8 c9 c10 c11 c12 c13 c14 c15 c16 c17,cs=[c0,c1,c2,c3,c4,c5,c6,c7,c8,c9,c10,c11,c12,c13,c14,c15,c16,c17]:=by
 match cs,h with
 | [c0,c1,c2,c3,c4,c5,c6,c7,c8,c9,c10,c11,c12,c13,c14,c15,c16,c17],_=>exact ⟨c0,c1,c2,c3,c4,c5,c6,c7,c8,c9,c10,c11,c12,c13,c14,c15,c16,c17,rfl⟩
theorem open_msg {r:Reach} {b0:Nat} {v:Value} {d:DataW H} {p:List MemPlace} (hv:Value.okWide Tryd.prog w r b0 50 v) (h:DataW.Trod enc Tryd.prog w base spare held 50 v d p):
  ∃R:MsgT,v=R.v∧R.Ok w:=by
 obtain ⟨cs,rfl,hsz⟩:=okWide_struct Tryd.underlying50 hv
 obtain ⟨fuel,hf⟩:=h
 have hC:Tryd.prog.cellsOf 50=18:=by kernel_rfl
 obtain ⟨cs⟩:=cs
 obtain ⟨c0,c1,c2,c3,c4,c5,c6,c7,c8,c9,c10,c11,c12,c13,c14,c15,c16,c17,rfl⟩:=list18 (cs:=cs) (by simpa [hC] using hsz)
 simp only [Value.cells] at hf
 obtain ⟨xs,n,_,_,hl,hlen,hf⟩:=DataW.trod_struct Tryd.underlying50 hf
 have hi:Tryd.prog.cellsOf 3=1:=by kernel_rfl
 have h1:Tryd.prog.cellsOf 41=2:=by kernel_rfl
 have h2:Tryd.prog.cellsOf 43=2:=by kernel_rfl
 have h3:Tryd.prog.cellsOf 45=6:=by kernel_rfl
 have h4:Tryd.prog.cellsOf 48=3:=by kernel_rfl
 match xs,hlen with
 | [y0,y1,y2,y3,y4,y5,y6,y7],_=>
  have g0:=hf 0 _ rfl
  have g1:=hf 1 _ rfl
  have g2:=hf 2 _ rfl
  have g3:=hf 3 _ rfl
  have g4:=hf 4 _ rfl
  have g5:=hf 5 _ rfl
  have g6:=hf 6 _ rfl
  have g7:=hf 7 _ rfl
  simp only [List.getElem_toArray,List.getElem_cons_zero,List.getElem_cons_succ,hi,h1,h2,h3,h4] at g0 g1 g2 g3 g4 g5 g6 g7
  obtain ⟨mk,ek,_,wmk⟩:=DataW.trod_int Tryd.underlying3 (x:=y0) (by simpa using g0)
  obtain ⟨i,n',rfl,rfl,wi,wn⟩:=open_two Tryd.underlying41 rfl rfl rfl rfl (x:=y1) (by simpa using g1)
  obtain ⟨br,bb,rfl,rfl,wbr,wbb⟩:=open_two Tryd.underlying43 rfl rfl rfl rfl (x:=y2) (by simpa using g2)
  obtain ⟨tr,tb,rfl,rfl,wtr,wtb⟩:=open_two Tryd.underlying43 rfl rfl rfl rfl (x:=y3) (by simpa using g3)
  obtain ⟨st,es,_,ws⟩:=DataW.trod_int Tryd.underlying3 (x:=y4) (by simpa using g4)
  obtain ⟨k,c,q,ke,va,rv,rfl,rfl,rfl,rfl,rfl,rfl,wk,wc,wq,wke,wva,wrv⟩:=open_cmd_cells (x:=y5) (by simpa using g5)
  obtain ⟨A,m,cap,sq,tg,l,ea,hm,hcap,hI,wsq,wtg⟩:=open_attr_cells (x:=y6) (by simpa using g6)
  obtain ⟨ver,ev,_,wver⟩:=DataW.trod_int Tryd.underlying3 (x:=y7) (by simpa using g7)
  simp at es ea ek ev
  obtain ⟨rfl,rfl,rfl⟩:=ea
  subst es ek ev
  exact ⟨⟨mk,i,n',br,bb,tr,tb,st,k,c,q,ke,va,rv,A,m,cap,sq,tg,ver,l⟩,rfl,⟨wmk,wi,wn,wbr,wbb,wtr,wtb,ws,wk,wc,wq,wke,wva,wrv,hm,hm,hI,wsq,wtg,wver⟩⟩
end
end Go.Proofs.YtlolnakeancenaaDoor
