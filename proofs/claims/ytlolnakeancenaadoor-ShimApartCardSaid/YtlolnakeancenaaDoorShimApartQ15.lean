/- The walk of the reader's method item. -/
import Derived.Test.YtlolnakeancenaaDoorShimApartQ11
namespace Go.Proofs.YtlolnakeancenaaDoor
open Go.RowKit
set_option linter.unusedVariables false
set_option linter.unusedSimpArgs false
set_option maxRecDepth 20000
attribute [local go_sem ↓] Go.wp_at_zero Go.wp_at_succ
attribute [local go_sem] World.cell?_alloc_some frozen_alloc_some
attribute [local go_sem] lt2 lt3 lt4 lt5
attribute [local simp] lt2 lt3 lt4 lt5
/-- What item gives: the tree at the place as a value of type any, in blocks of its own, and the reader has moved on; or it panics. -/
def ItemRead (w:World) (g:Nat) (A:Option Addr) (n cap:Nat) (x:Got) (r:Ending) (w':World):Prop:=
 match x with
 | .error (e,p)=>r= .panicked (goes e p)∧w.grownBy w' (some g)
 | .ok (t,_,a1)=>∃u,r= .returned u∧Tall w' (fun b=>w.heap.size≤b) t u∧Moved w g A n cap w' a1
theorem Moved.drew {w w1:World} {g:Nat} {A:Option Addr} {n cap:Nat} {a1:Nat} (h:Moved w g A n cap w1 a1):Moved w g A n cap w1.drew a1:=⟨⟨h.grown.os,h.grown.tape,h.grown.output,h.grown.size,h.grown.block⟩,h.blk,h.le⟩
theorem Moved.append {w w1 w2:World} {g:Nat} {A:Option Addr} {n cap a1:Nat} (h:Moved w g A n cap w1 a1) (hgl:g<w.heap.size) {base:Nat} {e:TypeId} {size:Nat} {v:Value} {m:Nat} {xs:List Value}
  (hown:w1.ownsRow base e size v m xs) (hbase:w.heap.size≤base) (hg:w1.grownBy w2 v.ownBlock):Moved w g A n cap w2 a1:=by
 have hne:∀k,k<w.heap.size→some k≠v.ownBlock:=fun k hk e=>by have:=(hown.lt k e.symm).1;omega
 have h1:=h.grown.size
 exact ⟨⟨hg.os.trans h.grown.os,hg.tape.trans h.grown.tape,hg.output.trans h.grown.output,Nat.le_trans h1 hg.size,fun k hk hkg=>(hg.block k (by omega) (hne k hk)).trans (h.grown.block k hk hkg)⟩,
  (hg.block g (by omega) (hne g hgl)).trans h.blk,h.le⟩
theorem Row.grown {w w':World} {base g:Nat} {v:Value} {l:List Tree} {us:List Value} (h:Row w base v l us) (hg:w.grownBy w' (some g)) (hlt:g<base):Row w' base v l us:=
 ⟨h.own.kept hg (by
  cases hv:v.ownBlock with
  |none=>exact .inl rfl
  |some k=>right;intro e;injection e with e;have:=(h.own.lt k hv).1;omega),h.le,fun i t u ht hu=>(h.sub i t u ht hu).grown hg fun b hb e=>by injection e with e;omega⟩
theorem Row.more {w:World} {base:Nat} {v:Value} {l:List Tree} {us:List Value} (h:Row w base v l us) (hl:us.length=l.length) (t:Tree):Row w base v (l++ [t]) us:=
 ⟨h.own,by have:=h.le;simp;omega,fun i t' u ht hu=>by
  have hi:i<us.length:=by
   rcases Nat.lt_or_ge i us.length with h|h
   ·exact h
   ·rw [List.getElem?_eq_none h] at hu;cases hu
  rw [List.getElem?_append_left (by omega)] at ht
  exact h.sub i t' u ht hu⟩
/-- What is read, behind what was read. -/
def gapp (pre:List Tree):Gots→Gots
 | .error e=>.error e
 | .ok (l,r,a)=>.ok (pre++l,r,a)
theorem gapp_step {g:List Nat→Nat→Got} {pre:List Tree} {n a a1:Nat} {r r1:List Nat} {t:Tree} (h:g r a= .ok (t,r1,a1)):gapp pre (gmany g (n+1) r a)=gapp (pre++ [t]) (gmany g n r1 a1):=by
 rw [gmany_succ_ok h]
 cases gmany g n r1 a1 with
 |error e=>rfl
 |ok x=>obtain ⟨l,r2,a2⟩:=x;simp [gapp]
set_option maxHeartbeats 4000000 in
theorem item_end (g:Nat) (A:Option Addr) (n cap:Nat) (L:List Nat) (d:Int) (w:World) (h:RD w g A n cap L n):
  Calls Tryd.prog 50 #[.pointer (some ⟨g,0,none⟩),.int .i64 d] w (ItemRead w g A n cap (.error (2,n))):=by
 have c0:w.cell? ⟨g,0,none⟩=some (.slice A n cap):=by rw [h.blk.cell];rfl
 have c1:w.cell? ⟨g,1,none⟩=some (.int .i64 (n:Int)):=by rw [h.blk.cell];rfl
 clear h
 go_enter Tryd.func50,Tryd.ntmps50
 go_wp2_with fail
 go_region_held3 (fun w'=>Below w.heap.size w w'∧w'.cell? ⟨g,0,none⟩=some (.slice A n cap)∧w'.cell? ⟨g,1,none⟩=some (.int .i64 (n:Int))) ((go_split_ands;(repeat' apply And.intro) <;> (try simp only [World.cell?_drew,World.frozen?_drew]) <;> (first|with_reducible assumption|(exact cell_keep (by with_reducible assumption) (by with_reducible assumption))|(exact frozen_keep (by with_reducible assumption) (by with_reducible assumption) (by with_reducible assumption))|exact blw))) (fail)
 all_goals
  go_split_ands
  go_wp2_with fail
  exact ⟨rfl,rfl,grown_of_below (by assumption) _⟩
set_option maxHeartbeats 4000000 in
theorem item_deep (g:Nat) (A:Option Addr) (n cap:Nat) (L:List Nat) (a:Nat) (w:World) (h:RD w g A n cap L a) (ha:a<n):
  Calls Tryd.prog 50 #[.pointer (some ⟨g,0,none⟩),.int .i64 16] w (ItemRead w g A n cap (.error (12,a))):=by
 have c0:w.cell? ⟨g,0,none⟩=some (.slice A n cap):=by rw [h.blk.cell];rfl
 have c1:w.cell? ⟨g,1,none⟩=some (.int .i64 (a:Int)):=by rw [h.blk.cell];rfl
 obtain ⟨ad,k,rfl,hk,hk2,hkc⟩:=h.bytes.at_ ha
 have hne:((a:Int)==(n:Int))=false:=by simp;omega
 have j0:(0:Int)≤(a:Int):=by omega
 have j1:(a:Int)<(n:Int):=by omega
 clear h hk
 go_enter Tryd.func50,Tryd.ntmps50
 go_wp2_with fail
 go_region_held3 (fun w'=>Below w.heap.size w w'∧w'.cell? ⟨g,0,none⟩=some (.slice (some ad) n cap)∧w'.cell? ⟨g,1,none⟩=some (.int .i64 (a:Int))∧w'.cell? (ad.add a)=some (.int .u8 (k:Int))) ((go_split_ands;(repeat' apply And.intro) <;> (try simp only [World.cell?_drew,World.frozen?_drew]) <;> (first|with_reducible assumption|(exact cell_keep (by with_reducible assumption) (by with_reducible assumption))|(exact frozen_keep (by with_reducible assumption) (by with_reducible assumption) (by with_reducible assumption))|exact blw))) (fail)
 all_goals
  go_split_ands
  go_wp2_with fail
  go_region_held3 (fun w'=>Below w.heap.size w w'∧w'.cell? ⟨g,0,none⟩=some (.slice (some ad) n cap)∧w'.cell? ⟨g,1,none⟩=some (.int .i64 (a:Int))∧w'.cell? (ad.add a)=some (.int .u8 (k:Int))) ((go_split_ands;(repeat' apply And.intro) <;> (try simp only [World.cell?_drew,World.frozen?_drew]) <;> (first|with_reducible assumption|(exact cell_keep (by with_reducible assumption) (by with_reducible assumption))|(exact frozen_keep (by with_reducible assumption) (by with_reducible assumption) (by with_reducible assumption))|exact blw))) (fail)
  all_goals
   go_split_ands
   go_wp2_with fail
   exact ⟨rfl,rfl,grown_of_below (by assumption) _⟩
set_option maxHeartbeats 4000000 in
theorem item_kind (g:Nat) (A:Option Addr) (n cap:Nat) (L:List Nat) (a d k:Nat) (w:World) (h:RD w g A n cap L a) (ha:a<n) (hd:d<16) (hk:L[a]? =some k) (hk3:2<k):
  Calls Tryd.prog 50 #[.pointer (some ⟨g,0,none⟩),.int .i64 (d:Int)] w (ItemRead w g A n cap (.error (4,a))):=by
 have c0:w.cell? ⟨g,0,none⟩=some (.slice A n cap):=by rw [h.blk.cell];rfl
 have c1:w.cell? ⟨g,1,none⟩=some (.int .i64 (a:Int)):=by rw [h.blk.cell];rfl
 obtain ⟨ad,k',rfl,hk',hk2,hkc⟩:=h.bytes.at_ ha
 obtain rfl:k=k':=by rw [hk] at hk';injection hk'
 have hne:((a:Int)==(n:Int))=false:=by simp;omega
 have hd16:((d:Int)==16)=false:=by simp;omega
 have j0:(0:Int)≤(a:Int):=by omega
 have j1:(a:Int)<(n:Int):=by omega
 have hk4:(2:Int)<(k:Int):=by omega
 have hw1:IntKind.i64.wrap (k:Int)=(k:Int):=IntWalk.i64_in _ (by omega)
 have hw2:wrap64 (k:Int)=(k:Int):=by simp only [wrap64];omega
 clear h hk hk'
 go_enter Tryd.func50,Tryd.ntmps50
 go_wp2_with fail
 go_region_held3 (fun w'=>Below w.heap.size w w'∧w'.cell? ⟨g,0,none⟩=some (.slice (some ad) n cap)∧w'.cell? ⟨g,1,none⟩=some (.int .i64 (a:Int))∧w'.cell? (ad.add a)=some (.int .u8 (k:Int))) ((go_split_ands;(repeat' apply And.intro) <;> (try simp only [World.cell?_drew,World.frozen?_drew]) <;> (first|with_reducible assumption|(exact cell_keep (by with_reducible assumption) (by with_reducible assumption))|(exact frozen_keep (by with_reducible assumption) (by with_reducible assumption) (by with_reducible assumption))|exact blw))) (fail)
 all_goals
  go_split_ands
  go_wp2_with fail
  go_region_held3 (fun w'=>Below w.heap.size w w'∧w'.cell? ⟨g,0,none⟩=some (.slice (some ad) n cap)∧w'.cell? ⟨g,1,none⟩=some (.int .i64 (a:Int))∧w'.cell? (ad.add a)=some (.int .u8 (k:Int))) ((go_split_ands;(repeat' apply And.intro) <;> (try simp only [World.cell?_drew,World.frozen?_drew]) <;> (first|with_reducible assumption|(exact cell_keep (by with_reducible assumption) (by with_reducible assumption))|(exact frozen_keep (by with_reducible assumption) (by with_reducible assumption) (by with_reducible assumption))|exact blw))) (fail)
  all_goals
   go_split_ands
   go_wp2_with fail
   exact ⟨rfl,rfl,grown_of_below (by assumption) _⟩
set_option maxHeartbeats 4000000 in
theorem item_num (g:Nat) (A:Option Addr) (n cap:Nat) (L:List Nat) (a d:Nat) (w:World) (h:RD w g A n cap L a) (ha:a<n) (hd:d<16) (hk:L[a]? =some 0) (x:Got)
  (hx:x=if (ntake (L.drop (a+1))).2.2≠0 then .error ((ntake (L.drop (a+1))).2.2,a+1) else .ok (.mk 0 (ntake (L.drop (a+1))).1 ByteArray.empty [],(L.drop (a+1)).drop (ntake (L.drop (a+1))).2.1,a+1+(ntake (L.drop (a+1))).2.1)):
  Calls Tryd.prog 50 #[.pointer (some ⟨g,0,none⟩),.int .i64 (d:Int)] w (ItemRead w g A n cap x):=by
 have Hrd:=Lib.hid h
 have c0:w.cell? ⟨g,0,none⟩=some (.slice A n cap):=by rw [h.blk.cell];rfl
 have c1:w.cell? ⟨g,1,none⟩=some (.int .i64 (a:Int)):=by rw [h.blk.cell];rfl
 have f1:w.frozen? ⟨g,1,none⟩=false:=h.blk.frozen 1
 have hcm:=h.max
 have hnc:=h.le
 obtain ⟨ad,k',rfl,hk',hk2,hkc⟩:=h.bytes.at_ ha
 obtain rfl:0=k':=by rw [hk] at hk';injection hk'
 have hne:((a:Int)==(n:Int))=false:=by simp;omega
 have hd16:((d:Int)==16)=false:=by simp;omega
 have j0:(0:Int)≤(a:Int):=by omega
 have j1:(a:Int)<(n:Int):=by omega
 unfold maxLen at hcm
 have Hx:=Lib.hid hx
 clear h hk hk' hx
 go_enter Tryd.func50,Tryd.ntmps50
 go_wp2_with fail
 go_region_held3 (fun w'=>Below w.heap.size w w'∧w'.cell? ⟨g,0,none⟩=some (.slice (some ad) n cap)∧w'.cell? ⟨g,1,none⟩=some (.int .i64 (a:Int))∧w'.cell? (ad.add a)=some (.int .u8 ((0:Nat):Int))) ((go_split_ands;(repeat' apply And.intro) <;> (try simp only [World.cell?_drew,World.frozen?_drew]) <;> (first|with_reducible assumption|(exact cell_keep (by with_reducible assumption) (by with_reducible assumption))|(exact frozen_keep (by with_reducible assumption) (by with_reducible assumption) (by with_reducible assumption))|exact blw))) (fail)
 all_goals
  go_split_ands
  go_wp2_with fail
  go_region_held3 (fun w'=>Below w.heap.size w w'∧w'.cell? ⟨g,0,none⟩=some (.slice (some ad) n cap)∧w'.cell? ⟨g,1,none⟩=some (.int .i64 (a:Int))∧w'.cell? (ad.add a)=some (.int .u8 ((0:Nat):Int))) ((go_split_ands;(repeat' apply And.intro) <;> (try simp only [World.cell?_drew,World.frozen?_drew]) <;> (first|with_reducible assumption|(exact cell_keep (by with_reducible assumption) (by with_reducible assumption))|(exact frozen_keep (by with_reducible assumption) (by with_reducible assumption) (by with_reducible assumption))|exact blw))) (fail)
  all_goals
   go_split_ands
   go_wp2_with fail
   have hmv:Moved w g (some ad) n cap (w.setCell ⟨g,1,none⟩ (.int .i64 ((a:Int)+1))).drew.drew (a+1):=(Hrd.out.store (a':=a+1) (Below.refl _ _) (by omega)).drew.drew
   have hlt:(ntake (L.drop (a+1))).2.2=0→(ntake (L.drop (a+1))).1<2 ^ 64:=fun he=>(ntake_back (fun c hc=>Hrd.out.bytes.lt c (List.mem_of_mem_drop hc)) he).2.2.2
   refine (number_any g (some ad) n cap L (a+1) _ (Hrd.out.moved hmv)).mono ?_
   rintro r w1 (⟨he,rfl,hm1⟩|⟨he,rfl,hgr⟩)
   ·have hxx:=Hx.out
    rw [if_neg (by simp [he])] at hxx
    subst hxx
    have Hm1:=Lib.hid hm1
    have Hlt:=Lib.hid (hlt he)
    clear hm1 hlt he
    go_wp2_with fail
    go_ret
    exact ⟨_,rfl,.num _ Hlt.out,hmv.trans Hm1.out⟩
   ·have hxx:=Hx.out
    rw [if_pos he] at hxx
    subst hxx
    exact ⟨rfl,rfl,grown_same hmv.grown hgr⟩
end Go.Proofs.YtlolnakeancenaaDoor
