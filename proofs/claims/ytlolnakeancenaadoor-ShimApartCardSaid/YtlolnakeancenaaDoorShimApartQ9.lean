/- The walk of codec.tree: an item as a value of type any, or a panic with what is wrong. -/
import Derived.Test.YtlolnakeancenaaDoorShimApartQ7
namespace Go.Proofs.YtlolnakeancenaaDoor
open Go.RowKit
set_option linter.unusedVariables false
set_option linter.unusedSimpArgs false
set_option maxRecDepth 20000
attribute [local go_sem ↓] Go.wp_at_zero Go.wp_at_succ
attribute [local go_sem] World.cell?_alloc_some frozen_alloc_some
attribute [local go_sem] lt2 lt3 lt4 lt5
attribute [local simp] lt2 lt3 lt4 lt5
/-- What goes up. -/
def goes (e a:Nat):List PanicEntry:=[{ v:=.iface 126 (.agg #[.int .i64 (e:Int),.int .i64 (a:Int)]),recovered:=false }]
/-- The call gives the tree as a value of type any, in blocks of its own; or it panics with what is wrong. -/
def Treed (w:World) (t:Tree) (e:Nat) (r:Ending) (w':World):Prop:=
 Below w.heap.size w w'∧((e=0∧∃u,r= .returned u∧Tall w' (fun b=>w.heap.size≤b) t u)∨(e≠0∧r= .panicked (goes e 0)))
set_option maxHeartbeats 4000000 in
theorem tree_bad (k:Int) (n:Nat) (s:ByteArray) (l:List Tree) (v:Value) (d:Int) (w:World) (ht:Holds w (.mk k n s l) v) (hb:bad k n s l=true):
  Calls Tryd.prog 47 #[v,.int .i64 d] w (Treed w (.mk k n s l) 4):=by
 obtain ⟨A,m,c,rfl,hk,hn,hs,hm,hmc,hc,hel⟩:=ht.open_
 simp only [bad,decide_eq_true_iff] at hb
 rw [←hm] at hb
 have hb2:¬(k=0∨k=1∨k=2)∨(k≠0∧n≠0)∨(k≠1∧s.size≠0)∨(k≠2∧0<m):=by omega
 clear hel ht hm hb hk
 have HB:=Lib.hid hb2
 clear hb2
 by_cases hkk:k≠0∧k≠1∧k≠2
 ·obtain ⟨k0,k1,k2⟩:=hkk
  have h0':(k != 0)=true:=by simpa using k0
  have h1':(k != 1)=true:=by simpa using k1
  have h2':(k != 2)=true:=by simpa using k2
  go_enter Tryd.func47,Tryd.ntmps47
  go_wp2_with fail
  exact ⟨rfl,blw,.inr ⟨by decide,rfl⟩⟩
 by_cases h0:k=0
 ·subst h0
  by_cases h1:s.size=0
  ·have e1:=empty_of_size h1
   subst e1
   have hm0:0<m:=by have:=HB.out;omega
   go_enter Tryd.func47,Tryd.ntmps47
   go_wp2_with fail
   exact ⟨rfl,blw,.inr ⟨by decide,rfl⟩⟩
  ·obtain ⟨h2,h3⟩:=text_full h1
   go_enter Tryd.func47,Tryd.ntmps47
   go_wp2_with fail
   exact ⟨rfl,blw,.inr ⟨by decide,rfl⟩⟩
 ·by_cases hn0:n=0
  ·subst hn0
   by_cases h1:k=1
   ·subst h1
    have hm0:0<m:=by have:=HB.out;omega
    go_enter Tryd.func47,Tryd.ntmps47
    go_wp2_with fail
    exact ⟨rfl,blw,.inr ⟨by decide,rfl⟩⟩
   ·have h2:k=2:=by omega
    subst h2
    have h1:s.size≠0:=by have:=HB.out;omega
    obtain ⟨h2,h3⟩:=text_full h1
    go_enter Tryd.func47,Tryd.ntmps47
    go_wp2_with fail
    exact ⟨rfl,blw,.inr ⟨by decide,rfl⟩⟩
  ·have hn1:((n:Int) != 0)=true:=by simp;omega
   have h12:k=1∨k=2:=by omega
   clear hkk h0 HB
   rcases h12 with rfl|rfl
   ·go_enter Tryd.func47,Tryd.ntmps47
    go_wp2_with fail
    exact ⟨rfl,blw,.inr ⟨by decide,rfl⟩⟩
   ·go_enter Tryd.func47,Tryd.ntmps47
    go_wp2_with fail
    exact ⟨rfl,blw,.inr ⟨by decide,rfl⟩⟩
theorem tree_deep (k:Int) (n:Nat) (s:ByteArray) (l:List Tree) (v:Value) (w:World) (ht:Holds w (.mk k n s l) v) (hb:bad k n s l=false):
  Calls Tryd.prog 47 #[v,.int .i64 16] w (Treed w (.mk k n s l) 12):=by
 have hp:=bad_parts hb
 obtain ⟨A,m,c,rfl,hk,hn,hs,hm,hmc,hc,hel⟩:=ht.open_
 have Hm:=Lib.hid hm
 clear ht hb hel hm
 rcases hp with ⟨rfl,rfl,rfl⟩|⟨rfl,rfl,rfl⟩|⟨rfl,rfl,rfl⟩
 ·have hm0:m=0:=Hm.out
  subst hm0
  go_enter Tryd.func47,Tryd.ntmps47
  go_wp2_with fail
  exact ⟨rfl,blw,.inr ⟨by decide,rfl⟩⟩
 ·have hm0:m=0:=Hm.out
  subst hm0
  go_enter Tryd.func47,Tryd.ntmps47
  go_wp2_with fail
  exact ⟨rfl,blw,.inr ⟨by decide,rfl⟩⟩
 ·go_enter Tryd.func47,Tryd.ntmps47
  go_wp2_with fail
  exact ⟨rfl,blw,.inr ⟨by decide,rfl⟩⟩
theorem tree_num (n:Nat) (d:Nat) (v:Value) (w:World) (ht:Holds w (.mk 0 n ByteArray.empty []) v) (hd:d<16):
  Calls Tryd.prog 47 #[v,.int .i64 (d:Int)] w (Treed w (.mk 0 n ByteArray.empty []) 0):=by
 obtain ⟨A,m,c,rfl,hk,hn,hs,hm,hmc,hc,hel⟩:=ht.open_
 have hm0:m=0:=hm
 subst hm0
 have hd2:((d:Int)==16)=false:=by simp;omega
 clear ht hel hm
 go_enter Tryd.func47,Tryd.ntmps47
 go_wp2_with fail
 go_ret
 exact ⟨blw,.inl ⟨rfl,_,rfl,.num n hn⟩⟩
theorem tree_text (s:ByteArray) (d:Nat) (v:Value) (w:World) (ht:Holds w (.mk 1 0 s []) v) (hd:d<16):
  Calls Tryd.prog 47 #[v,.int .i64 (d:Int)] w (Treed w (.mk 1 0 s []) 0):=by
 obtain ⟨A,m,c,rfl,hk,hn,hs,hm,hmc,hc,hel⟩:=ht.open_
 have hm0:m=0:=hm
 subst hm0
 have hd2:((d:Int)==16)=false:=by simp;omega
 clear ht hel hm
 go_enter Tryd.func47,Tryd.ntmps47
 go_wp2_with fail
 go_ret
 exact ⟨blw,.inl ⟨rfl,_,rfl,.text s hs⟩⟩
set_option maxHeartbeats 8000000 in
theorem tree_list (l:List Tree) (d:Nat) (v:Value) (w:World) (ht:Holds w (.mk 2 0 ByteArray.empty l) v) (hd:d<16) (hsz:tsizes l≤10000000)
  (ih:∀t∈l,∀v w,Holds w t v→Calls Tryd.prog 47 #[v,.int .i64 ((d+1:Nat):Int)] w (Treed w t (check t (d+1)))):
  Calls Tryd.prog 47 #[v,.int .i64 (d:Int)] w (Treed w (.mk 2 0 ByteArray.empty l) (checks l (d+1))):=by
 have Ht:=Lib.hid ht
 have Ih:=Lib.hid ih
 obtain ⟨A,m,c,rfl,hk,hn,hs,hm,hmc,hc,hel⟩:=ht.open_
 obtain ⟨i1,hi,hz0,hz1,hz2⟩:=any_parts
 have hml:m≤10000000:=by have:=tsizes_len l;omega
 have hmk:=fun W:World=>run_make_any m (by omega) W
 have hd2:((d:Int)==16)=false:=by simp;omega
 have Hm:=Lib.hid hm
 generalize hR:checks l (d+1)=R
 have HR:=Lib.hid hR
 clear ht ih hel hm hR
 show Calls Tryd.prog 47 #[.agg #[.int .i64 2,.int .u64 0,.string ByteArray.empty,.slice A m c],.int .i64 (d:Int)] w (Treed w (.mk 2 0 ByteArray.empty l) R)
 have hrow0:Row ((w.alloc (.cells #[.int .i64 2,.int .u64 0,.string ByteArray.empty,.slice A m c] 25)).alloc (.cells (madeCells (Value.nilIface).cells (m*1)) 20)) (w.heap.size+1) (.slice (some ⟨w.heap.size+1,0,none⟩) 0 m) l []:=by
  refine ⟨?_,Nat.zero_le _,fun i t u _ hu=>by simp at hu⟩
  have:=World.ownsRow_made (e:=20) (size:=1) (base:=w.heap.size+1) (w.alloc (.cells #[.int .i64 2,.int .u64 0,.string ByteArray.empty,.slice A m c] 25)) (madeCells (Value.nilIface).cells (m*1)) m (by simp) (by unfold maxLen;omega) (made_any m)
  simpa using this
 have hb0:=below_lit (w:=w) (o:=.cells #[.int .i64 2,.int .u64 0,.string ByteArray.empty,.slice A m c] 25) (o2:=.cells (madeCells (Value.nilIface).cells (m*1)) 20)
 generalize madeCells (Value.nilIface).cells (m*1)=C at*
 go_enter Tryd.func47,Tryd.ntmps47
 go_wp2_with fail
 go_loopw [5,76] (fun s5 s76 wr=>∃us:List Value,s76= .int .i64 us.length∧us.length≤m∧checks (l.take us.length) (d+1)=0∧Row wr (w.heap.size+1) s5 l us∧Below (w.heap.size+1) (w.alloc (.cells #[.int .i64 2,.int .u64 0,.string ByteArray.empty,.slice A m c] 25)) wr) (fun _ s76 _=>m - (intOf s76).toNat)
 case atStart=>exact ⟨[],rfl,by simp,by simp [checks],hrow0,hb0⟩
 case round=>
  obtain ⟨us,rfl,hj,hz,hrow,hbr⟩:=hrel
  have hzr:=hbr.size
  simp at hzr
  have hbw:=below_box hbr
  have Hz:=Lib.hid hz
  clear hz hrow0 hb0
  by_cases hlt:us.length<m
  ·have hjl:us.length<l.length:=by have:=Hm.out;omega
   obtain ⟨ad,u,rfl,hu,h4⟩:=Ht.out.elem (List.getElem?_eq_getElem hjl)
   have hcall:∀W,Below wr.heap.size wr W→Calls Tryd.prog 47 #[u,.int .i64 ((d:Int)+1)] W (Treed W l[us.length] (check l[us.length] (d+1))):=fun W h=>by
    have:=Ih.out l[us.length] (List.getElem_mem hjl) u W ((hu.keep hbw).keep h)
    simpa using this
   obtain ⟨eb,eo,k',n',s',A',m',c',ha,rfl,q0,q1,q2,q3⟩:=h4.keep hbw
   have j0:(0:Int)≤(us.length:Int):=by omega
   have j1:(us.length:Int)<(m:Int):=by omega
   obtain ⟨A3,c3,rfl,hl3,hc3⟩:=hrow.form
   have hget:=List.getElem?_eq_getElem hjl
   have Hget:=Lib.hid hget
   have hlow:∀k,(Value.slice A3 us.length c3).ownBlock=some k→k<wr.heap.size:=fun k hk=>(hrow.own.lt k hk).2
   have Hrow:=Lib.hid hrow
   have Hlow:=Lib.hid hlow
   clear hget hrow hu hlow
   go_wp2_with fail
   refine (hcall _ (blw)).mono ?_
   rintro e w1 ⟨hbw1,⟨h0,x,rfl,hx⟩|⟨h0,rfl⟩⟩
   ·have hnx:=checks_take (List.getElem?_eq_getElem hjl) Hz.out h0
    have Hnx:=Lib.hid hnx
    have hsz1:=hbw1.size
    simp at hsz1
    obtain ⟨xe,xv,rfl⟩:=hx.form
    have hbq:Below wr.heap.size wr (w1.alloc (.cells #[.iface xe xv] 20)):=blw
    have hrow4:=Hrow.out.below hbq
    have hx4:=hx.under (w':=w1.alloc (.cells #[.iface xe xv] 20)) ((Below.refl _ _).alloc (Nat.le_refl _) _)
    have hsrc:=src_one (w:=w1) (e:=20) hx.one
    have Hx4:=Lib.hid hx4
    have hb4:=below_call hbr hbq hzr
    clear hnx hx hx4
    go_wp2_with ((at_builtin;go_loud (refine wpList_app _ rfl (.tmp 80) (.tmp 85) 128 rfl _ 20 i1 _ 1 16 Tryd.underlying128 hi hz0 hz1 hz2 rfl (by omega) _ _ _ rfl hrow4.own _ _ _ _ rfl hsrc ?h63 ?hby ?hbase ?_);(case h63=>(unfold maxLen;first|omega|(simp;done)|(simp;omega)));(case hby=>first|omega|(simp;done)|(simp;omega));(case hbase=>first|omega|(simp;done)|(simp;omega));intro v5 w5 hownw5 hgroww5 hatw5 holdw5))
    go_roundw
    case rel=>
     refine ⟨us++ [.iface xe xv],(by first|rfl|(simp;done)|go_num),(by first|omega|(simp;done)|(simp;omega)),by simpa using Hnx.out,hrow4.step Hget.out Hx4.out (by first|omega|(simp;done)|(simp;omega)) (fun k hk=>?_) hownw5 hgroww5 hatw5,below_app hb4 hrow4.own hgroww5 (Nat.le_refl _) (by first|omega|(simp;done)|(simp;omega))⟩
     have:=Hlow.out k hk
     first|omega|(simp;done)|(simp;omega)
    case measure=>simp [intOf];omega
   ·have hfin:=HR.out.symm.trans (checks_first (List.getElem?_eq_getElem hjl) Hz.out h0)
    rw [←hfin] at h0 ⊢
    exact ⟨rfl,blw,.inr ⟨h0,rfl⟩⟩
  ·have hall:l.take us.length=l:=List.take_of_length_le (by have:=Hm.out;omega)
   have hul:us.length=l.length:=by have:=Hm.out;omega
   obtain ⟨A3,c3,rfl,hl3,hc3⟩:=hrow.form
   have ht:=hrow.tall hul
   have Ht:=Lib.hid ht
   have hfin:R=0:=by have:=Hz.out;rw [hall] at this;exact HR.out.symm.trans this
   clear hrow hall hul ht Hz
   subst hfin
   go_wp2_with fail
   go_ret
   exact ⟨hbw,.inl ⟨rfl,_,rfl,Ht.out.mono fun b hb=>by omega⟩⟩
end Go.Proofs.YtlolnakeancenaaDoor
