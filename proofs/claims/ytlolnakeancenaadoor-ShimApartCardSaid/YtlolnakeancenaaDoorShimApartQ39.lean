/- A message that was read is one that lies right: plain. -/
import Derived.Test.YtlolnakeancenaaDoorShimApartQ38
import Derived.Test.YtlolnakeancenaaDoorShimApartQ14
namespace Go.Proofs.YtlolnakeancenaaDoor
open Go.RowKit
set_option linter.unusedVariables false
set_option linter.unusedSimpArgs false
set_option maxRecDepth 20000
attribute [local go_sem ↓] Go.wp_at_zero Go.wp_at_succ
attribute [local go_sem] World.cell?_alloc_some frozen_alloc_some
theorem wf_clamp (n:Nat):(Lit.int .i64 ((clamp n:Nat):Int)).wf=true:=by
 exact clamp_wf n
theorem wf_cnum (t:Tree):(Lit.int .i64 ((cnum t:Nat):Int)).wf=true:=by
 cases t
 exact wf_clamp _
theorem wf_pnum (L:List Tree) (i:Nat):(Lit.int .i64 (pnum L i)).wf=true:=wf_clamp _
theorem wf_btake (t:Tree):(Lit.int .i64 (btake t).1).wf=true∧(Lit.int .i64 (btake t).2.1).wf=true:=by
 unfold btake
 split
 ·split
  ·exact ⟨wf_clamp _,wf_clamp _⟩
  ·exact ⟨by decide,by decide⟩
 ·exact ⟨by decide,by decide⟩
theorem wf_ctake (t:Tree):(Lit.int .i64 (ctake t).k).wf=true∧(Lit.int .i64 (ctake t).c).wf=true∧(Lit.int .i64 (ctake t).q).wf=true∧(Lit.int .i64 (ctake t).r).wf=true:=by
 unfold ctake
 split
 ·unfold ctk
  split
  ·exact ⟨wf_cnum _,wf_cnum _,wf_cnum _,wf_cnum _⟩
  ·exact ⟨by decide,by decide,by decide,by decide⟩
 ·exact ⟨by decide,by decide,by decide,by decide⟩
theorem wf_atake (t:Tree):(Lit.int .i64 ((atake t).getD azero).q).wf=true∧(Lit.int .i64 ((atake t).getD azero).t).wf=true:=by
 unfold atake
 split
 ·unfold aTk
  split
  ·exact ⟨wf_clamp _,wf_clamp _⟩
  ·exact ⟨by decide,by decide⟩
 ·exact ⟨by decide,by decide⟩
theorem size_ctake {w:World} {t:Tree} {v:Value} (h:Holds w t v):(ctake t).y.size≤maxLen∧(ctake t).x.size≤maxLen:=by
 have hx:∀{k:Int} {n:Nat} {s:ByteArray} {l:List Tree},Holds w (.mk k n s l) v→∀u∈l,(ctxt u).size≤maxLen:=fun h u hu=>by
  obtain ⟨A,m,c,rfl,_⟩:=h.open_
  obtain ⟨i,hi,e⟩:=List.getElem_of_mem hu
  obtain ⟨ad,u',_,hv,_⟩:=h.elem (i:=i) (by rw [List.getElem?_eq_getElem hi,e])
  obtain ⟨k2,n2,s2,l2⟩:=u
  obtain ⟨_,_,_,_,_,_,hs,_⟩:=hv.open_
  exact hs
 unfold ctake
 split
 ·unfold ctk
  split
  ·exact ⟨hx h _ (by simp),hx h _ (by simp)⟩
  ·exact ⟨by decide,by decide⟩
 ·exact ⟨by decide,by decide⟩
theorem Items.holds {w:World} {A:Option Addr} {m c:Nat} {L:List Tree} (h:Items w A m c L) (i:Nat):∃v,Holds w (pt L i) v:=by
 cases e:L[i]? with
 |none=>exact ⟨_,by unfold pt;rw [e];exact holds_end w⟩
 |some t=>
  obtain ⟨_,_,_,vs,_,h5⟩:=h
  exact ⟨vs i,by unfold pt;rw [e];exact h5 i t e⟩
theorem mread_ok {w0 w:World} {A0 A:Option Addr} {m0 c0 c:Nat} {L:List Tree} (h:Items w0 A0 m0 c0 L) (hI:IdsAt w A (mread L).l.length (mread L).l) (hc:(mread L).l.length≤c):((mread L).at A (mread L).l.length c).Ok w:=by
 have hz:(Lit.int .i64 0).wf=true:=by decide
 have ife:∀(b:Bool) (x:Int),(Lit.int .i64 x).wf=true→(Lit.int .i64 (if b=true then x else 0)).wf=true:=fun b x hx=>by
  cases b
  ·exact hz
  ·exact hx
 have txs:∀(b:Bool) (x:ByteArray),x.size≤maxLen→(if b=true then x else ⟨#[]⟩:ByteArray).size≤maxLen:=fun b x hx=>by
  cases b
  ·exact (Nat.zero_le _:0≤maxLen)
  ·exact hx
 unfold mread at hI hc ⊢
 split at hI
 ·next hk=>
  rw [if_pos hk] at hc ⊢
  obtain ⟨v,hv⟩:=h.holds (if kSt (pnum L 0) then 6 else if kBal (pnum L 0) then 4 else 3)
  obtain ⟨s1,s2⟩:=size_ctake hv
  obtain ⟨b1,b2⟩:=wf_btake (pt L 3)
  obtain ⟨b3,b4⟩:=wf_btake (pt L 5)
  obtain ⟨c1,c2,c3,c4⟩:=wf_ctake (pt L (if kSt (pnum L 0) then 6 else if kBal (pnum L 0) then 4 else 3))
  exact ⟨wf_pnum L 0,ife _ _ (wf_pnum L 1),ife _ _ (wf_pnum L 2),ife _ _ b1,ife _ _ b2,ife _ _ b3,ife _ _ b4,ife _ _ (wf_pnum L 4),ife _ _ c1,ife _ _ c2,ife _ _ c3,txs _ _ s1,txs _ _ s2,ife _ _ c4,hc,hc,hI,ife _ _ (wf_atake _).1,ife _ _ (wf_atake _).2,ife _ _ (wf_pnum L 1)⟩
 ·next hk=>
  rw [if_neg hk] at hc ⊢
  exact ⟨wf_pnum L 0,hz,hz,hz,hz,hz,hz,hz,hz,hz,hz,(Nat.zero_le _:0≤maxLen),(Nat.zero_le _:0≤maxLen),hz,hc,hc,hI,hz,hz,hz⟩
end Go.Proofs.YtlolnakeancenaaDoor
