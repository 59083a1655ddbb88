/- What a right message's parts are, and what they are read as: plain. -/
import Derived.Test.YtlolnakeancenaaDoorShimApartQ37
import Derived.Test.YtlolnakeancenaaDoorShimApartQ22
import Derived.Test.YtlolnakeancenaaDoorShimApartQ36
namespace Go.Proofs.YtlolnakeancenaaDoor
open Go.RowKit
set_option linter.unusedVariables false
set_option linter.unusedSimpArgs false
set_option maxRecDepth 20000
attribute [local go_sem ↓] Go.wp_at_zero Go.wp_at_succ
attribute [local go_sem] World.cell?_alloc_some frozen_alloc_some
theorem mok_parts {M:MsgT} (h:mok M=true):(1≤M.k∧M.k<10)∧msame M (plainM M)=true∧mright M=true:=by
 unfold mok at h
 simp only [Bool.and_eq_true,decide_eq_true_eq] at h
 exact h
theorem mright_first {M:MsgT} (h:mright M=true):¬(((kId M.k&& !idRight (M.i,M.n))||(kBal M.k&& !rightB M.br M.bb)||(kCmd M.k M.st&&ccheck M.ck M.cc M.cq M.cy M.cx M.cr != 0))=true)∧
  ¬((kAt M.k M.st&&(acheck M.p != 0||decide ((M.i,M.n)∈M.l)))=true)∧(kSt M.k=true→recOk M.r=true)∧(kSt M.k=false→kVer M.k=true→M.ver=1∨M.ver=2):=by
 unfold mright mrightF at h
 split at h
 ·cases h
 ·next h1=>
  split at h
  ·cases h
  ·next h2=>
   refine ⟨h1,h2,fun h3=>?_,fun h3 h4=>?_⟩
   ·rw [if_pos h3] at h;exact h
   ·rw [h3,h4] at h;simpa using h
theorem mok_id {M:MsgT} (h:mok M=true) (hc:kId M.k=true):idRight (M.i,M.n)=true:=by
 have h1:=(mright_first (mok_parts h).2.2).1
 rw [hc] at h1
 simp only [Bool.or_eq_true,not_or,Bool.true_and,Bool.not_eq_true',Bool.not_eq_false] at h1
 exact h1.1.1
theorem mok_bal {M:MsgT} (h:mok M=true) (hc:kBal M.k=true):rightB M.br M.bb=true:=by
 have h1:=(mright_first (mok_parts h).2.2).1
 rw [hc] at h1
 simp only [Bool.or_eq_true,not_or,Bool.true_and,Bool.not_eq_true',Bool.not_eq_false] at h1
 exact h1.1.2
theorem mok_cmd {M:MsgT} (h:mok M=true) (hc:kCmd M.k M.st=true):ccheck M.ck M.cc M.cq M.cy M.cx M.cr=0:=by
 have h1:=(mright_first (mok_parts h).2.2).1
 rw [hc] at h1
 simp only [Bool.or_eq_true,not_or,Bool.true_and,bne_iff_ne,Decidable.not_not,ne_eq] at h1
 exact h1.2
theorem mok_attr {M:MsgT} (h:mok M=true) (hc:kAt M.k M.st=true):acheck M.p=0:=by
 have h1:=(mright_first (mok_parts h).2.2).2.1
 rw [hc] at h1
 simp only [Bool.true_and,Bool.or_eq_true,not_or,bne_iff_ne,Decidable.not_not,ne_eq] at h1
 exact h1.1
theorem mok_rec {M:MsgT} (h:mok M=true) (hc:kSt M.k=true):recOk M.r=true:=(mright_first (mok_parts h).2.2).2.2.1 hc
theorem msame_iff {a b:MsgT}:msame a b=true↔a.norm=b.norm:=by
 obtain ⟨k,i,n,br,bb,tr,tb,st,ck,cc,cq,cy,cx,cr,A,m,cap,sq,tg,ver,l⟩:=a
 obtain ⟨k2,i2,n2,br2,bb2,tr2,tb2,st2,ck2,cc2,cq2,cy2,cx2,cr2,A2,m2,cap2,sq2,tg2,ver2,l2⟩:=b
 simp only [msame,MsgT.norm,MsgT.at,MsgT.p,ceq,Bool.and_eq_true,beq_iff_eq,asame_iff,AttrP.mk.injEq,MsgT.mk.injEq]
 constructor
 ·rintro ⟨h1,⟨h2,h3⟩,⟨h4,h5⟩,⟨h6,h7⟩,h8,⟨h9,h10,h11,h12,h13,h14⟩,⟨h15,h16,h17⟩,h18⟩
  exact ⟨h1,h2,h3,h4,h5,h6,h7,h8,h9,h10,h11,toList_inj h12,toList_inj h13,h14,trivial,trivial,trivial,h16,h17,h18,h15⟩
 ·rintro ⟨h1,h2,h3,h4,h5,h6,h7,h8,h9,h10,h11,h12,h13,h14, -, -, -,h16,h17,h18,h15⟩
  exact ⟨h1,⟨h2,h3⟩,⟨h4,h5⟩,⟨h6,h7⟩,h8,⟨h9,h10,h11,congrArg _ h12,congrArg _ h13,h14⟩,⟨h15,h16,h17⟩,h18⟩
theorem msame_self (a:MsgT):msame a a=true:=msame_iff.2 rfl
theorem mok_at (M:MsgT) (A:Option Addr) (m c:Nat):mok (M.at A m c)=mok M:=by cases M;rfl
theorem mok_norm (M:MsgT):mok M.norm=mok M:=mok_at M _ _ _
theorem mparts_at (M:MsgT) (A:Option Addr) (m c:Nat):mparts (M.at A m c)=mparts M:=by cases M;rfl
theorem mparts_norm (M:MsgT):mparts M.norm=mparts M:=mparts_at M _ _ _
theorem mok_plain {M:MsgT} (h:mok M=true):M.norm=(plainM M).norm:=msame_iff.1 (mok_parts h).2.1
theorem norm_l {a b:MsgT} (h:a.norm=b.norm):a.l=b.l:=(congrArg MsgT.l h:a.norm.l=b.norm.l)
theorem mok_len {M:MsgT} (h:mok M=true):M.l.length≤4096:=by
 by_cases hc:kAt M.k M.st=true
 ·exact (idsOk_iff.1 (acheck_iff.1 (mok_attr h hc)).2).2.2
 ·have e:=norm_l (mok_plain h)
  rw [e]
  show (if kAt M.k M.st=true then M.l else []).length≤4096
  rw [if_neg hc]
  exact Nat.zero_le _
theorem ccheck_text {k c q:Int} {y x:ByteArray} {r:Int} (h:ccheck k c q y x r=0):x.size≤1024:=by
 unfold ccheck at h
 split at h
 ·cases h
 ·split at h
  ·cases h
  ·split at h
   ·cases h
   ·omega
theorem tsizes_if (b:Bool) (l:List Tree) (n:Nat) (h:b=true→tsizes l≤n):tsizes (if b then l else [])≤n:=by
 cases b
 ·exact Nat.zero_le _
 ·exact h rfl
theorem tsizes_num (l:List Int):tsizes (l.map ntree)=l.length:=by
 induction l with
 |nil=>rfl
 |cons a l ih=>simp only [List.map_cons,tsizes,ih,List.length_cons,ntree,tsize];simp [tsizes];omega
theorem mparts_size {M:MsgT} (h:mok M=true):tsize (ltree (mparts M))≤12000+M.cy.size:=by
 have hl:=mok_len h
 have hc:=mok_cmd h
 show 1+ByteArray.empty.size+tsizes (mparts M)≤_
 unfold mparts mpartsF
 simp only [tsizes_append]
 have e0:ByteArray.empty.size=0:=rfl
 have h1:tsizes (if kId M.k=true then [ntree M.i,ntree M.n] else [])≤2:=tsizes_if _ _ _ fun _=>by simp [tsizes,tsize,ntree,e0]
 have h2:tsizes (if kBal M.k=true then [btree M.br M.bb] else [])≤3:=tsizes_if _ _ _ fun _=>by simp [tsizes,tsize,btree,ltree,ntree,e0]
 have h3:tsizes (if kSt M.k=true then [ntree M.st,btree M.tr M.tb] else [])≤4:=tsizes_if _ _ _ fun _=>by simp [tsizes,tsize,btree,ltree,ntree,e0]
 have h4:tsizes (if kCmd M.k M.st=true then [ctree M.ck.toNat M.cc.toNat M.cq.toNat M.cy M.cx M.cr.toNat] else [])≤1031+M.cy.size:=tsizes_if _ _ _ fun hk=>by
  have hx:=ccheck_text (hc hk)
  simp [tsizes,tsize,ctree,e0]
  omega
 have h5:tsizes (if kAt M.k M.st=true then [atree M.l M.sq M.tg] else [])≤4+2*4096:=tsizes_if _ _ _ fun _=>by
  simp only [tsizes,tsize,atree,ltree,ntree,e0,itrees]
  have e:=tsizes_num (inums M.l)
  rw [inums_length] at e
  have e':tsizes ((inums M.l).map fun a=>Tree.mk 0 (u64n a) ByteArray.empty [])=2*M.l.length:=e
  first|(rw [e];omega)|(rw [e'];omega)
 have h6:tsizes (if kVer M.k=true then [ntree M.ver] else [])≤1:=tsizes_if _ _ _ fun _=>by simp [tsizes,tsize,ntree,e0]
 have h0:tsizes [ntree M.k]=1:=by simp [tsizes,tsize,ntree,e0]
 omega
/-- A tree without a fault. -/
def TG (t:Tree) (d:Nat):Prop:=check t d=0∧Fit t
theorem ntree_good (a:Int) {d:Nat} (hd:d<16):TG (ntree a) d:=by
 refine ⟨?_,.mk _ _ _ _ (u64n_lt a) (by decide) (by decide) (fun t h=>by cases h)⟩
 show check (.mk 0 (u64n a) ByteArray.empty []) d=0
 have hb:bad 0 (u64n a) ByteArray.empty []=false:=by simp [bad]
 rw [check,hb,if_neg (by decide),if_neg (by omega)]
 rfl
theorem nat_good {n:Nat} (hn:n<2 ^ 64) {d:Nat} (hd:d<16):TG (.mk 0 n ByteArray.empty []) d:=by
 refine ⟨?_,.mk _ _ _ _ hn (by decide) (by decide) (fun t h=>by cases h)⟩
 have hb:bad 0 n ByteArray.empty []=false:=by simp [bad]
 rw [check,hb,if_neg (by decide),if_neg (by omega)]
 rfl
theorem text_good {s:ByteArray} (hs:s.size<2 ^ 64) {d:Nat} (hd:d<16):TG (.mk 1 0 s []) d:=by
 refine ⟨?_,.mk _ _ _ _ (by decide) hs (by decide) (fun t h=>by cases h)⟩
 have hb:bad 1 0 s []=false:=by simp [bad]
 rw [check,hb,if_neg (by decide),if_neg (by omega)]
 rfl
theorem ltree_good {l:List Tree} {d:Nat} (h:∀t∈l,TG t (d+1)) (hl:l.length<2 ^ 64) (hd:d<16):TG (ltree l) d:=by
 refine ⟨?_,.mk _ _ _ _ (by decide) (by decide) hl (fun t ht=>(h t ht).2)⟩
 show check (.mk 2 0 ByteArray.empty l) d=0
 have hb:bad 2 0 ByteArray.empty l=false:=by simp [bad]
 rw [check,hb,if_neg (by decide),if_neg (by omega)]
 exact checks_zero.2 fun t ht=>(h t ht).1
theorem btree_good (a b:Int) {d:Nat} (hd:d<15):TG (btree a b) d:=by
 refine ltree_good (fun t ht=>?_) (by simp) (by omega)
 simp only [List.mem_cons,List.not_mem_nil,or_false] at ht
 rcases ht with rfl|rfl
 ·exact ntree_good _ (by omega)
 ·exact ntree_good _ (by omega)
theorem atree_good {l:List IdP} (hl:l.length≤4096) (q t:Int) {d:Nat} (hd:d<14):TG (atree l q t) d:=by
 refine ltree_good (fun t ht=>?_) (by simp) (by omega)
 simp only [List.mem_cons,List.not_mem_nil,or_false] at ht
 rcases ht with rfl|rfl|rfl
 ·exact ntree_good _ (by omega)
 ·exact ntree_good _ (by omega)
 ·refine ltree_good (fun t ht=>?_) (by rw [itrees,List.length_map,inums_length];omega) (by omega)
  obtain ⟨a,_,rfl⟩:=List.mem_map.1 ht
  exact ntree_good _ (by omega)
theorem ctree_good {k c q r:Nat} {y x:ByteArray} (hk:k<2 ^ 64) (hc:c<2 ^ 64) (hq:q<2 ^ 64) (hr:r<2 ^ 64) (hy:y.size<2 ^ 64) (hx:x.size<2 ^ 64) {d:Nat} (hd:d<15):TG (ctree k c q y x r) d:=by
 refine ltree_good (fun t ht=>?_) (by simp) (by omega)
 simp only [List.mem_cons,List.not_mem_nil,or_false] at ht
 rcases ht with rfl|rfl|rfl|rfl|rfl|rfl
 ·exact nat_good hk (by omega)
 ·exact nat_good hc (by omega)
 ·exact nat_good hq (by omega)
 ·exact text_good hy (by omega)
 ·exact text_good hx (by omega)
 ·exact nat_good hr (by omega)
theorem mem_iff {α:Type} {b:Bool} {l:List α} {t:α} (h:t∈(if b=true then l else [])):b=true∧t∈l:=by
 cases b
 ·cases h
 ·exact ⟨rfl,h⟩
theorem mparts_good {M:MsgT} (h:mok M=true) (hy:M.cy.size≤60000):TG (ltree (mparts M)) 0:=by
 refine ltree_good (fun t ht=>?_) ?_ (by decide)
 ·unfold mparts mpartsF at ht
  simp only [List.mem_append,List.mem_singleton] at ht
  rcases ht with (((((rfl|ht)|ht)|ht)|ht)|ht)|ht
  ·exact ntree_good _ (by omega)
  ·obtain ⟨-,ht⟩:=mem_iff ht
   simp only [List.mem_cons,List.not_mem_nil,or_false] at ht
   rcases ht with rfl|rfl
   ·exact ntree_good _ (by omega)
   ·exact ntree_good _ (by omega)
  ·obtain ⟨-,ht⟩:=mem_iff ht
   simp only [List.mem_cons,List.not_mem_nil,or_false] at ht
   subst ht
   exact btree_good _ _ (by omega)
  ·obtain ⟨-,ht⟩:=mem_iff ht
   simp only [List.mem_cons,List.not_mem_nil,or_false] at ht
   rcases ht with rfl|rfl
   ·exact ntree_good _ (by omega)
   ·exact btree_good _ _ (by omega)
  ·obtain ⟨hc,ht⟩:=mem_iff ht
   simp only [List.mem_cons,List.not_mem_nil,or_false] at ht
   subst ht
   have hr:=mok_cmd h hc
   obtain ⟨h0,h1,h2,h3,h4,h5,h6,h7⟩:=ccheck_right hr
   have hx:=ccheck_text hr
   exact ctree_good (by omega) (by omega) (by omega) (by omega) (by omega) (by omega) (by omega)
  ·obtain ⟨hc,ht⟩:=mem_iff ht
   simp only [List.mem_cons,List.not_mem_nil,or_false] at ht
   subst ht
   exact atree_good (mok_len h) _ _ (by omega)
  ·obtain ⟨-,ht⟩:=mem_iff ht
   simp only [List.mem_cons,List.not_mem_nil,or_false] at ht
   subst ht
   exact ntree_good _ (by omega)
 ·have h1:=mparts_size h
  have h2:=tsizes_len (mparts M)
  have h3:tsize (ltree (mparts M))=1+0+tsizes (mparts M):=rfl
  omega
theorem good_perr {t:Tree} (h:TG t 0) (hs:tsize t≤100000):perr t=0:=by
 have h1:=tform_len t h.2
 unfold perr
 rw [if_neg (by rw [h.1];simp),if_neg (by omega)]
theorem good_pform {t:Tree} (h:perr t=0):pform t=tform t:=if_pos h
theorem beval_be4 {s:Nat} (h:s<4294967296):beval (be4 s)=s:=by
 unfold beval be4
 simp only [List.foldl_cons,List.foldl_nil]
 omega
theorem mframe_len (ver:Nat) (p:List Nat):(mframe ver p).length=5+p.length:=by
 unfold mframe be4
 simp only [List.length_append,List.length_cons,List.length_nil]
theorem mopen_frame {t:Tree} (h:TG t 0) (hp:perr t=0) (v ver:Nat):mopen v (mframe ver (pform t))=if v<ver then (tNone,13) else if ver<v then (tNone,4) else (t,0):=by
 unfold mopen
 rw [if_neg (by rw [mframe_len];omega)]
 have h0:(mframe ver (pform t)).headD 0=ver:=rfl
 have h1:((mframe ver (pform t)).drop 1).take 4=be4 (crc (pform t)):=rfl
 have h2:(mframe ver (pform t)).drop 5=pform t:=rfl
 rw [h0,h1,h2,beval_be4 (crc_lt _)]
 by_cases a:v<ver
 ·rw [if_pos a,if_pos a]
 rw [if_neg a,if_neg a]
 by_cases b:ver<v
 ·rw [if_pos b,if_pos b]
 rw [if_neg b,if_neg b,if_neg (fun h=>h rfl)]
 have hg:cget (pform t)=(t,0,0):=by
  unfold cget
  have hl:=pform_len t
  rw [if_neg (by omega),good_pform hp]
  have:=gtake_form t 0 16 0 [] h.2 h.1 rfl
  rw [List.append_nil] at this
  rw [this]
  dsimp only
  rw [if_neg (by omega)]
 rw [hg]
theorem btake_item {a b:Int} (h:rightB a b=true):btake (btree a b)=(a,b,true):=by
 obtain ⟨h1,h2,h3,h4⟩:=rightB_iff.1 h
 show (if (rightB (clamp (tN (ntree a))) (clamp (tN (ntree b)))&&tsame (btree a b) (btree (clamp (tN (ntree a))) (clamp (tN (ntree b)))))=true then (((clamp (tN (ntree a)):Nat):Int),((clamp (tN (ntree b)):Nat):Int),true) else (0,0,false))=_
 rw [clampZ h1 h2,clampZ h3 (by omega),tsame_self,h]
 rfl
theorem ctake_item {k c q:Int} {y x:ByteArray} {r:Int} (h:ccheck k c q y x r=0):ctake (ctree k.toNat c.toNat q.toNat y x r.toNat)=⟨k,c,q,y,x,r,true⟩:=by
 obtain ⟨h0,h1,h2,h3,h4,h5,h6,h7⟩:=ccheck_right h
 show ctk (ctree k.toNat c.toNat q.toNat y x r.toNat) (clamp k.toNat) (clamp c.toNat) (clamp q.toNat) y x (clamp r.toNat)=_
 rw [clamp_small (n:=k.toNat) (by omega),clamp_small (n:=c.toNat) (by omega),clamp_small (n:=q.toNat) (by omega),clamp_small (n:=r.toNat) (by omega)]
 unfold ctk
 rw [Int.toNat_of_nonneg h0,Int.toNat_of_nonneg h2,Int.toNat_of_nonneg h4,Int.toNat_of_nonneg h6,if_pos ⟨h,tsame_self _⟩]
theorem recOk_bounds {r:RecT} (h:recOk r=true):0≤r.st∧r.st≤3∧rightB r.tr r.tb=true:=by
 unfold recOk at h
 split at h
 ·cases h
 ·next h1=>
  split at h
  ·cases h
  ·next h2=>
   refine ⟨by omega,by omega,?_⟩
   cases h3:rightB r.tr r.tb
   ·exact absurd (.inr (.inl h3)) h2
   ·rfl
theorem pnum_num {L:List Tree} {i:Nat} {a:Int} (hp:pt L i=ntree a) (h0:0≤a) (h1:a≤1099511627776):pnum L i=a:=by
 unfold pnum;rw [hp];exact clampZ h0 h1
theorem msg_ext {a b:MsgT} (h1:a.k=b.k) (h2:a.i=b.i) (h3:a.n=b.n) (h4:a.br=b.br) (h5:a.bb=b.bb) (h6:a.tr=b.tr) (h7:a.tb=b.tb) (h8:a.st=b.st) (h9:a.ck=b.ck) (h10:a.cc=b.cc) (h11:a.cq=b.cq) (h12:a.cy=b.cy) (h13:a.cx=b.cx) (h14:a.cr=b.cr)
  (h15:a.A=b.A) (h16:a.m=b.m) (h17:a.cap=b.cap) (h18:a.sq=b.sq) (h19:a.tg=b.tg) (h20:a.ver=b.ver) (h21:a.l=b.l):a=b:=by
 cases a
 cases b
 subst h1 h2 h3 h4 h5 h6 h7 h8 h9 h10 h11 h12 h13 h14 h15 h16 h17 h18 h19 h20 h21
 rfl
set_option maxHeartbeats 4000000 in
theorem mread_back {M:MsgT} (h:mok M=true):mread (mparts M)=M.norm:=by
 have hk:=(mok_parts h).1
 have h0:pnum (mparts M) 0=M.k:=by
  refine pnum_num ?_ (by omega) (by omega)
  unfold mparts mpartsF
  simp [pt]
 have hid:=fun hc=>idRight_iff.1 (mok_id h hc)
 have hbal:=fun hc=>btake_item (mok_bal h hc)
 have hrec:=fun hc=>recOk_bounds (mok_rec h hc)
 have hcm:=fun hc=>ctake_item (mok_cmd h hc)
 have hat:=fun hc=>atake_item (l:=M.l) (q:=M.sq) (t:=M.tg) (mok_attr h hc)
 have hver:=(mright_first (mok_parts h).2.2).2.2.2
 have hfl:=flags_of (st:=M.st) hk
 have hpl:=mok_plain h
 have hs:kId M.k=kSt M.k∨kSt M.k=false:=by
  cases hc:kSt M.k
  ·exact .inr rfl
  ·left
   rcases hfl with h|h|h|h|h|h|h <;> simp_all
 have hst:(if kSt M.k=true then pnum (mparts M) 4 else 0)=M.st:=by
  unfold mparts
  have hst0:M.st=(plainM M).st:=(congrArg MsgT.st hpl:M.norm.st=(plainM M).norm.st)
  unfold plainM plainF at hst0
  dsimp only at hst0
  generalize kId M.k=f0 at*
  generalize kBal M.k=f1 at*
  generalize kSt M.k=f2 at*
  generalize kCmd M.k M.st=f3 at*
  generalize kAt M.k M.st=f4 at*
  generalize kVer M.k=f5 at*
  cases f2
  ·rw [if_neg (by decide)] at hst0 ⊢
   exact hst0.symm
  ·rw [if_pos rfl]
   obtain ⟨a1,a2,a3⟩:=hrec rfl
   refine pnum_num ?_ a1 (by have:M.st≤3:=a2;omega)
   rcases hfl with ⟨rfl,rfl,h, -⟩|⟨rfl,rfl,h, -⟩|⟨rfl,rfl,h, -⟩|⟨rfl,rfl,h, -⟩|⟨rfl,rfl, -,rfl,rfl,rfl⟩|⟨rfl,rfl, -,rfl,rfl,rfl⟩|⟨rfl,rfl,h, -⟩
   all_goals first|cases h|rfl
 have es:kSt M.k=false→M.st=0:=fun hc=>by
  have hst0:M.st=(plainM M).st:=(congrArg MsgT.st hpl:M.norm.st=(plainM M).norm.st)
  rw [hst0]
  show (if kSt M.k=true then M.st else 0)=0
  rw [hc]
  rfl
 have ei:kId M.k=true→∀L j,pt L j=ntree M.i→pnum L j=M.i:=fun hc L j hp=>pnum_num hp (hid hc).1 (by have:=(hid hc).2.1;dsimp only at this;omega)
 have en:kId M.k=true→∀L j,pt L j=ntree M.n→pnum L j=M.n:=fun hc L j hp=>pnum_num hp (hid hc).2.2.1 (hid hc).2.2.2
 have ev:kSt M.k=false→kVer M.k=true→∀L j,pt L j=ntree M.ver→pnum L j=M.ver:=fun h1 h2 L j hp=>by
  rcases hver h1 h2 with e|e
  ·exact pnum_num hp (by omega) (by omega)
  ·exact pnum_num hp (by omega) (by omega)
 have hto:=fun hc=>btake_item (hrec hc).2.2
 clear hid hver
 unfold mread
 rw [h0,if_pos hk,hst,hpl]
 unfold mreadK mparts plainM
 generalize kId M.k=f0 at*
 generalize kBal M.k=f1 at*
 generalize kSt M.k=f2 at*
 generalize kCmd M.k M.st=f3 at*
 generalize kAt M.k M.st=f4 at*
 generalize kVer M.k=f5 at*
 clear hs hst h0 hpl h
 rcases hfl with ⟨rfl,rfl,rfl,rfl,rfl,rfl⟩|⟨rfl,rfl,rfl,rfl,rfl,rfl⟩|⟨rfl,rfl,rfl,rfl,rfl,rfl⟩|⟨rfl,rfl,rfl,rfl,rfl,rfl⟩|⟨rfl,rfl,rfl,rfl,rfl,rfl⟩|⟨rfl,rfl,rfl,rfl,rfl,rfl⟩|⟨rfl,rfl,rfl,rfl,rfl,rfl⟩
 all_goals
  apply msg_ext
 all_goals dsimp only [mreadF,plainF,MsgT.norm,MsgT.at]
 all_goals try simp only [↓reduceIte,Bool.false_eq_true]
 all_goals try with_reducible rfl
 all_goals first
  |exact es rfl
  |exact ei rfl _ _ rfl
  |exact en rfl _ _ rfl
  |exact ev rfl rfl _ _ rfl
  |exact congrArg Prod.fst (hbal rfl)
  |exact congrArg (fun x=>x.2.1) (hbal rfl)
  |exact congrArg Prod.fst (hto rfl)
  |exact congrArg (fun x=>x.2.1) (hto rfl)
  |exact congrArg CmdR.k (hcm rfl)
  |exact congrArg CmdR.c (hcm rfl)
  |exact congrArg CmdR.q (hcm rfl)
  |exact congrArg CmdR.y (hcm rfl)
  |exact congrArg CmdR.x (hcm rfl)
  |exact congrArg CmdR.r (hcm rfl)
  |exact congrArg (fun o=>(o.getD azero).q) (hat rfl)
  |exact congrArg (fun o=>(o.getD azero).t) (hat rfl)
  |exact congrArg (fun o=>(o.getD azero).l) (hat rfl)
end Go.Proofs.YtlolnakeancenaaDoor
