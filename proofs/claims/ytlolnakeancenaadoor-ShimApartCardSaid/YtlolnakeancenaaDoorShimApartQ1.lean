/- What is read of bytes as a tree. Plain: no program in sight. What is read as a tree: where it ends, that it is right, and that it has the form of the bytes it was read of. Plain: no program in sight. The walks of package ballot: Right, Less, First; two ballots held against one another. Ids held against one another: ==, slices.Equal, ids.Equal, attr.Same. A region that draws its order: three or four may come up. A call that only lays blocks and draws: in the sort's own words. A row of ids of the call's own, cell by cell. -/
import Derived.Test.YtlolnakeancenaaDoorShimApartQ0
import Derived.WalkKit
import Derived.WalkSpells
import Derived.WalkLawsBesides
import Derived.Deep.RegionHeld3
import Derived.Deep.DrawnRows
import Derived.Deep.DeepCutAuto
import Derived.Deep.DeepFit
import Derived.Lib.Hide
import Derived.BigQuiet
import Derived.Deep.QuietTactic
import Derived.Sort.Grow
import Derived.Deep.Draws
namespace Go.Proofs.YtlolnakeancenaaDoor
set_option linter.unusedVariables false
/-- A text of bytes. -/
def ofBytes (l:List Nat):ByteArray:=⟨(l.map fun c=>UInt8.ofNat c).toArray⟩
theorem txt_ofBytes (l:List Nat) (h:∀c∈l,c<256):txt (ofBytes l)=l:=by
 simp only [txt,ofBytes,List.map_map]
 conv=>rhs;rw [←List.map_id l]
 apply List.map_congr_left
 intro c hc
 have:=h c hc
 simp [Nat.mod_eq_of_lt this]
theorem ofBytes_size (l:List Nat):(ofBytes l).size=l.length:=by simp [ofBytes,ByteArray.size]
theorem ofBytes_txt (s:ByteArray):ofBytes (txt s)=s:=txt_inj (txt_ofBytes _ (txt_lt s))
abbrev Got:=Except (Nat × Nat) (Tree × List Nat × Nat)
abbrev Gots:=Except (Nat × Nat) (List Tree × List Nat × Nat)
/-- So many trees, one behind the other. -/
def gmany (g:List Nat→Nat→Got):Nat→List Nat→Nat→Gots
 |0,r,a=>.ok ([],r,a)
 |n+1,r,a=>
  match g r a with
  | .error e=>.error e
  | .ok (t,r1,a1)=>
   match gmany g n r1 a1 with
   | .error e=>.error e
   | .ok (l,r2,a2)=>.ok (t :: l,r2,a2)
/-- The tree at the front of r, which begins at place a; so many lists may still be opened. -/
def gtake:Nat→List Nat→Nat→Got
 |_,[],a=>.error (2,a)
 |0,_ :: _,a=>.error (12,a)
 |fuel+1,k :: r,a=>
  if 2<k then .error (4,a)
  else if (ntake r).2.2≠0 then .error ((ntake r).2.2,a+1)
  else if k=0 then .ok (.mk 0 (ntake r).1 ByteArray.empty [],r.drop (ntake r).2.1,a+1+(ntake r).2.1)
  else if (r.drop (ntake r).2.1).length<(ntake r).1 then .error (2,a+1+(ntake r).2.1)
  else if k=1 then .ok (.mk 1 0 (ofBytes ((r.drop (ntake r).2.1).take (ntake r).1)) [],(r.drop (ntake r).2.1).drop (ntake r).1,a+1+(ntake r).2.1+(ntake r).1)
  else
   match gmany (gtake fuel) (ntake r).1 (r.drop (ntake r).2.1) (a+1+(ntake r).2.1) with
   | .error e=>.error e
   | .ok (l,r2,a2)=>.ok (.mk 2 0 ByteArray.empty l,r2,a2)
theorem gmany_succ_ok {g:List Nat→Nat→Got} {n a a1:Nat} {r r1:List Nat} {t:Tree} (h:g r a= .ok (t,r1,a1)):
  gmany g (n+1) r a=match gmany g n r1 a1 with| .error e=>.error e| .ok (l,r2,a2)=>.ok (t :: l,r2,a2):=by simp only [gmany,h]
theorem gmany_succ_error {g:List Nat→Nat→Got} {n a:Nat} {r:List Nat} {e:Nat × Nat} (h:g r a= .error e):gmany g (n+1) r a= .error e:=by simp only [gmany,h]
/-- What is put is read. -/
theorem gtake_form (t:Tree):∀(d fuel a:Nat) (r:List Nat),Fit t→check t d=0→fuel+d=16→gtake fuel (tform t++r) a= .ok (t,r,a+(tform t).length):=by
 refine Tree.ind (P:=fun t=>∀(d fuel a:Nat) (r:List Nat),Fit t→check t d=0→fuel+d=16→gtake fuel (tform t++r) a= .ok (t,r,a+(tform t).length)) ?_ t
 intro k n s l ih d fuel a r hf hc hd
 obtain ⟨hb,hd16,hcl⟩:=check_node hc
 obtain ⟨hn,hs,hl,hsub⟩:=hf.out
 cases fuel with
 |zero=>omega
 |succ fuel=>
  rcases bad_parts hb with ⟨rfl,rfl,rfl⟩|⟨rfl,rfl,rfl⟩|⟨rfl,rfl,rfl⟩
  ·have h1:=ntake_form n r
   have h2:(form n++r).drop (size n)=r:=by rw [←size_form];exact List.drop_left
   simp [tform,gtake,h1,h2,size_form]
   omega
  ·have h1:=ntake_form s.size (txt s++r)
   have h2:(form s.size++(txt s++r)).drop (size s.size)=txt s++r:=by rw [←size_form];exact List.drop_left
   have h3:(txt s++r).take s.size=txt s:=by rw [←txt_length];exact List.take_left
   have h4:(txt s++r).drop s.size=r:=by rw [←txt_length];exact List.drop_left
   simp only [tform,if_neg (show ¬(1:Int)=0 by decide),if_true,List.cons_append,List.append_assoc,gtake,h1,h2,h3,h4]
   rw [if_neg (by omega),if_neg (by simp),if_neg (by omega),if_neg (by simp [txt_length]),ofBytes_txt]
   simp [size_form,txt_length]
   omega
  ·have h1:=ntake_form l.length (tforms l++r)
   have h2:(form l.length++(tforms l++r)).drop (size l.length)=tforms l++r:=by rw [←size_form];exact List.drop_left
   have hlen:∀m:List Tree,m.length≤(tforms m).length:=by
    intro m
    induction m with
    |nil=>simp
    |cons t m ihm=>
     obtain ⟨k,n,s,q⟩:=t
     have:1≤(tform (.mk k n s q)).length:=by
      simp only [tform];split
      ·simp
      ·split <;> simp
     simp only [tforms,List.length_append,List.length_cons]
     omega
   have key:∀(m:List Tree) (a:Nat),(∀t∈m,t∈l)→checks m (d+1)=0→gmany (gtake fuel) m.length (tforms m++r) a= .ok (m,r,a+(tforms m).length):=by
    intro m
    induction m with
    |nil=>intro a _ _;simp [gmany,tforms]
    |cons t m ihm=>
     intro a hm hcm
     rw [checks_zero] at hcm
     have h5:=ih t (hm t (by simp)) (d+1) fuel a (tforms m++r) (hsub t (hm t (by simp))) (hcm t (by simp)) (by omega)
     simp only [tforms,List.append_assoc,List.length_cons]
     rw [gmany_succ_ok h5,ihm _ (fun v hv=>hm v (by simp [hv])) (checks_zero.2 fun v hv=>hcm v (by simp [hv]))]
     simp [Nat.add_assoc]
   have h6:=key l (a+1+size l.length) (fun t h=>h) hcl
   simp only [tform,if_neg (show ¬(2:Int)=0 by decide),if_neg (show ¬(2:Int)=1 by decide),List.cons_append,List.append_assoc,gtake,h1,h2]
   rw [if_neg (by omega),if_neg (by simp),if_neg (by omega),if_neg (by have:=hlen l;simp;omega),if_neg (by omega),h6]
   simp [size_form]
   omega
end Go.Proofs.YtlolnakeancenaaDoor
namespace Go.Proofs.YtlolnakeancenaaDoor
set_option linter.unusedVariables false
theorem tsize_form (t:Tree):∀d,check t d=0→tsize t≤(tform t).length:=by
 refine Tree.ind (P:=fun t=>∀d,check t d=0→tsize t≤(tform t).length) ?_ t
 intro k n s l ih d hc
 obtain ⟨hb,hd16,hcl⟩:=check_node hc
 have key:∀m:List Tree,(∀t∈m,t∈l)→tsizes m≤(tforms m).length:=by
  intro m
  induction m with
  |nil=>intro _;simp [tsizes,tforms]
  |cons t m ihm=>
   intro hm
   have h1:=ih t (hm t (by simp)) (d+1) (checks_zero.1 hcl t (hm t (by simp)))
   have h2:=ihm fun v hv=>hm v (by simp [hv])
   simp only [tsizes,tforms,List.length_append]
   omega
 have hk:=key l fun t h=>h
 rcases bad_parts hb with ⟨rfl,rfl,rfl⟩|⟨rfl,rfl,rfl⟩|⟨rfl,rfl,rfl⟩
 ·have e0:ByteArray.empty.size=0:=rfl
  simp [tsize,tform,tsizes,e0]
 ·simp [tsize,tform,tsizes,txt_length]
  omega
 ·have e0:ByteArray.empty.size=0:=rfl
  simp [tsize,tform,e0]
  omega
theorem ntake_back {r:List Nat} (hr:∀c∈r,c<256) (h:(ntake r).2.2=0):
  r=form (ntake r).1++r.drop (ntake r).2.1∧(ntake r).2.1=(form (ntake r).1).length∧(ntake r).2.1≤r.length∧(ntake r).1<2 ^ 64:=by
 cases r with
 |nil=>simp [ntake] at h
 |cons b0 r=>
  have hb0:=hr b0 (List.mem_cons_self ..)
  have hr':∀c∈r,c<256:=fun c hc=>hr c (List.mem_cons_of_mem _ hc)
  by_cases h1:b0<248
  ·have e:ntake (b0 :: r)=(b0,1,0):=by simp [ntake,h1]
   rw [e]
   simp only [form,if_pos h1]
   exact ⟨rfl,rfl,by simp,by omega⟩
  ·by_cases h2:r.length<b0 - 247
   ·simp [ntake,h1,h2] at h
   ·by_cases h3:size (beval (r.take (b0 - 247)))=1+(b0 - 247)
    ·have e:ntake (b0 :: r)=(beval (r.take (b0 - 247)),1+(b0 - 247),0):=by simp [ntake,h1,h2,h3]
     rw [e]
     have hf:=(form_iff hb0 hr' (by omega) (by omega)).2 h3
     simp only [hf]
     have hlen:(r.take (b0 - 247)).length=b0 - 247:=by rw [List.length_take];omega
     refine ⟨?_,?_,?_,?_⟩
     ·rw [Nat.add_comm 1,List.drop_succ_cons,List.cons_append,List.take_append_drop]
     ·simp [hlen];omega
     ·simp;omega
     ·have hv:=beval_lt (r.take (b0 - 247)) fun c hc=>hr' c (List.mem_of_mem_take hc)
      rw [hlen] at hv
      have h8:256 ^ (b0 - 247)≤256 ^ 8:=Nat.pow_le_pow_right (by decide) (by omega)
      have h9:256 ^ 8=2 ^ 64:=by decide
      omega
    ·simp [ntake,h1,h2,h3] at h
theorem ntake_errs (r:List Nat):(ntake r).2.2=0∨(ntake r).2.2=2∨(ntake r).2.2=4:=by
 cases r with
 |nil=>simp [ntake]
 |cons b0 r=>
  simp only [ntake]
  split
  ·simp
  ·split
   ·simp
   ·split <;> simp
theorem ntake_le (r:List Nat):(ntake r).2.1≤r.length:=by
 cases r with
 |nil=>simp [ntake]
 |cons b0 r=>
  simp only [ntake]
  split
  ·simp
  ·split
   ·simp
   ·split
    ·simp;omega
    ·simp
theorem gtake_good:∀(fuel d:Nat) (t:Tree) (r r1:List Nat) (a a1:Nat),fuel+d=16→r.length<2 ^ 62→(∀c∈r,c<256)→gtake fuel r a= .ok (t,r1,a1)→
  check t d=0∧Fit t∧r=tform t++r1∧a1=a+(tform t).length:=by
 intro fuel
 induction fuel with
 |zero=>
  intro d t r r1 a a1 hd hlen hr h
  cases r <;> simp [gtake] at h
 |succ fuel ih=>
  intro d t r r1 a a1 hd hlen hr h
  cases r with
  |nil=>simp [gtake] at h
  |cons k r=>
   have hr':∀c∈r,c<256:=fun c hc=>hr c (List.mem_cons_of_mem _ hc)
   simp only [List.length_cons] at hlen
   simp only [gtake] at h
   by_cases hk:2<k
   ·rw [if_pos hk] at h;cases h
   rw [if_neg hk] at h
   by_cases hn:(ntake r).2.2≠0
   ·rw [if_pos hn] at h;cases h
   rw [if_neg hn] at h
   obtain ⟨n1,n2,n3,n4⟩:=ntake_back hr' (Classical.byContradiction hn)
   generalize (ntake r).1=v at*
   generalize (ntake r).2.1=m at*
   have e0:ByteArray.empty.size=0:=rfl
   have hd16:¬d=16:=by omega
   by_cases k0:k=0
   ·rw [if_pos k0] at h
    simp only [Except.ok.injEq,Prod.mk.injEq] at h
    obtain ⟨rfl,rfl,rfl⟩:=h
    subst k0
    refine ⟨by simp [check,bad,checks,e0,hd16],.mk 0 v _ [] n4 (by decide) (by decide) (fun t ht=>by cases ht),?_,?_⟩
    ·simp only [tform,if_true,List.cons_append,←n1]
    ·simp [tform,n2];omega
   rw [if_neg k0] at h
   by_cases hl:(r.drop m).length<v
   ·rw [if_pos hl] at h;cases h
   rw [if_neg hl] at h
   have hdr:∀c∈r.drop m,c<256:=fun c hc=>hr' c (List.mem_of_mem_drop hc)
   have hdl:(r.drop m).length≤r.length:=by simp
   by_cases k1:k=1
   ·rw [if_pos k1] at h
    simp only [Except.ok.injEq,Prod.mk.injEq] at h
    obtain ⟨rfl,rfl,rfl⟩:=h
    subst k1
    have hsz:(ofBytes ((r.drop m).take v)).size=v:=by rw [ofBytes_size,List.length_take];omega
    have htx:txt (ofBytes ((r.drop m).take v))=(r.drop m).take v:=txt_ofBytes _ fun c hc=>hdr c (List.mem_of_mem_take hc)
    refine ⟨by simp [check,bad,checks,hd16],.mk 1 0 _ [] (by decide) (by rw [hsz];omega) (by decide) (fun t ht=>by cases ht),?_,?_⟩
    ·simp only [tform,if_neg (show ¬(1:Int)=0 by decide),if_true,hsz,htx,List.cons_append,List.append_assoc,List.take_append_drop,←n1]
    ·simp only [tform,if_neg (show ¬(1:Int)=0 by decide),if_true,hsz,htx,List.length_cons,List.length_append,←n2,List.length_take]
     omega
   rw [if_neg k1] at h
   obtain rfl:k=2:=by omega
   cases hm:gmany (gtake fuel) v (r.drop m) (a+1+m) with
   |error e=>rw [hm] at h;cases h
   |ok y=>
    obtain ⟨l,r2,a2⟩:=y
    rw [hm] at h
    simp only [Except.ok.injEq,Prod.mk.injEq] at h
    obtain ⟨rfl,rfl,rfl⟩:=h
    have ih2:∀(t:Tree) (r r1:List Nat) (a a1:Nat),(r.length<2 ^ 62)→(∀c∈r,c<256)→gtake fuel r a= .ok (t,r1,a1)→check t (d+1)=0∧Fit t∧r=tform t++r1∧a1=a+(tform t).length:=fun t r r1 a a1 hl hb hg=>ih (d+1) t r r1 a a1 (by omega) hl hb hg
    have key:∀(n:Nat) (l:List Tree) (r r1:List Nat) (a a1:Nat),r.length<2 ^ 62→(∀c∈r,c<256)→gmany (gtake fuel) n r a= .ok (l,r1,a1)→
      l.length=n∧checks l (d+1)=0∧(∀t∈l,Fit t)∧r=tforms l++r1∧a1=a+(tforms l).length:=by
     intro n
     induction n with
     |zero=>
      intro l r r1 a a1 hl hr h
      simp only [gmany,Except.ok.injEq,Prod.mk.injEq] at h
      obtain ⟨rfl,rfl,rfl⟩:=h
      exact ⟨rfl,rfl,fun t ht=>(by cases ht),rfl,rfl⟩
     |succ n ihn=>
      intro l r r1 a a1 hl hr h
      cases hg:gtake fuel r a with
      |error e=>rw [gmany_succ_error hg] at h;cases h
      |ok x=>
       obtain ⟨t,r2,a2⟩:=x
       rw [gmany_succ_ok hg] at h
       obtain ⟨h1,h2,h3,h4⟩:=ih2 t r r2 a a2 hl hr hg
       cases hm:gmany (gtake fuel) n r2 a2 with
       |error e=>rw [hm] at h;cases h
       |ok y=>
        obtain ⟨l',r3,a3⟩:=y
        rw [hm] at h
        simp only [Except.ok.injEq,Prod.mk.injEq] at h
        obtain ⟨rfl,rfl,rfl⟩:=h
        obtain ⟨g1,g2,g3,g4,g5⟩:=ihn l' r2 r3 a2 a3 (by have:=congrArg List.length h3;simp at this;omega) (fun c hc=>hr c (by rw [h3];exact List.mem_append_right _ hc)) hm
        refine ⟨by simp [g1],by simp [checks,h1,g2],fun u hu=>?_,by rw [h3,g4];simp [tforms],by rw [g5,h4];simp [tforms,Nat.add_assoc]⟩
        rcases List.mem_cons.1 hu with rfl|hu
        ·exact h2
        ·exact g3 u hu
    obtain ⟨g1,g2,g3,g4,g5⟩:=key v l (r.drop m) r2 (a+1+m) a2 (by omega) hdr hm
    refine ⟨by simp [check,bad,g2,e0,hd16],.mk 2 0 _ l (by decide) (by decide) (by omega) g3,?_,?_⟩
    ·simp only [tform,if_neg (show ¬(2:Int)=0 by decide),if_neg (show ¬(2:Int)=1 by decide),List.cons_append,List.append_assoc,g1,←g4,←n1]
    ·simp only [tform,if_neg (show ¬(2:Int)=0 by decide),if_neg (show ¬(2:Int)=1 by decide),List.length_cons,List.length_append,g1,g5,←n2]
     omega
end Go.Proofs.YtlolnakeancenaaDoor
namespace Go.Proofs.YtlolnakeancenaaDoor
open Go.RowKit
set_option linter.unusedVariables false
set_option linter.unusedSimpArgs false
set_option maxRecDepth 20000
attribute [local go_sem ↓] Go.wp_at_zero Go.wp_at_succ
attribute [local go_sem] World.cell?_alloc_some frozen_alloc_some
def lessB (a b c d:Int):Bool:=if a=c then decide (b<d) else decide (a<c)
def rightB (a b:Int):Bool:=decide (0≤a)&&decide (a≤1099511627776)&&decide (0≤b)&&decide (b<7)
theorem rightB_yes {a b:Int} (h1:0≤a) (h2:a≤1099511627776) (h3:0≤b) (h4:b<7):rightB a b=true:=by simp [rightB, *]
theorem rightB_no {a b:Int} (h:¬(0≤a∧a≤1099511627776∧0≤b∧b<7)):rightB a b=false:=by
 rw [←Bool.not_eq_true];intro h1;simp only [rightB,Bool.and_eq_true,decide_eq_true_eq] at h1;exact h ⟨h1.1.1.1,h1.1.1.2,h1.1.2,h1.2⟩
theorem rightB_iff {a b:Int}:rightB a b=true↔(0≤a∧a≤1099511627776∧0≤b∧b<7):=by
 simp only [rightB,Bool.and_eq_true,decide_eq_true_eq,and_assoc]
set_option maxHeartbeats 400000 in
theorem less_any (a b c d:Int) (w:World):
  Calls Tryd.prog 95 #[.agg #[.int .i64 a,.int .i64 b],.agg #[.int .i64 c,.int .i64 d]] w (Gives w (.bool (lessB a b c d))):=by
 go_enter Tryd.func95,Tryd.ntmps95
 go_wp2
 all_goals go_ret
 all_goals refine ⟨?_,((Below.refl _ _).alloc (Nat.le_refl _) _).alloc (by simp) _⟩
 all_goals simp_all [lessB]
set_option maxHeartbeats 400000 in
theorem right_any (a b:Int) (w:World):
  Calls Tryd.prog 68 #[.agg #[.int .i64 a,.int .i64 b]] w (Gives w (.bool (rightB a b))):=by
 go_enter Tryd.func68,Tryd.ntmps68
 go_wp2
 all_goals go_ret
 all_goals refine ⟨?_,((Below.refl _ _).alloc (Nat.le_refl _) _)⟩
 all_goals
  by_cases hr:0≤a∧a≤1099511627776∧0≤b∧b<7
  ·have hr':=rightB_yes hr.1 hr.2.1 hr.2.2.1 hr.2.2.2
   simp [hr'];try omega
  ·have hr':=rightB_no hr
   simp [hr'];try omega
theorem bal_eql_run (a b c d:Int) (W:World):(binOp .eql 43 (.agg #[.int .i64 a,.int .i64 b]) (.agg #[.int .i64 c,.int .i64 d])).run Tryd.prog W= .ok (.bool (a==c&&b==d)) W:=by
 by_cases h1:a=c
 ·go_simp
  by_cases h2:b=d <;> simp [h2]
 ·go_simp
theorem bal_neq_run (a b c d:Int) (W:World):(binOp .neq 43 (.agg #[.int .i64 a,.int .i64 b]) (.agg #[.int .i64 c,.int .i64 d])).run Tryd.prog W= .ok (.bool (!(a==c&&b==d))) W:=by
 by_cases h1:a=c
 ·go_simp
  by_cases h2:b=d <;> simp [h2]
 ·go_simp
theorem id_eql_run (a b c d:Int) (W:World):(binOp .eql 41 (.agg #[.int .i64 a,.int .i64 b]) (.agg #[.int .i64 c,.int .i64 d])).run Tryd.prog W= .ok (.bool (a==c&&b==d)) W:=by
 by_cases h1:a=c
 ·go_simp
  by_cases h2:b=d <;> simp [h2]
 ·go_simp
theorem id_neq_run (a b c d:Int) (W:World):(binOp .neq 41 (.agg #[.int .i64 a,.int .i64 b]) (.agg #[.int .i64 c,.int .i64 d])).run Tryd.prog W= .ok (.bool (!(a==c&&b==d))) W:=by
 by_cases h1:a=c
 ·go_simp
  by_cases h2:b=d <;> simp [h2]
 ·go_simp
def lseq (l m:List IdP):Bool:=decide (l=m)
theorem lseq_iff {l m:List IdP}:lseq l m=true↔l=m:=decide_eq_true_iff
theorem take_step {l m:List IdP} {j:Nat} {x:IdP} (h:l.take j=m.take j) (h1:l[j]? =some x) (h2:m[j]? =some x):l.take (j+1)=m.take (j+1):=by
 rw [List.take_add_one,List.take_add_one,h,h1,h2]
section
attribute [local go_sem ↓ high] id_neq_run id_eql_run
set_option maxHeartbeats 1000000 in
theorem equal_ids (A A2:Option Addr) (m c m2 c2:Nat) (l l2:List IdP) (w:World) (h1:IdsAt w A m l) (h2:IdsAt w A2 m2 l2):
  Calls Tryd.prog 85 #[.slice A m c,.slice A2 m2 c2] w (Gives w (.bool (lseq l l2))):=by
 generalize hR:lseq l l2=R
 have HR:=Lib.hid hR
 have H1:=Lib.hid h1
 have H2:=Lib.hid h2
 have Hm:=Lib.hid h1.1
 have Hm2:=Lib.hid h2.1
 have hc:=h1.2.1
 clear hR h1 h2
 by_cases e4:m=m2
 case neg=>
  have hfin:R=false:=by
   rw [←HR.out]
   simp only [lseq,decide_eq_false_iff_not]
   intro h;exact e4 (by rw [Hm.out,Hm2.out,h])
  subst hfin
  have e4':((m:Int) != (m2:Int))=true:=by simp;omega
  go_enter Tryd.func85,Tryd.ntmps85
  go_wp2_with fail
  go_ret
  exact ⟨rfl,blw⟩
 subst e4
 have hmm:m≤9223372036854775807:=by unfold maxLen at hc;omega
 go_enter Tryd.func85,Tryd.ntmps85
 go_wp2_with fail
 go_loopw [13] (fun s13 wr=>∃j:Nat,j≤m∧s13= .int .i64 j∧l.take j=l2.take j∧Below w.heap.size w wr) (fun s13 _=>m - (intOf s13).toNat)
 case atStart=>exact ⟨0,by omega,rfl,rfl,blw⟩
 case round=>
  obtain ⟨j,hj,rfl,htk,hbr⟩:=hrel
  have hzr:=hbr.size
  have Htk:=Lib.hid htk
  clear htk
  by_cases hlt:j<m
  ·obtain ⟨r,n,b,o,e1,_,_,rfl,p0,p1⟩:=(H1.out.keep hbr).at_ hlt
   obtain ⟨r2,n2,b2,o2,e2,_,_,rfl,q0,q1⟩:=(H2.out.keep hbr).at_ hlt
   have E1:=Lib.hid e1
   have E2:=Lib.hid e2
   clear e1 e2
   have j0:(0:Int)≤(j:Int):=by omega
   have j1:(j:Int)<(m:Int):=by omega
   by_cases hok:r=r2∧n=n2
   ·have hok':(r==r2&&n==n2)=true:=by simp [hok]
    have Hnx:=Lib.hid (take_step Htk.out E1.out (by rw [hok.1,hok.2];exact E2.out))
    clear hok
    go_upto_region 3 with fail
    go_region
    all_goals
     go_wp2_with fail
     go_roundw
     case rel=>exact ⟨j+1,by omega,by go_num,Hnx.out,blw⟩
     case measure=>simp [intOf];omega
   ·have hok':(r==r2&&n==n2)=false:=by simpa using hok
    have hfin:R=false:=by
     rw [←HR.out]
     simp only [lseq,decide_eq_false_iff_not]
     intro h;subst h
     have h1:=E1.out
     rw [E2.out] at h1
     injection h1 with h1
     injection h1 with h1 h2
     exact hok ⟨h1.symm,h2.symm⟩
    subst hfin
    clear hok
    go_upto_region 3 with fail
    go_region
    all_goals
     go_wp2_with fail
     go_ret
     exact ⟨rfl,blw⟩
  ·have g1:l.take j=l:=List.take_of_length_le (by have:=Hm.out;omega)
   have g2:l2.take j=l2:=List.take_of_length_le (by have:=Hm2.out;omega)
   have hfin:R=true:=by
    rw [←HR.out]
    simp only [lseq,decide_eq_true_eq]
    have:=Htk.out;rwa [g1,g2] at this
   subst hfin
   clear g1 g2 Htk
   go_wp2_with fail
   go_ret
   exact ⟨rfl,blw⟩
set_option maxHeartbeats 400000 in
theorem idsequal_any (A A2:Option Addr) (m c m2 c2:Nat) (l l2:List IdP) (w:World) (h1:IdsAt w A m l) (h2:IdsAt w A2 m2 l2):
  Calls Tryd.prog 64 #[.slice A m c,.slice A2 m2 c2] w (Gives w (.bool (lseq l l2))):=by
 have h:=equal_ids A A2 m c m2 c2 l l2 w h1 h2
 generalize lseq l l2=R at h ⊢
 go_enter Tryd.func64,Tryd.ntmps64
 go_wp2_with (go_at_call 85;refine h.mono ?_;rintro e w1 ⟨rfl,hb1⟩)
 go_ret
 exact ⟨rfl,blw⟩
def asame (a b:AttrP):Bool:=decide (a=b)
theorem asame_iff {a b:AttrP}:asame a b=true↔a=b:=decide_eq_true_iff
theorem asame_parts {l l2:List IdP} {q q2 t t2:Int}:asame ⟨l,q,t⟩ ⟨l2,q2,t2⟩=(t==t2&&(q==q2&&lseq l l2)):=by
 rw [Bool.eq_iff_iff,asame_iff]
 simp only [Bool.and_eq_true,beq_iff_eq,lseq_iff,AttrP.mk.injEq]
 constructor
 ·rintro ⟨h1,h2,h3⟩;exact ⟨h3,h2,h1⟩
 ·rintro ⟨h1,h2,h3⟩;exact ⟨h3,h2,h1⟩
set_option maxHeartbeats 400000 in
theorem attrsame_any (A A2:Option Addr) (m c m2 c2:Nat) (q t q2 t2:Int) (l l2:List IdP) (w:World) (h1:IdsAt w A m l) (h2:IdsAt w A2 m2 l2):
  Calls Tryd.prog 37 #[.agg #[.slice A m c,.int .i64 q,.int .i64 t],.agg #[.slice A2 m2 c2,.int .i64 q2,.int .i64 t2]] w (Gives w (.bool (asame ⟨l,q,t⟩ ⟨l2,q2,t2⟩))):=by
 have h:=fun W (hb:Below w.heap.size w W)=>idsequal_any A A2 m c m2 c2 l l2 W (h1.keep hb) (h2.keep hb)
 clear h1 h2
 rw [asame_parts]
 generalize lseq l l2=R at h ⊢
 by_cases e1:t=t2
 ·subst e1
  by_cases e2:q=q2
  ·subst e2
   rw [show (t==t&&(q==q&&R))=R by simp]
   go_enter Tryd.func37,Tryd.ntmps37
   go_wp2_with (go_at_call 64;refine (h _ (blw)).mono ?_;rintro e w1 ⟨rfl,hb1⟩)
   go_ret
   exact ⟨rfl,blw⟩
  ·rw [show (t==t&&(q==q2&&R))=false by simp [e2]]
   clear h
   go_enter Tryd.func37,Tryd.ntmps37
   go_wp2_with fail
   go_ret
   exact ⟨by simp_all,blw⟩
 ·rw [show (t==t2&&(q==q2&&R))=false by simp [e1]]
  clear h
  go_enter Tryd.func37,Tryd.ntmps37
  go_wp2_with fail
  go_ret
  exact ⟨by simp_all,blw⟩
end
end Go.Proofs.YtlolnakeancenaaDoor
namespace Go.Proofs.YtlolnakeancenaaDoor
open Go.RowKit
set_option linter.unusedVariables false
set_option linter.unusedSimpArgs false
set_option maxRecDepth 20000
attribute [local go_sem ↓] Go.wp_at_zero Go.wp_at_succ
attribute [local go_sem] World.cell?_alloc_some frozen_alloc_some
section
variable {P:Program} {l:List Oper} {Q:Exit→Act→World→Prop} {md:Region.Mode} {S:World→Prop}
theorem three_op {i j k:Nat} {oi oj ok:Oper} {fuel:Nat} {listed:Array Bool} {a:Act} {w:World} (ei:opAt l i=some oi) (ej:opAt l j=some oj) (ek:opAt l k=some ok) (hr:Region.ready md l.toArray listed=[i,j,k])
  (wi:Region.wanted oi (yielded l.toArray a.tmps)=true) (wj:Region.wanted oj (yielded l.toArray a.tmps)=true) (wk:Region.wanted ok (yielded l.toArray a.tmps)=true)
  (hi:∀K':Act→World→Prop,Shut (∀a w,S w→(S w→wpAnyH P md l.toArray Q S fuel (listed.setIfInBounds i true) a w)→K' a w)→Oper.wp P oi a w K' Q)
  (hj:∀K':Act→World→Prop,Shut (∀a w,S w→(S w→wpAnyH P md l.toArray Q S fuel (listed.setIfInBounds j true) a w)→K' a w)→Oper.wp P oj a w K' Q)
  (hk:∀K':Act→World→Prop,Shut (∀a w,S w→(S w→wpAnyH P md l.toArray Q S fuel (listed.setIfInBounds k true) a w)→K' a w)→Oper.wp P ok a w K' Q):
  wpAnyH P md l.toArray Q S (fuel+1) listed a w:=
 wpAnyH_ready hr (by simp) (AllReadyH.cons ((opAt_get l i).trans ei) (fun K' hK=>by rw [if_pos wi];exact hi K' hK) (AllReadyH.cons ((opAt_get l j).trans ej) (fun K' hK=>by rw [if_pos wj];exact hj K' hK) (AllReadyH.cons ((opAt_get l k).trans ek) (fun K' hK=>by rw [if_pos wk];exact hk K' hK) AllReadyH.nil)))
end
end Go.Proofs.YtlolnakeancenaaDoor
namespace Go.Proofs.YtlolnakeancenaaDoor
open Go.RowKit Go.Sort
set_option linter.unusedVariables false
/-- Nothing that was there has turned; draws only went on. -/
def Lays (w w':World):Prop:=Below w.heap.size w w'∧w.drawn≤w'.drawn
theorem Lays.refl (w:World):Lays w w:=⟨Below.refl _ _,Nat.le_refl _⟩
theorem Lays.trans {a b c:World} (h:Lays a b) (k:Lays b c):Lays a c:=⟨h.1.trans (k.1.mono h.1.size),Nat.le_trans h.2 k.2⟩
theorem Lays.drewN {a w:World} (h:Lays a w) (n:Nat):Lays a (w.drewN n):=⟨below_drewN h.1 n,Nat.le_trans h.2 (Nat.le_add_right _ _)⟩
theorem drawn_alloc (w:World) (o:Obj):(w.alloc o).drawn=w.drawn:=rfl
theorem drawn_drew (w:World):w.drew.drawn=w.drawn+1:=rfl
end Go.Proofs.YtlolnakeancenaaDoor
namespace Go.Proofs.YtlolnakeancenaaDoor
open Go.RowKit
set_option linter.unusedVariables false
set_option linter.unusedSimpArgs false
set_option maxRecDepth 20000
attribute [local go_sem ↓] Go.wp_at_zero Go.wp_at_succ
attribute [local go_sem] World.cell?_alloc_some frozen_alloc_some
/-- The ids of l lie at block g from its beginning on, none frozen. -/
def RowAt (w:World) (g:Nat) (l:List IdP):Prop:=∀(i:Nat) (x:IdP),l[i]? =some x→
 w.cell? ⟨g,i*2,none⟩=some (.int .i64 x.1)∧w.cell? ⟨g,i*2+1,none⟩=some (.int .i64 x.2)∧w.frozen? ⟨g,i*2,none⟩=false∧w.frozen? ⟨g,i*2+1,none⟩=false
theorem RowAt.keep {w w':World} {g:Nat} {l:List IdP} (h:RowAt w g l) (hb:Below w.heap.size w w'):RowAt w' g l:=fun i x hi=>by
 obtain ⟨h1,h2,h3,h4⟩:=h i x hi
 exact ⟨cell_keep hb h1,cell_keep hb h2,frozen_keep hb h1 h3,frozen_keep hb h2 h4⟩
theorem RowAt.set {w:World} {g:Nat} {l:List IdP} (h:RowAt w g l) {k:Nat} (hk:k<l.length) (y:IdP):
  RowAt ((w.setCell ⟨g,k*2,none⟩ (.int .i64 y.1)).setCell ⟨g,k*2+1,none⟩ (.int .i64 y.2)) g (l.set k y):=fun i x hi=>by
 obtain ⟨k1,k2,k3,k4⟩:=h k l[k] (List.getElem?_eq_getElem hk)
 by_cases e:k=i
 ·subst e
  rw [List.getElem?_set_self hk] at hi
  cases hi
  refine ⟨?_,?_,?_,?_⟩
  ·rw [World.cell?_setCell_other _ _ _ _ (by simp)]
   exact World.cell?_setCell_same _ _ _ k1
  ·exact World.cell?_setCell_same _ _ _ (u:=.int .i64 l[k].2) (by rw [World.cell?_setCell_other _ _ _ _ (by simp)];exact k2)
  ·simp [World.frozen?_setCell,k3]
  ·simp [World.frozen?_setCell,k4]
 ·rw [List.getElem?_set_ne e] at hi
  obtain ⟨h1,h2,h3,h4⟩:=h i x hi
  refine ⟨?_,?_,?_,?_⟩
  ·rw [World.cell?_setCell_other _ _ _ _ (by simp <;> omega),World.cell?_setCell_other _ _ _ _ (by simp <;> omega)];exact h1
  ·rw [World.cell?_setCell_other _ _ _ _ (by simp <;> omega),World.cell?_setCell_other _ _ _ _ (by simp <;> omega)];exact h2
  ·simp [World.frozen?_setCell,h3]
  ·simp [World.frozen?_setCell,h4]
theorem RowAt.ids {w:World} {g:Nat} {l s:List IdP} {m:Nat} (h:RowAt w g l) (hs:s.length=m) (hm:m≤maxLen) (hp:∀(i:Nat) (x:IdP),s[i]? =some x→l[i]? =some x) (hwf:∀x∈s,(Lit.int .i64 x.1).wf=true∧(Lit.int .i64 x.2).wf=true):IdsAt w (some ⟨g,0,none⟩) m s:=
 ⟨hs.symm,hm,fun i x hi=>by
  obtain ⟨h1,h2,_,_⟩:=h i x (hp i x hi)
  obtain ⟨w1,w2⟩:=hwf x (List.mem_of_getElem? hi)
  exact ⟨w1,w2,g,0,rfl,by simpa using h1,by simpa using h2⟩⟩
def encId (x:IdP):List Value:=[.int .i64 x.1,.int .i64 x.2]
def flat2 (l:List IdP):List Value:=l.flatMap encId
theorem flat2_length (l:List IdP):(flat2 l).length=l.length*2:=by
 induction l with
 |nil=>rfl
 |cons x l ih=>simp only [flat2,List.flatMap_cons,List.length_append,List.length_cons] at*;rw [ih];simp [encId];omega
theorem flat2_get:∀(l:List IdP) (i:Nat) (x:IdP),l[i]? =some x→(flat2 l)[i*2]? =some (.int .i64 x.1)∧(flat2 l)[i*2+1]? =some (.int .i64 x.2)
 | [],i,x,h=>by simp at h
 |y :: l,0,x,h=>by
  simp at h;subst h
  exact ⟨rfl,rfl⟩
 |y :: l,i+1,x,h=>by
  obtain ⟨h1,h2⟩:=flat2_get l i x (by simpa using h)
  have e:flat2 (y :: l)=Value.int .i64 y.1 :: Value.int .i64 y.2 :: flat2 l:=rfl
  rw [e,show (i+1)*2=i*2+1+1 by omega]
  simp only [List.getElem?_cons_succ]
  exact ⟨h1,h2⟩
theorem flat2_inv {l:List IdP} {j:Nat} {u:Value} (h:(flat2 l)[j]? =some u):∃i x,l[i]? =some x∧(j=i*2∧u= .int .i64 x.1∨j=i*2+1∧u= .int .i64 x.2):=by
 have hj:j<l.length*2:=by
  rw [←flat2_length]
  exact (List.getElem?_eq_some_iff.1 h).1
 have hi:j / 2<l.length:=by omega
 obtain ⟨h1,h2⟩:=flat2_get l (j / 2) _ (List.getElem?_eq_getElem hi)
 refine ⟨j / 2,_,List.getElem?_eq_getElem hi,?_⟩
 rcases Nat.mod_two_eq_zero_or_one j with e|e
 ·rw [show j / 2*2=j by omega,h] at h1
  injection h1 with h1
  exact .inl ⟨by omega,h1⟩
 ·rw [show j / 2*2+1=j by omega,h] at h2
  injection h2 with h2
  exact .inr ⟨by omega,h2⟩
theorem flat2_one {l:List IdP}:∀u∈flat2 l,u.oneCell'=true:=fun u hu=>by
 obtain ⟨j,hj,rfl⟩:=List.getElem_of_mem hu
 obtain ⟨i,x,_,h|h⟩:=flat2_inv (List.getElem?_eq_getElem hj)
 ·rw [h.2];rfl
 ·rw [h.2];rfl
theorem flat2_append (l m:List IdP):flat2 (l++m)=flat2 l++flat2 m:=by simp [flat2]
theorem IdsAt.cells {w:World} {b o m:Nat} {l:List IdP} (h:IdsAt w (some ⟨b,o,none⟩) m l) {j:Nat} {u:Value} (hj:(flat2 l)[j]? =some u):w.cell? ⟨b,o+j,none⟩=some u:=by
 obtain ⟨i,x,hi,hx⟩:=flat2_inv hj
 obtain ⟨_,_,b2,o2,e,h1,h2⟩:=h.2.2 i x hi
 injection e with e
 injection e with e1 e2
 subst e1 e2
 rcases hx with ⟨rfl,rfl⟩|⟨rfl,rfl⟩
 ·exact h1
 ·exact h2
theorem IdsAt.wf {w:World} {A:Option Addr} {m:Nat} {l:List IdP} (h:IdsAt w A m l):∀x∈l,(Lit.int .i64 x.1).wf=true∧(Lit.int .i64 x.2).wf=true:=fun x hx=>by
 obtain ⟨i,hi,rfl⟩:=List.getElem_of_mem hx
 obtain ⟨w1,w2,_⟩:=h.2.2 i _ (List.getElem?_eq_getElem hi)
 exact ⟨w1,w2⟩
/-- A row that the call owns. -/
theorem row_of_own {w:World} {base:Nat} {e:TypeId} {v:Value} {n:Nat} {l:List IdP} (h:w.ownsRow base e 2 v n (flat2 l)) (hv:v≠ .slice none 0 0):
  ∃g cap,v= .slice (some ⟨g,0,none⟩) n cap∧base≤g∧g<w.heap.size∧n≤cap∧cap≤maxLen∧l.length=n∧RowAt w g l:=by
 have hl:l.length=n:=by have:=h.1;rw [flat2_length] at this;omega
 rcases h.2 with ⟨e0,_⟩|⟨g,cap,cur,rfl,hb,hg,hn,hm,hs,ht⟩
 ·exact absurd e0 hv
 ·have hlt:g<w.heap.size:=(Array.getElem?_eq_some_iff.1 hg).1
  have hc:∀j u,(flat2 l)[j]? =some u→w.cell? ⟨g,j,none⟩=some u:=fun j u hj=>by
   rw [cell_of_row w g j cur e (0,0) hg,←Array.getElem?_toList]
   rw [←ht,List.getElem?_take] at hj
   split at hj
   ·exact hj
   ·cases hj
  have hf:∀j,w.frozen? ⟨g,j,none⟩=false:=fun j=>by simp [World.frozen?,hg]
  exact ⟨g,cap,rfl,hb,hlt,hn,hm,hl,fun i x hi=>⟨hc _ _ (flat2_get l i x hi).1,hc _ _ (flat2_get l i x hi).2,hf _,hf _⟩⟩
theorem addr_add (b o k:Nat):(Addr.mk b o none).add k=⟨b,o+k,none⟩:=by
 unfold Addr.add
 split
 ·simp_all
 ·rfl
theorem IdsAt.src {w:World} {A:Option Addr} {m:Nat} {l:List IdP} (h:IdsAt w A m l):Src w 2 A m (flat2 l):=
 ⟨by rw [flat2_length,h.1],fun j u hu=>by
  obtain ⟨i,x,hi,hx⟩:=flat2_inv hu
  obtain ⟨_,_,b,o,e,h1,h2⟩:=h.2.2 i x hi
  refine ⟨_,e,?_⟩
  rw [addr_add]
  rcases hx with ⟨rfl,rfl⟩|⟨rfl,rfl⟩
  ·exact h1
  ·exact h2,flat2_one⟩
theorem Src.keep2 {w w':World} {size:Nat} {A:Option Addr} {m:Nat} {news:List Value} (h:Src w size A m news) (hb:Below w.heap.size w w'):Src w' size A m news:=
 ⟨h.1,fun j u hj=>by
  obtain ⟨ad,e,hc⟩:=h.2.1 j u hj
  exact ⟨ad,e,cell_keep hb hc⟩,h.2.2⟩
theorem own_form5 {w:World} {base:Nat} {e:TypeId} {size:Nat} {v:Value} {n:Nat} {xs:List Value} (h:w.ownsRow base e size v n xs):∃A c,v= .slice A n c∧n≤c∧c≤maxLen:=by
 rcases h.2 with ⟨rfl,rfl⟩|⟨g,cap,cur,rfl,_,_,hn,hm,_⟩
 ·exact ⟨none,0,rfl,Nat.le_refl _,Nat.zero_le _⟩
 ·exact ⟨_,_,rfl,hn,hm⟩
theorem ids_of_own {w:World} {base:Nat} {e:TypeId} {A:Option Addr} {n c:Nat} {l:List IdP} (h:w.ownsRow base e 2 (.slice A n c) n (flat2 l)) (hm:n≤maxLen) (hwf:∀x∈l,(Lit.int .i64 x.1).wf=true∧(Lit.int .i64 x.2).wf=true):
  IdsAt w A n l∧n≤c∧∀ad,A=some ad→ad.spot=none:=by
 by_cases hv:(.slice A n c:Value)= .slice none 0 0
 ·injection hv with e1 e2 e3
  subst e1 e2 e3
  have hl:l=[]:=by
   have:=h.1
   rw [flat2_length] at this
   exact List.length_eq_zero_iff.1 (by omega)
  subst hl
  exact ⟨IdsAt.nil,Nat.le_refl _,fun ad h=>by cases h⟩
 ·obtain ⟨g,cap,e,_,_,hn,_,hl,hr⟩:=row_of_own h hv
  injection e with e1 e2 e3
  subst e1 e3
  exact ⟨hr.ids hl hm (fun _ _ h=>h) hwf,hn,fun ad h=>by cases h;rfl⟩
theorem src_two {w:World} {x:IdP}:Src (w.alloc (.cells #[.int .i64 x.1,.int .i64 x.2] 41)) 2 (some ⟨w.heap.size,0,none⟩) 1 (flat2 [x]):=by
 refine ⟨rfl,fun j u hj=>⟨_,rfl,?_⟩,flat2_one⟩
 rw [addr_add,Nat.zero_add]
 have hb:=Blk.new w 41 #[.int .i64 x.1,.int .i64 x.2]
 rw [hb.cell,List.getElem?_toArray]
 exact hj
theorem src_two' {w:World} {r n:Int}:Src (w.alloc (.cells #[.int .i64 r,.int .i64 n] 41)) 2 (some ⟨w.heap.size,0,none⟩) 1 (flat2 [(r,n)]):=src_two (x:=(r,n))
end Go.Proofs.YtlolnakeancenaaDoor
