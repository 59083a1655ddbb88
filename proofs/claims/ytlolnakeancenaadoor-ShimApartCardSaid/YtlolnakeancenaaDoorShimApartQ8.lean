/- Commands held against one another. -/
import Derived.Test.YtlolnakeancenaaDoorShimApartQ2
namespace Go.Proofs.YtlolnakeancenaaDoor
open Go.RowKit
set_option linter.unusedVariables false
set_option linter.unusedSimpArgs false
set_option maxRecDepth 20000
attribute [local go_sem ↓] Go.wp_at_zero Go.wp_at_succ
attribute [local go_sem] World.cell?_alloc_some frozen_alloc_some
def ceq (k c q:Int) (y x:ByteArray) (r k2 c2 q2:Int) (y2 x2:ByteArray) (r2:Int):Bool:=k==k2&&(c==c2&&(q==q2&&(y.toList==y2.toList&&(x.toList==x2.toList&&r==r2))))
theorem cmd_eql_run (k c q:Int) (y x:ByteArray) (r k2 c2 q2:Int) (y2 x2:ByteArray) (r2:Int) (W:World):
  (binOp .eql 45 (.agg #[.int .i64 k,.int .i64 c,.int .i64 q,.string y,.string x,.int .i64 r]) (.agg #[.int .i64 k2,.int .i64 c2,.int .i64 q2,.string y2,.string x2,.int .i64 r2])).run Tryd.prog W= .ok (.bool (ceq k c q y x r k2 c2 q2 y2 x2 r2)) W:=by
 unfold ceq
 by_cases h1:k=k2
 ·by_cases h2:c=c2
  ·by_cases h3:q=q2
   ·by_cases h4:y.toList=y2.toList
    ·by_cases h5:x.toList=x2.toList
     ·go_simp
      by_cases h6:r=r2 <;> simp [h6]
     ·go_simp
    ·go_simp
   ·go_simp
  ·go_simp
 ·go_simp
theorem cmd_neq_run (k c q:Int) (y x:ByteArray) (r k2 c2 q2:Int) (y2 x2:ByteArray) (r2:Int) (W:World):
  (binOp .neq 45 (.agg #[.int .i64 k,.int .i64 c,.int .i64 q,.string y,.string x,.int .i64 r]) (.agg #[.int .i64 k2,.int .i64 c2,.int .i64 q2,.string y2,.string x2,.int .i64 r2])).run Tryd.prog W= .ok (.bool (!ceq k c q y x r k2 c2 q2 y2 x2 r2)) W:=by
 unfold ceq
 by_cases h1:k=k2
 ·by_cases h2:c=c2
  ·by_cases h3:q=q2
   ·by_cases h4:y.toList=y2.toList
    ·by_cases h5:x.toList=x2.toList
     ·go_simp
      by_cases h6:r=r2 <;> simp [h6]
     ·go_simp
    ·go_simp
   ·go_simp
  ·go_simp
 ·go_simp
/-- What is wrong with a command. -/
def cnamed (k c q:Int) (y x:ByteArray) (r:Int):Bool:=ceq k c q y x r k (nmC k c) (nmC k q) (nmY k y) (nmX k x) (nmR k r)
/-- Its form is wrong. -/
def cform (k c q:Int) (y x:ByteArray) (r:Int):Bool:= !decide (0≤k∧k≤6)|| !cnamed k c q y x r||(!cbare k&&(c==0||q==0))
def crange (c q r:Int):Bool:= !decide (0≤c∧c≤1048576)|| !decide (0≤q∧q≤1099511627776)|| !decide (0≤r∧r≤1099511627776)
def ccheck (k c q:Int) (y x:ByteArray) (r:Int):Nat:=
 if cform k c q y x r then 4 else if crange c q r then 6 else if 1024<x.size then 12 else if cbare k then 0 else if k=5 then rbeg y else rkey y
attribute [local go_sem ↓ high] cmd_neq_run cmd_eql_run
attribute [local go_sem] undef
set_option maxHeartbeats 8000000 in
theorem check6_any (k c q:Int) (y x:ByteArray) (r:Int) (w:World) (hy:y.size≤maxLen) (hx:x.size≤maxLen) (hT:Tabs w):
  Calls Tryd.prog 69 #[.agg #[.int .i64 k,.int .i64 c,.int .i64 q,.string y,.string x,.int .i64 r]] w (Gives w (.int .i64 (ccheck k c q y x r:Int))):=by
 obtain ⟨R,hR⟩:∃R,R=ccheck k c q y x r:=⟨_,rfl⟩
 rw [←hR]
 unfold ccheck at hR
 have hw1:=fun W=>within_any k 6 W
 have hwc:=fun W=>within_any c 1048576 W
 have hwq:=fun W=>within_any q 1099511627776 W
 have hwr:=fun W=>within_any r 1099511627776 W
 have hnm:=fun W=>named_any k c q y x r W
 have hba:=fun W=>bare_any k c q y x r W
 have hbe:=fun W (h:Below w.heap.size w W)=>beginning_any y W hy (hT.keep h)
 have hke:=fun W (h:Below w.heap.size w W)=>key_any y W hy (hT.keep h)
 obtain ⟨p,hp⟩:∃p,p=decide (0≤k∧k≤6):=⟨_,rfl⟩
 obtain ⟨pc,hpc⟩:∃p,p=decide (0≤c∧c≤1048576):=⟨_,rfl⟩
 obtain ⟨pq,hpq⟩:∃p,p=decide (0≤q∧q≤1099511627776):=⟨_,rfl⟩
 obtain ⟨pr,hpr⟩:∃p,p=decide (0≤r∧r≤1099511627776):=⟨_,rfl⟩
 obtain ⟨E,hE⟩:∃E,E=cnamed k c q y x r:=⟨_,rfl⟩
 obtain ⟨B,hB⟩:∃B,B=cbare k:=⟨_,rfl⟩
 obtain ⟨be,hbee⟩:∃B,B=rbeg y:=⟨_,rfl⟩
 obtain ⟨ke,hkee⟩:∃B,B=rkey y:=⟨_,rfl⟩
 rw [cform,crange,←hp,←hpc,←hpq,←hpr,←hE,←hB,←hbee,←hkee] at hR
 rw [←hp] at hw1
 rw [←hpc] at hwc
 rw [←hpq] at hwq
 rw [←hpr] at hwr
 rw [←hB] at hba
 rw [←hbee] at hbe
 rw [←hkee] at hke
 unfold cnamed at hE
 have hce:=hE.symm
 generalize nmC k c=c' at*
 generalize nmC k q=q' at*
 generalize nmY k y=y' at*
 generalize nmX k x=x' at*
 generalize nmR k r=r' at*
 have HR:=Lib.hid hR
 clear hp hpc hpq hpr hE hB hbee hkee hR hT
 obtain ⟨D,hD⟩:∃D,D=(!p|| !E||(!B&&(c==0||q==0))):=⟨_,rfl⟩
 have HD:=Lib.hid hD
 have Hbe:=Lib.hid hbe
 have Hke:=Lib.hid hke
 clear hD hbe hke
 go_enter Tryd.func69,Tryd.ntmps69
 go_upto_region 1 with fail
 go_cut [3] (fun s3 wx=>s3= .bool D∧Below w.heap.size w wx∧w.heap.size<wx.heap.size∧wx.cell? ⟨w.heap.size,0,none⟩=some (.int .i64 k)∧wx.cell? ⟨w.heap.size,1,none⟩=some (.int .i64 c)∧wx.cell? ⟨w.heap.size,2,none⟩=some (.int .i64 q)∧wx.cell? ⟨w.heap.size,3,none⟩=some (.string y)∧wx.cell? ⟨w.heap.size,4,none⟩=some (.string x)∧wx.cell? ⟨w.heap.size,5,none⟩=some (.int .i64 r))
 case first=>
  cases p
  ·have hpre:=below_one (w:=w) (.cells #[.int .i64 k,.int .i64 c,.int .i64 q,.string y,.string x,.int .i64 r] 45)
   have m0:(w.alloc (.cells #[.int .i64 k,.int .i64 c,.int .i64 q,.string y,.string x,.int .i64 r] 45)).cell? ⟨w.heap.size,0,none⟩=some (.int .i64 k):=(new_cell w #[.int .i64 k,.int .i64 c,.int .i64 q,.string y,.string x,.int .i64 r] 45 0 rfl).1
   have m1:(w.alloc (.cells #[.int .i64 k,.int .i64 c,.int .i64 q,.string y,.string x,.int .i64 r] 45)).cell? ⟨w.heap.size,1,none⟩=some (.int .i64 c):=(new_cell w #[.int .i64 k,.int .i64 c,.int .i64 q,.string y,.string x,.int .i64 r] 45 1 rfl).1
   have m2:(w.alloc (.cells #[.int .i64 k,.int .i64 c,.int .i64 q,.string y,.string x,.int .i64 r] 45)).cell? ⟨w.heap.size,2,none⟩=some (.int .i64 q):=(new_cell w #[.int .i64 k,.int .i64 c,.int .i64 q,.string y,.string x,.int .i64 r] 45 2 rfl).1
   have m3:(w.alloc (.cells #[.int .i64 k,.int .i64 c,.int .i64 q,.string y,.string x,.int .i64 r] 45)).cell? ⟨w.heap.size,3,none⟩=some (.string y):=(new_cell w #[.int .i64 k,.int .i64 c,.int .i64 q,.string y,.string x,.int .i64 r] 45 3 rfl).1
   have m4:(w.alloc (.cells #[.int .i64 k,.int .i64 c,.int .i64 q,.string y,.string x,.int .i64 r] 45)).cell? ⟨w.heap.size,4,none⟩=some (.string x):=(new_cell w #[.int .i64 k,.int .i64 c,.int .i64 q,.string y,.string x,.int .i64 r] 45 4 rfl).1
   have m5:(w.alloc (.cells #[.int .i64 k,.int .i64 c,.int .i64 q,.string y,.string x,.int .i64 r] 45)).cell? ⟨w.heap.size,5,none⟩=some (.int .i64 r):=(new_cell w #[.int .i64 k,.int .i64 c,.int .i64 q,.string y,.string x,.int .i64 r] 45 5 rfl).1
   first|(go_region_law (first|(go_simp;go_at_call 87;(with_reducible refine (hw1 _).mono ?_);rintro e w1 ⟨rfl,rfl⟩)|(go_simp;go_at_call 88;(with_reducible refine (hnm _).mono ?_);rintro e w1 ⟨rfl,hb1⟩;have hz1:=hb1.size;(try simp at hz1);have m0:=cell_keep hb1 m0;have m1:=cell_keep hb1 m1;have m2:=cell_keep hb1 m2;have m3:=cell_keep hb1 m3;have m4:=cell_keep hb1 m4;have m5:=cell_keep hb1 m5)|(go_simp;go_at_call 89;(with_reducible refine (hba _).mono ?_);rintro e w1 ⟨rfl,hb1⟩;have hz1:=hb1.size;(try simp at hz1);have m0:=cell_keep hb1 m0;have m1:=cell_keep hb1 m1;have m2:=cell_keep hb1 m2;have m3:=cell_keep hb1 m3;have m4:=cell_keep hb1 m4;have m5:=cell_keep hb1 m5)))|fail
   all_goals
    go_wp2_with fail
    go_meet
    refine ⟨by rw [HD.out];simp [*],blw,by first|omega|(simp;done)|(simp;omega),?_⟩
    (repeat' apply And.intro) <;> (first|with_reducible assumption|assumption)
  ·cases E
   ·have hpre:=below_one (w:=w) (.cells #[.int .i64 k,.int .i64 c,.int .i64 q,.string y,.string x,.int .i64 r] 45)
    have m0:(w.alloc (.cells #[.int .i64 k,.int .i64 c,.int .i64 q,.string y,.string x,.int .i64 r] 45)).cell? ⟨w.heap.size,0,none⟩=some (.int .i64 k):=(new_cell w #[.int .i64 k,.int .i64 c,.int .i64 q,.string y,.string x,.int .i64 r] 45 0 rfl).1
    have m1:(w.alloc (.cells #[.int .i64 k,.int .i64 c,.int .i64 q,.string y,.string x,.int .i64 r] 45)).cell? ⟨w.heap.size,1,none⟩=some (.int .i64 c):=(new_cell w #[.int .i64 k,.int .i64 c,.int .i64 q,.string y,.string x,.int .i64 r] 45 1 rfl).1
    have m2:(w.alloc (.cells #[.int .i64 k,.int .i64 c,.int .i64 q,.string y,.string x,.int .i64 r] 45)).cell? ⟨w.heap.size,2,none⟩=some (.int .i64 q):=(new_cell w #[.int .i64 k,.int .i64 c,.int .i64 q,.string y,.string x,.int .i64 r] 45 2 rfl).1
    have m3:(w.alloc (.cells #[.int .i64 k,.int .i64 c,.int .i64 q,.string y,.string x,.int .i64 r] 45)).cell? ⟨w.heap.size,3,none⟩=some (.string y):=(new_cell w #[.int .i64 k,.int .i64 c,.int .i64 q,.string y,.string x,.int .i64 r] 45 3 rfl).1
    have m4:(w.alloc (.cells #[.int .i64 k,.int .i64 c,.int .i64 q,.string y,.string x,.int .i64 r] 45)).cell? ⟨w.heap.size,4,none⟩=some (.string x):=(new_cell w #[.int .i64 k,.int .i64 c,.int .i64 q,.string y,.string x,.int .i64 r] 45 4 rfl).1
    have m5:(w.alloc (.cells #[.int .i64 k,.int .i64 c,.int .i64 q,.string y,.string x,.int .i64 r] 45)).cell? ⟨w.heap.size,5,none⟩=some (.int .i64 r):=(new_cell w #[.int .i64 k,.int .i64 c,.int .i64 q,.string y,.string x,.int .i64 r] 45 5 rfl).1
    first|(go_region_law (first|(go_simp;go_at_call 87;(with_reducible refine (hw1 _).mono ?_);rintro e w1 ⟨rfl,rfl⟩)|(go_simp;go_at_call 88;(with_reducible refine (hnm _).mono ?_);rintro e w1 ⟨rfl,hb1⟩;have hz1:=hb1.size;(try simp at hz1);have m0:=cell_keep hb1 m0;have m1:=cell_keep hb1 m1;have m2:=cell_keep hb1 m2;have m3:=cell_keep hb1 m3;have m4:=cell_keep hb1 m4;have m5:=cell_keep hb1 m5)|(go_simp;go_at_call 89;(with_reducible refine (hba _).mono ?_);rintro e w1 ⟨rfl,hb1⟩;have hz1:=hb1.size;(try simp at hz1);have m0:=cell_keep hb1 m0;have m1:=cell_keep hb1 m1;have m2:=cell_keep hb1 m2;have m3:=cell_keep hb1 m3;have m4:=cell_keep hb1 m4;have m5:=cell_keep hb1 m5)))|fail
    all_goals
     go_wp2_with fail
     go_meet
     refine ⟨by rw [HD.out];simp [*],blw,by first|omega|(simp;done)|(simp;omega),?_⟩
     (repeat' apply And.intro) <;> (first|with_reducible assumption|assumption)
   ·cases B
    ·by_cases hc0:c=0
     ·have hc0':(c==(0:Int))=true:=by simp [hc0]
      clear hc0
      have hpre:=below_one (w:=w) (.cells #[.int .i64 k,.int .i64 c,.int .i64 q,.string y,.string x,.int .i64 r] 45)
      have m0:(w.alloc (.cells #[.int .i64 k,.int .i64 c,.int .i64 q,.string y,.string x,.int .i64 r] 45)).cell? ⟨w.heap.size,0,none⟩=some (.int .i64 k):=(new_cell w #[.int .i64 k,.int .i64 c,.int .i64 q,.string y,.string x,.int .i64 r] 45 0 rfl).1
      have m1:(w.alloc (.cells #[.int .i64 k,.int .i64 c,.int .i64 q,.string y,.string x,.int .i64 r] 45)).cell? ⟨w.heap.size,1,none⟩=some (.int .i64 c):=(new_cell w #[.int .i64 k,.int .i64 c,.int .i64 q,.string y,.string x,.int .i64 r] 45 1 rfl).1
      have m2:(w.alloc (.cells #[.int .i64 k,.int .i64 c,.int .i64 q,.string y,.string x,.int .i64 r] 45)).cell? ⟨w.heap.size,2,none⟩=some (.int .i64 q):=(new_cell w #[.int .i64 k,.int .i64 c,.int .i64 q,.string y,.string x,.int .i64 r] 45 2 rfl).1
      have m3:(w.alloc (.cells #[.int .i64 k,.int .i64 c,.int .i64 q,.string y,.string x,.int .i64 r] 45)).cell? ⟨w.heap.size,3,none⟩=some (.string y):=(new_cell w #[.int .i64 k,.int .i64 c,.int .i64 q,.string y,.string x,.int .i64 r] 45 3 rfl).1
      have m4:(w.alloc (.cells #[.int .i64 k,.int .i64 c,.int .i64 q,.string y,.string x,.int .i64 r] 45)).cell? ⟨w.heap.size,4,none⟩=some (.string x):=(new_cell w #[.int .i64 k,.int .i64 c,.int .i64 q,.string y,.string x,.int .i64 r] 45 4 rfl).1
      have m5:(w.alloc (.cells #[.int .i64 k,.int .i64 c,.int .i64 q,.string y,.string x,.int .i64 r] 45)).cell? ⟨w.heap.size,5,none⟩=some (.int .i64 r):=(new_cell w #[.int .i64 k,.int .i64 c,.int .i64 q,.string y,.string x,.int .i64 r] 45 5 rfl).1
      first|(go_region_law (first|(go_simp;go_at_call 87;(with_reducible refine (hw1 _).mono ?_);rintro e w1 ⟨rfl,rfl⟩)|(go_simp;go_at_call 88;(with_reducible refine (hnm _).mono ?_);rintro e w1 ⟨rfl,hb1⟩;have hz1:=hb1.size;(try simp at hz1);have m0:=cell_keep hb1 m0;have m1:=cell_keep hb1 m1;have m2:=cell_keep hb1 m2;have m3:=cell_keep hb1 m3;have m4:=cell_keep hb1 m4;have m5:=cell_keep hb1 m5)|(go_simp;go_at_call 89;(with_reducible refine (hba _).mono ?_);rintro e w1 ⟨rfl,hb1⟩;have hz1:=hb1.size;(try simp at hz1);have m0:=cell_keep hb1 m0;have m1:=cell_keep hb1 m1;have m2:=cell_keep hb1 m2;have m3:=cell_keep hb1 m3;have m4:=cell_keep hb1 m4;have m5:=cell_keep hb1 m5)))|fail
      all_goals
       go_wp2_with fail
       go_meet
       refine ⟨by rw [HD.out];simp [*],blw,by first|omega|(simp;done)|(simp;omega),?_⟩
       (repeat' apply And.intro) <;> (first|with_reducible assumption|assumption)
     ·have hc0':(c==(0:Int))=false:=by simp [hc0]
      by_cases hq0:q=0
      ·have hq0':(q==(0:Int))=true:=by simp [hq0]
       clear hq0
       have hpre:=below_one (w:=w) (.cells #[.int .i64 k,.int .i64 c,.int .i64 q,.string y,.string x,.int .i64 r] 45)
       have m0:(w.alloc (.cells #[.int .i64 k,.int .i64 c,.int .i64 q,.string y,.string x,.int .i64 r] 45)).cell? ⟨w.heap.size,0,none⟩=some (.int .i64 k):=(new_cell w #[.int .i64 k,.int .i64 c,.int .i64 q,.string y,.string x,.int .i64 r] 45 0 rfl).1
       have m1:(w.alloc (.cells #[.int .i64 k,.int .i64 c,.int .i64 q,.string y,.string x,.int .i64 r] 45)).cell? ⟨w.heap.size,1,none⟩=some (.int .i64 c):=(new_cell w #[.int .i64 k,.int .i64 c,.int .i64 q,.string y,.string x,.int .i64 r] 45 1 rfl).1
       have m2:(w.alloc (.cells #[.int .i64 k,.int .i64 c,.int .i64 q,.string y,.string x,.int .i64 r] 45)).cell? ⟨w.heap.size,2,none⟩=some (.int .i64 q):=(new_cell w #[.int .i64 k,.int .i64 c,.int .i64 q,.string y,.string x,.int .i64 r] 45 2 rfl).1
       have m3:(w.alloc (.cells #[.int .i64 k,.int .i64 c,.int .i64 q,.string y,.string x,.int .i64 r] 45)).cell? ⟨w.heap.size,3,none⟩=some (.string y):=(new_cell w #[.int .i64 k,.int .i64 c,.int .i64 q,.string y,.string x,.int .i64 r] 45 3 rfl).1
       have m4:(w.alloc (.cells #[.int .i64 k,.int .i64 c,.int .i64 q,.string y,.string x,.int .i64 r] 45)).cell? ⟨w.heap.size,4,none⟩=some (.string x):=(new_cell w #[.int .i64 k,.int .i64 c,.int .i64 q,.string y,.string x,.int .i64 r] 45 4 rfl).1
       have m5:(w.alloc (.cells #[.int .i64 k,.int .i64 c,.int .i64 q,.string y,.string x,.int .i64 r] 45)).cell? ⟨w.heap.size,5,none⟩=some (.int .i64 r):=(new_cell w #[.int .i64 k,.int .i64 c,.int .i64 q,.string y,.string x,.int .i64 r] 45 5 rfl).1
       first|(go_region_law (first|(go_simp;go_at_call 87;(with_reducible refine (hw1 _).mono ?_);rintro e w1 ⟨rfl,rfl⟩)|(go_simp;go_at_call 88;(with_reducible refine (hnm _).mono ?_);rintro e w1 ⟨rfl,hb1⟩;have hz1:=hb1.size;(try simp at hz1);have m0:=cell_keep hb1 m0;have m1:=cell_keep hb1 m1;have m2:=cell_keep hb1 m2;have m3:=cell_keep hb1 m3;have m4:=cell_keep hb1 m4;have m5:=cell_keep hb1 m5)|(go_simp;go_at_call 89;(with_reducible refine (hba _).mono ?_);rintro e w1 ⟨rfl,hb1⟩;have hz1:=hb1.size;(try simp at hz1);have m0:=cell_keep hb1 m0;have m1:=cell_keep hb1 m1;have m2:=cell_keep hb1 m2;have m3:=cell_keep hb1 m3;have m4:=cell_keep hb1 m4;have m5:=cell_keep hb1 m5)))|fail
       all_goals
        go_wp2_with fail
        go_meet
        refine ⟨by rw [HD.out];simp [*],blw,by first|omega|(simp;done)|(simp;omega),?_⟩
        (repeat' apply And.intro) <;> (first|with_reducible assumption|assumption)
      ·have hq0':(q==(0:Int))=false:=by simp [hq0]
       have hpre:=below_one (w:=w) (.cells #[.int .i64 k,.int .i64 c,.int .i64 q,.string y,.string x,.int .i64 r] 45)
       have m0:(w.alloc (.cells #[.int .i64 k,.int .i64 c,.int .i64 q,.string y,.string x,.int .i64 r] 45)).cell? ⟨w.heap.size,0,none⟩=some (.int .i64 k):=(new_cell w #[.int .i64 k,.int .i64 c,.int .i64 q,.string y,.string x,.int .i64 r] 45 0 rfl).1
       have m1:(w.alloc (.cells #[.int .i64 k,.int .i64 c,.int .i64 q,.string y,.string x,.int .i64 r] 45)).cell? ⟨w.heap.size,1,none⟩=some (.int .i64 c):=(new_cell w #[.int .i64 k,.int .i64 c,.int .i64 q,.string y,.string x,.int .i64 r] 45 1 rfl).1
       have m2:(w.alloc (.cells #[.int .i64 k,.int .i64 c,.int .i64 q,.string y,.string x,.int .i64 r] 45)).cell? ⟨w.heap.size,2,none⟩=some (.int .i64 q):=(new_cell w #[.int .i64 k,.int .i64 c,.int .i64 q,.string y,.string x,.int .i64 r] 45 2 rfl).1
       have m3:(w.alloc (.cells #[.int .i64 k,.int .i64 c,.int .i64 q,.string y,.string x,.int .i64 r] 45)).cell? ⟨w.heap.size,3,none⟩=some (.string y):=(new_cell w #[.int .i64 k,.int .i64 c,.int .i64 q,.string y,.string x,.int .i64 r] 45 3 rfl).1
       have m4:(w.alloc (.cells #[.int .i64 k,.int .i64 c,.int .i64 q,.string y,.string x,.int .i64 r] 45)).cell? ⟨w.heap.size,4,none⟩=some (.string x):=(new_cell w #[.int .i64 k,.int .i64 c,.int .i64 q,.string y,.string x,.int .i64 r] 45 4 rfl).1
       have m5:(w.alloc (.cells #[.int .i64 k,.int .i64 c,.int .i64 q,.string y,.string x,.int .i64 r] 45)).cell? ⟨w.heap.size,5,none⟩=some (.int .i64 r):=(new_cell w #[.int .i64 k,.int .i64 c,.int .i64 q,.string y,.string x,.int .i64 r] 45 5 rfl).1
       first|(go_region_law (first|(go_simp;go_at_call 87;(with_reducible refine (hw1 _).mono ?_);rintro e w1 ⟨rfl,rfl⟩)|(go_simp;go_at_call 88;(with_reducible refine (hnm _).mono ?_);rintro e w1 ⟨rfl,hb1⟩;have hz1:=hb1.size;(try simp at hz1);have m0:=cell_keep hb1 m0;have m1:=cell_keep hb1 m1;have m2:=cell_keep hb1 m2;have m3:=cell_keep hb1 m3;have m4:=cell_keep hb1 m4;have m5:=cell_keep hb1 m5)|(go_simp;go_at_call 89;(with_reducible refine (hba _).mono ?_);rintro e w1 ⟨rfl,hb1⟩;have hz1:=hb1.size;(try simp at hz1);have m0:=cell_keep hb1 m0;have m1:=cell_keep hb1 m1;have m2:=cell_keep hb1 m2;have m3:=cell_keep hb1 m3;have m4:=cell_keep hb1 m4;have m5:=cell_keep hb1 m5)))|fail
       all_goals
        go_wp2_with fail
        go_meet
        refine ⟨by rw [HD.out];simp [*],blw,by first|omega|(simp;done)|(simp;omega),?_⟩
        (repeat' apply And.intro) <;> (first|with_reducible assumption|assumption)
    ·have hpre:=below_one (w:=w) (.cells #[.int .i64 k,.int .i64 c,.int .i64 q,.string y,.string x,.int .i64 r] 45)
     have m0:(w.alloc (.cells #[.int .i64 k,.int .i64 c,.int .i64 q,.string y,.string x,.int .i64 r] 45)).cell? ⟨w.heap.size,0,none⟩=some (.int .i64 k):=(new_cell w #[.int .i64 k,.int .i64 c,.int .i64 q,.string y,.string x,.int .i64 r] 45 0 rfl).1
     have m1:(w.alloc (.cells #[.int .i64 k,.int .i64 c,.int .i64 q,.string y,.string x,.int .i64 r] 45)).cell? ⟨w.heap.size,1,none⟩=some (.int .i64 c):=(new_cell w #[.int .i64 k,.int .i64 c,.int .i64 q,.string y,.string x,.int .i64 r] 45 1 rfl).1
     have m2:(w.alloc (.cells #[.int .i64 k,.int .i64 c,.int .i64 q,.string y,.string x,.int .i64 r] 45)).cell? ⟨w.heap.size,2,none⟩=some (.int .i64 q):=(new_cell w #[.int .i64 k,.int .i64 c,.int .i64 q,.string y,.string x,.int .i64 r] 45 2 rfl).1
     have m3:(w.alloc (.cells #[.int .i64 k,.int .i64 c,.int .i64 q,.string y,.string x,.int .i64 r] 45)).cell? ⟨w.heap.size,3,none⟩=some (.string y):=(new_cell w #[.int .i64 k,.int .i64 c,.int .i64 q,.string y,.string x,.int .i64 r] 45 3 rfl).1
     have m4:(w.alloc (.cells #[.int .i64 k,.int .i64 c,.int .i64 q,.string y,.string x,.int .i64 r] 45)).cell? ⟨w.heap.size,4,none⟩=some (.string x):=(new_cell w #[.int .i64 k,.int .i64 c,.int .i64 q,.string y,.string x,.int .i64 r] 45 4 rfl).1
     have m5:(w.alloc (.cells #[.int .i64 k,.int .i64 c,.int .i64 q,.string y,.string x,.int .i64 r] 45)).cell? ⟨w.heap.size,5,none⟩=some (.int .i64 r):=(new_cell w #[.int .i64 k,.int .i64 c,.int .i64 q,.string y,.string x,.int .i64 r] 45 5 rfl).1
     first|(go_region_law (first|(go_simp;go_at_call 87;(with_reducible refine (hw1 _).mono ?_);rintro e w1 ⟨rfl,rfl⟩)|(go_simp;go_at_call 88;(with_reducible refine (hnm _).mono ?_);rintro e w1 ⟨rfl,hb1⟩;have hz1:=hb1.size;(try simp at hz1);have m0:=cell_keep hb1 m0;have m1:=cell_keep hb1 m1;have m2:=cell_keep hb1 m2;have m3:=cell_keep hb1 m3;have m4:=cell_keep hb1 m4;have m5:=cell_keep hb1 m5)|(go_simp;go_at_call 89;(with_reducible refine (hba _).mono ?_);rintro e w1 ⟨rfl,hb1⟩;have hz1:=hb1.size;(try simp at hz1);have m0:=cell_keep hb1 m0;have m1:=cell_keep hb1 m1;have m2:=cell_keep hb1 m2;have m3:=cell_keep hb1 m3;have m4:=cell_keep hb1 m4;have m5:=cell_keep hb1 m5)))|fail
     all_goals
      go_wp2_with fail
      go_meet
      refine ⟨by rw [HD.out];simp [*],blw,by first|omega|(simp;done)|(simp;omega),?_⟩
      (repeat' apply And.intro) <;> (first|with_reducible assumption|assumption)
 case rest=>
  obtain ⟨rfl,hbx,hzx,m0,m1,m2,m3,m4,m5⟩:=hcut
  have hr:=HR.out
  rw [←HD.out] at hr
  have HR2:=Lib.hid hr
  clear hr hw1 hnm hce HR HD
  cases D
  ·cases pc
   ·go_wp2_with fail
    refine (hwc _).mono ?_
    rintro e w1 ⟨rfl,rfl⟩
    go_wp2_with fail
    go_ret
    exact ⟨by rw [HR2.out];simp [*],blw⟩
   ·cases pq
    ·go_wp2_with fail
     refine (hwc _).mono ?_
     rintro e w1 ⟨rfl,rfl⟩
     go_wp2_with fail
     refine (hwq _).mono ?_
     rintro e w1 ⟨rfl,rfl⟩
     go_wp2_with fail
     go_ret
     exact ⟨by rw [HR2.out];simp [*],blw⟩
    ·cases pr
     ·go_wp2_with fail
      refine (hwc _).mono ?_
      rintro e w1 ⟨rfl,rfl⟩
      go_wp2_with fail
      refine (hwq _).mono ?_
      rintro e w1 ⟨rfl,rfl⟩
      go_wp2_with fail
      refine (hwr _).mono ?_
      rintro e w1 ⟨rfl,rfl⟩
      go_wp2_with fail
      go_ret
      exact ⟨by rw [HR2.out];simp [*],blw⟩
     ·by_cases hx2:1024<x.size
      ·have hx2':(1024:Int)<(x.size:Int):=by omega
       go_wp2_with fail
       refine (hwc _).mono ?_
       rintro e w1 ⟨rfl,rfl⟩
       go_wp2_with fail
       refine (hwq _).mono ?_
       rintro e w1 ⟨rfl,rfl⟩
       go_wp2_with fail
       refine (hwr _).mono ?_
       rintro e w1 ⟨rfl,rfl⟩
       go_wp2_with fail
       go_ret
       exact ⟨by rw [HR2.out];simp [*],blw⟩
      ·have hx2':¬(1024:Int)<(x.size:Int):=by omega
       cases B
       ·by_cases h5:k=5
        ·subst h5
         go_wp2_with fail
         refine (hwc _).mono ?_
         rintro e w1 ⟨rfl,rfl⟩
         go_wp2_with fail
         refine (hwq _).mono ?_
         rintro e w1 ⟨rfl,rfl⟩
         go_wp2_with fail
         refine (hwr _).mono ?_
         rintro e w1 ⟨rfl,rfl⟩
         go_wp2_with fail
         refine (hba _).mono ?_
         rintro e w2 ⟨rfl,hbw2⟩
         have zw2:=hbw2.size
         replace m0:=cell_keep hbw2 m0
         replace m1:=cell_keep hbw2 m1
         replace m2:=cell_keep hbw2 m2
         replace m3:=cell_keep hbw2 m3
         replace m4:=cell_keep hbw2 m4
         replace m5:=cell_keep hbw2 m5
         have hb2:=below_call hbx hbw2 hbx.size
         go_wp2_with fail
         refine (Hbe.out _ hb2).mono ?_
         rintro e w3 ⟨rfl,hbw3⟩
         go_wp2_with fail
         go_ret
         exact ⟨by rw [HR2.out];simp [*],blw⟩
        ·have h5':(k==(5:Int))=false:=by simp [h5]
         go_wp2_with fail
         refine (hwc _).mono ?_
         rintro e w1 ⟨rfl,rfl⟩
         go_wp2_with fail
         refine (hwq _).mono ?_
         rintro e w1 ⟨rfl,rfl⟩
         go_wp2_with fail
         refine (hwr _).mono ?_
         rintro e w1 ⟨rfl,rfl⟩
         go_wp2_with fail
         refine (hba _).mono ?_
         rintro e w2 ⟨rfl,hbw2⟩
         have zw2:=hbw2.size
         replace m0:=cell_keep hbw2 m0
         replace m1:=cell_keep hbw2 m1
         replace m2:=cell_keep hbw2 m2
         replace m3:=cell_keep hbw2 m3
         replace m4:=cell_keep hbw2 m4
         replace m5:=cell_keep hbw2 m5
         have hb2:=below_call hbx hbw2 hbx.size
         go_wp2_with fail
         refine (Hke.out _ hb2).mono ?_
         rintro e w3 ⟨rfl,hbw3⟩
         go_wp2_with fail
         go_ret
         exact ⟨by rw [HR2.out];simp [*],blw⟩
       ·go_wp2_with fail
        refine (hwc _).mono ?_
        rintro e w1 ⟨rfl,rfl⟩
        go_wp2_with fail
        refine (hwq _).mono ?_
        rintro e w1 ⟨rfl,rfl⟩
        go_wp2_with fail
        refine (hwr _).mono ?_
        rintro e w1 ⟨rfl,rfl⟩
        go_wp2_with fail
        refine (hba _).mono ?_
        rintro e w2 ⟨rfl,hbw2⟩
        have zw2:=hbw2.size
        replace m0:=cell_keep hbw2 m0
        replace m1:=cell_keep hbw2 m1
        replace m2:=cell_keep hbw2 m2
        replace m3:=cell_keep hbw2 m3
        replace m4:=cell_keep hbw2 m4
        replace m5:=cell_keep hbw2 m5
        have hb2:=below_call hbx hbw2 hbx.size
        go_wp2_with fail
        go_ret
        exact ⟨by rw [HR2.out];simp [*],blw⟩
  ·go_wp2_with fail
   go_ret
   exact ⟨by rw [HR2.out];simp [*],blw⟩
end Go.Proofs.YtlolnakeancenaaDoor
