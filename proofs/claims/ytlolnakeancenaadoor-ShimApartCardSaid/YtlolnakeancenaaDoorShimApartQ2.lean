/- The walks of package cmd: within, bare, named. -/
import Derived.Test.YtlolnakeancenaaDoorShimApartQ0
namespace Go.Proofs.YtlolnakeancenaaDoor
open Go.RowKit
set_option linter.unusedVariables false
set_option linter.unusedSimpArgs false
set_option maxRecDepth 20000
attribute [local go_sem ↓] Go.wp_at_zero Go.wp_at_succ
attribute [local go_sem] World.cell?_alloc_some frozen_alloc_some
theorem within_any (n m:Int) (w:World):Calls Tryd.prog 87 #[.int .i64 n,.int .i64 m] w (fun e w'=>e= .returned (.bool (decide (0≤n∧n≤m)))∧w'=w):=by
 by_cases h0:0≤n
 ·by_cases h1:n≤m
  ·go_enter Tryd.func87,Tryd.ntmps87
   go_wp2_with fail
   go_ret
   exact ⟨by simp;omega,rfl⟩
  ·go_enter Tryd.func87,Tryd.ntmps87
   go_wp2_with fail
   go_ret
   exact ⟨by simp;omega,rfl⟩
 ·go_enter Tryd.func87,Tryd.ntmps87
  go_wp2_with fail
  go_ret
  exact ⟨by simp;omega,rfl⟩
def cbare (k:Int):Bool:=k==0||k==6
theorem bare_any (k c q:Int) (y x:ByteArray) (r:Int) (w:World):
  Calls Tryd.prog 89 #[.agg #[.int .i64 k,.int .i64 c,.int .i64 q,.string y,.string x,.int .i64 r]] w (Gives w (.bool (cbare k))):=by
 unfold cbare
 by_cases h0:k=0
 ·subst h0
  go_enter Tryd.func89,Tryd.ntmps89
  go_wp2_with fail
  go_ret
  exact ⟨rfl,blw⟩
 ·have h0':(k==(0:Int))=false:=by simp [h0]
  by_cases h6:k=6
  ·subst h6
   go_enter Tryd.func89,Tryd.ntmps89
   go_wp2_with fail
   go_ret
   exact ⟨rfl,blw⟩
  ·have h6':(k==(6:Int))=false:=by simp [h6]
   go_enter Tryd.func89,Tryd.ntmps89
   go_wp2_with fail
   go_ret
   exact ⟨by simp [*],blw⟩
/-- What a command's kind names alone. -/
def nmC (k c:Int):Int:=if k=4∨k=2∨k=1∨k=3∨k=5 then c else 0
def nmY (k:Int) (y:ByteArray):ByteArray:=if k=4∨k=2∨k=1∨k=3∨k=5 then y else ByteArray.empty
def nmX (k:Int) (x:ByteArray):ByteArray:=if k=4∨k=2 then x else ByteArray.empty
def nmR (k r:Int):Int:=if k=4 then r else 0
set_option maxHeartbeats 8000000 in
theorem named_any (k c q:Int) (y x:ByteArray) (r:Int) (w:World):
  Calls Tryd.prog 88 #[.agg #[.int .i64 k,.int .i64 c,.int .i64 q,.string y,.string x,.int .i64 r]] w (Gives w (.agg #[.int .i64 k,.int .i64 (nmC k c),.int .i64 (nmC k q),.string (nmY k y),.string (nmX k x),.int .i64 (nmR k r)])):=by
 by_cases k4:k=4
 ·subst k4
  have hE:Gives w (.agg #[.int .i64 4,.int .i64 (nmC 4 c),.int .i64 (nmC 4 q),.string (nmY 4 y),.string (nmX 4 x),.int .i64 (nmR 4 r)])=Gives w (.agg #[.int .i64 4,.int .i64 c,.int .i64 q,.string y,.string x,.int .i64 r]):=by simp [nmC,nmY,nmX,nmR]
  rw [hE]
  clear hE
  go_enter Tryd.func88,Tryd.ntmps88
  go_wp2_with fail
  go_region
  all_goals
   go_wp2_with fail
   refine bodyPost_ret (v:=.agg #[.int .i64 4,.int .i64 c,.int .i64 q,.string y,.string x,.int .i64 r]) (by simp [results,Tryd.results88,go_sem, *] <;> rfl) rfl ?_
   exact ⟨rfl,blw⟩
 ·have k4':(k==(4:Int))=false:=by simp [k4]
  by_cases k2:k=2
  ·subst k2
   have hE:Gives w (.agg #[.int .i64 2,.int .i64 (nmC 2 c),.int .i64 (nmC 2 q),.string (nmY 2 y),.string (nmX 2 x),.int .i64 (nmR 2 r)])=Gives w (.agg #[.int .i64 2,.int .i64 c,.int .i64 q,.string y,.string x,.int .i64 0]):=by simp [nmC,nmY,nmX,nmR]
   rw [hE]
   clear hE
   go_enter Tryd.func88,Tryd.ntmps88
   go_wp2_with fail
   go_region
   all_goals
    go_wp2_with fail
    refine bodyPost_ret (v:=.agg #[.int .i64 2,.int .i64 c,.int .i64 q,.string y,.string x,.int .i64 0]) (by simp [results,Tryd.results88,go_sem, *] <;> rfl) rfl ?_
    exact ⟨rfl,blw⟩
  ·have k2':(k==(2:Int))=false:=by simp [k2]
   by_cases k1:k=1
   ·subst k1
    have hE:Gives w (.agg #[.int .i64 1,.int .i64 (nmC 1 c),.int .i64 (nmC 1 q),.string (nmY 1 y),.string (nmX 1 x),.int .i64 (nmR 1 r)])=Gives w (.agg #[.int .i64 1,.int .i64 c,.int .i64 q,.string y,.string ByteArray.empty,.int .i64 0]):=by simp [nmC,nmY,nmX,nmR]
    rw [hE]
    clear hE
    go_enter Tryd.func88,Tryd.ntmps88
    go_wp2_with fail
    go_region
    all_goals
     go_wp2_with fail
     refine bodyPost_ret (v:=.agg #[.int .i64 1,.int .i64 c,.int .i64 q,.string y,.string ByteArray.empty,.int .i64 0]) (by simp [results,Tryd.results88,go_sem, *] <;> rfl) rfl ?_
     exact ⟨rfl,blw⟩
   ·have k1':(k==(1:Int))=false:=by simp [k1]
    by_cases k3:k=3
    ·subst k3
     have hE:Gives w (.agg #[.int .i64 3,.int .i64 (nmC 3 c),.int .i64 (nmC 3 q),.string (nmY 3 y),.string (nmX 3 x),.int .i64 (nmR 3 r)])=Gives w (.agg #[.int .i64 3,.int .i64 c,.int .i64 q,.string y,.string ByteArray.empty,.int .i64 0]):=by simp [nmC,nmY,nmX,nmR]
     rw [hE]
     clear hE
     go_enter Tryd.func88,Tryd.ntmps88
     go_wp2_with fail
     go_region
     all_goals
      go_wp2_with fail
      refine bodyPost_ret (v:=.agg #[.int .i64 3,.int .i64 c,.int .i64 q,.string y,.string ByteArray.empty,.int .i64 0]) (by simp [results,Tryd.results88,go_sem, *] <;> rfl) rfl ?_
      exact ⟨rfl,blw⟩
    ·have k3':(k==(3:Int))=false:=by simp [k3]
     by_cases k5:k=5
     ·subst k5
      have hE:Gives w (.agg #[.int .i64 5,.int .i64 (nmC 5 c),.int .i64 (nmC 5 q),.string (nmY 5 y),.string (nmX 5 x),.int .i64 (nmR 5 r)])=Gives w (.agg #[.int .i64 5,.int .i64 c,.int .i64 q,.string y,.string ByteArray.empty,.int .i64 0]):=by simp [nmC,nmY,nmX,nmR]
      rw [hE]
      clear hE
      go_enter Tryd.func88,Tryd.ntmps88
      go_wp2_with fail
      go_region
      all_goals
       go_wp2_with fail
       refine bodyPost_ret (v:=.agg #[.int .i64 5,.int .i64 c,.int .i64 q,.string y,.string ByteArray.empty,.int .i64 0]) (by simp [results,Tryd.results88,go_sem, *] <;> rfl) rfl ?_
       exact ⟨rfl,blw⟩
     ·have k5':(k==(5:Int))=false:=by simp [k5]
      have hE:Gives w (.agg #[.int .i64 k,.int .i64 (nmC k c),.int .i64 (nmC k q),.string (nmY k y),.string (nmX k x),.int .i64 (nmR k r)])=Gives w (.agg #[.int .i64 k,.int .i64 0,.int .i64 0,.string ByteArray.empty,.string ByteArray.empty,.int .i64 0]):=by simp [nmC,nmY,nmX,nmR,k4,k2,k1,k3,k5]
      rw [hE]
      clear hE
      go_enter Tryd.func88,Tryd.ntmps88
      go_wp2_with fail
      refine bodyPost_ret (v:=.agg #[.int .i64 k,.int .i64 0,.int .i64 0,.string ByteArray.empty,.string ByteArray.empty,.int .i64 0]) (by simp [results,Tryd.results88,go_sem, *] <;> rfl) rfl ?_
      exact ⟨rfl,blw⟩
end Go.Proofs.YtlolnakeancenaaDoor
