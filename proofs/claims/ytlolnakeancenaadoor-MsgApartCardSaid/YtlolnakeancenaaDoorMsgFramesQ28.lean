/- The walk of msg.plain. -/
import Derived.Test.YtlolnakeancenaaDoorMsgFramesQ20
import Derived.Test.YtlolnakeancenaaDoorMsgFramesQ1
import Derived.WalkKit
import Derived.WalkSpells
import Derived.WalkLawsBesides
import Derived.Deep.RegionHeld3
import Derived.Deep.DrawnRows
import Derived.Deep.DeepCutAuto
import Derived.Deep.DeepFit
import Derived.Lib.Hide
import Derived.BigQuiet
import Derived.Deep.QuietTactic
namespace Go.Proofs.YtlolnakeancenaaDoor
open Go.RowKit
set_option linter.unusedVariables false
set_option linter.unusedSimpArgs false
set_option maxRecDepth 20000
attribute [local go_sem ↓] Go.wp_at_zero Go.wp_at_succ
attribute [local go_sem] World.cell?_alloc_some frozen_alloc_some

theorem blk_drewp {w : World} {g : Nat} {t : TypeId} {cs : Array Value} (h : Blk w g t cs) : Blk w.drew g t cs := h.keep (Below.refl _ _).drew
/-- A message with what its kind has alone. -/
def plainF (f0 f1 f2 f3 f4 f5 : Bool) (a : MsgT) : MsgT :=
 ⟨a.k, if f0 then a.i else 0, if f0 then a.n else 0, if f1 then a.br else 0, if f1 then a.bb else 0, if f2 then a.tr else 0, if f2 then a.tb else 0, if f2 then a.st else 0,
  if f3 then a.ck else 0, if f3 then a.cc else 0, if f3 then a.cq else 0, if f3 then a.cy else ⟨#[]⟩, if f3 then a.cx else ⟨#[]⟩, if f3 then a.cr else 0,
  if f4 then a.A else none, if f4 then a.m else 0, if f4 then a.cap else 0, if f4 then a.sq else 0, if f4 then a.tg else 0, if f5 then a.ver else 0, if f4 then a.l else []⟩
def plainM (a : MsgT) : MsgT := plainF (kId a.k) (kBal a.k) (kSt a.k) (kCmd a.k a.st) (kAt a.k a.st) (kVer a.k) a
/-- The seven sets of what a message may have. -/
def flags7 (f0 f1 f2 f3 f4 f5 : Bool) : Prop :=
 (f0 = true ∧ f1 = true ∧ f2 = false ∧ f3 = true ∧ f4 = true ∧ f5 = false) ∨ (f0 = true ∧ f1 = true ∧ f2 = false ∧ f3 = false ∧ f4 = true ∧ f5 = false) ∨
 (f0 = true ∧ f1 = true ∧ f2 = false ∧ f3 = false ∧ f4 = false ∧ f5 = false) ∨ (f0 = true ∧ f1 = false ∧ f2 = false ∧ f3 = true ∧ f4 = true ∧ f5 = false) ∨
 (f0 = true ∧ f1 = true ∧ f2 = true ∧ f3 = true ∧ f4 = true ∧ f5 = false) ∨ (f0 = true ∧ f1 = true ∧ f2 = true ∧ f3 = false ∧ f4 = false ∧ f5 = false) ∨
 (f0 = false ∧ f1 = false ∧ f2 = false ∧ f3 = false ∧ f4 = false ∧ f5 = true)
theorem flags_of {k st : Int} (h : 1 ≤ k ∧ k < 10) : flags7 (kId k) (kBal k) (kSt k) (kCmd k st) (kAt k st) (kVer k) := by
 have hs : (st == 0) = true ∨ (st == 0) = false := by cases (st == 0) <;> simp
 have hk : k = 1 ∨ k = 2 ∨ k = 3 ∨ k = 4 ∨ k = 5 ∨ k = 6 ∨ k = 7 ∨ k = 8 ∨ k = 9 := by omega
 unfold flags7 kCmd kAt
 rcases hk with rfl | rfl | rfl | rfl | rfl | rfl | rfl | rfl | rfl <;> rcases hs with hs | hs <;> rw [hs] <;> decide
attribute [local go_sem ↓ high] loadVar_msg storeVar_msg msg_store_new
set_option maxHeartbeats 16000000 in
theorem plain10_any (M : MsgT) (w : World) (hk : 1 ≤ M.k ∧ M.k < 10) (hK : KindsAt w) : Calls Tryd.prog 43 #[M.v] w (Gives w (plainM M).v) := by
 have hof := fun W (h : Below w.heap.size w W) => of_any M W hk (hK.keep h)
 have hfl := flags_of (st := M.st) hk
 unfold plainM
 obtain ⟨k, i, n, br, bb, tr, tb, st, ck, cc, cq, cy, cx, cr, A, m, cap, sq, tg, ver, l⟩ := M
 simp only [MsgT.v] at hof hfl ⊢
 generalize kId k = f0 at *
 generalize kBal k = f1 at *
 generalize kSt k = f2 at *
 generalize kCmd k st = f3 at *
 generalize kAt k st = f4 at *
 generalize kVer k = f5 at *
 have Hof := Lib.hid hof
 have Hfl := Lib.hid hfl
 clear hof hfl hk hK
 obtain ⟨RES, hRES⟩ : ∃ v : Value, (plainF f0 f1 f2 f3 f4 f5 ⟨k, i, n, br, bb, tr, tb, st, ck, cc, cq, cy, cx, cr, A, m, cap, sq, tg, ver, l⟩).v = v := ⟨_, rfl⟩
 have HRES := Lib.hid hRES
 simp only [MsgT.v] at hRES
 rw [hRES]
 clear hRES
 have X : Blk ((w.alloc (.cells #[.int .i64 k, .int .i64 i, .int .i64 n, .int .i64 br, .int .i64 bb, .int .i64 tr, .int .i64 tb, .int .i64 st, .int .i64 ck, .int .i64 cc, .int .i64 cq, .string cy, .string cx, .int .i64 cr, .slice A m cap, .int .i64 sq, .int .i64 tg, .int .i64 ver] 50)).alloc (.cells #[.int .i64 0, .int .i64 0, .int .i64 0, .int .i64 0, .int .i64 0, .int .i64 0, .int .i64 0, .int .i64 0, .int .i64 0, .int .i64 0, .int .i64 0, .string ⟨#[]⟩, .string ⟨#[]⟩, .int .i64 0, .slice none 0 0, .int .i64 0, .int .i64 0, .int .i64 0] 50)) w.heap.size 50 #[.int .i64 k, .int .i64 i, .int .i64 n, .int .i64 br, .int .i64 bb, .int .i64 tr, .int .i64 tb, .int .i64 st, .int .i64 ck, .int .i64 cc, .int .i64 cq, .string cy, .string cx, .int .i64 cr, .slice A m cap, .int .i64 sq, .int .i64 tg, .int .i64 ver] := (Blk.new w _ _).alloc _
 have R : Blk ((w.alloc (.cells #[.int .i64 k, .int .i64 i, .int .i64 n, .int .i64 br, .int .i64 bb, .int .i64 tr, .int .i64 tb, .int .i64 st, .int .i64 ck, .int .i64 cc, .int .i64 cq, .string cy, .string cx, .int .i64 cr, .slice A m cap, .int .i64 sq, .int .i64 tg, .int .i64 ver] 50)).alloc (.cells #[.int .i64 0, .int .i64 0, .int .i64 0, .int .i64 0, .int .i64 0, .int .i64 0, .int .i64 0, .int .i64 0, .int .i64 0, .int .i64 0, .int .i64 0, .string ⟨#[]⟩, .string ⟨#[]⟩, .int .i64 0, .slice none 0 0, .int .i64 0, .int .i64 0, .int .i64 0] 50)) (w.heap.size + 1) 50 #[.int .i64 0, .int .i64 0, .int .i64 0, .int .i64 0, .int .i64 0, .int .i64 0, .int .i64 0, .int .i64 0, .int .i64 0, .int .i64 0, .int .i64 0, .string ⟨#[]⟩, .string ⟨#[]⟩, .int .i64 0, .slice none 0 0, .int .i64 0, .int .i64 0, .int .i64 0] := Blk.newAt (by simp)
 have kk : Below w.heap.size w ((w.alloc (.cells #[.int .i64 k, .int .i64 i, .int .i64 n, .int .i64 br, .int .i64 bb, .int .i64 tr, .int .i64 tb, .int .i64 st, .int .i64 ck, .int .i64 cc, .int .i64 cq, .string cy, .string cx, .int .i64 cr, .slice A m cap, .int .i64 sq, .int .i64 tg, .int .i64 ver] 50)).alloc (.cells #[.int .i64 0, .int .i64 0, .int .i64 0, .int .i64 0, .int .i64 0, .int .i64 0, .int .i64 0, .int .i64 0, .int .i64 0, .int .i64 0, .int .i64 0, .string ⟨#[]⟩, .string ⟨#[]⟩, .int .i64 0, .slice none 0 0, .int .i64 0, .int .i64 0, .int .i64 0] 50)) := blw
 go_enter Tryd.func43, Tryd.ntmps43
 go_upto_region 1 with fail
 refine wp_noPan ?_
 generalize hQQ : Exit.then _ _ = QQ
 have FIN : ∀ (W : World) (gh go : Nat), Below w.heap.size w W → Blk W w.heap.size 50 #[.int .i64 k, .int .i64 i, .int .i64 n, .int .i64 br, .int .i64 bb, .int .i64 tr, .int .i64 tb, .int .i64 st, .int .i64 ck, .int .i64 cc, .int .i64 cq, .string cy, .string cx, .int .i64 cr, .slice A m cap, .int .i64 sq, .int .i64 tg, .int .i64 ver] → Blk W (w.heap.size + 1) 50 #[.int .i64 0, .int .i64 0, .int .i64 0, .int .i64 0, .int .i64 0, .int .i64 0, .int .i64 0, .int .i64 0, .int .i64 0, .int .i64 0, .int .i64 0, .string ⟨#[]⟩, .string ⟨#[]⟩, .int .i64 0, .slice none 0 0, .int .i64 0, .int .i64 0, .int .i64 0] → Blk W gh 99 #[.bool f0, .bool f1, .bool f2, .bool f3, .bool f4, .bool f5] → Blk W go 50 #[.int .i64 k, .int .i64 0, .int .i64 0, .int .i64 0, .int .i64 0, .int .i64 0, .int .i64 0, .int .i64 0, .int .i64 0, .int .i64 0, .int .i64 0, .string ⟨#[]⟩, .string ⟨#[]⟩, .int .i64 0, .slice none 0 0, .int .i64 0, .int .i64 0, .int .i64 0] → w.heap.size + 2 ≤ gh → w.heap.size + 2 ≤ go → gh ≠ go →
   QQ .normal { tmps := #[.agg #[.int .i64 k, .int .i64 i, .int .i64 n, .int .i64 br, .int .i64 bb, .int .i64 tr, .int .i64 tb, .int .i64 st, .int .i64 ck, .int .i64 cc, .int .i64 cq, .string cy, .string cx, .int .i64 cr, .slice A m cap, .int .i64 sq, .int .i64 tg, .int .i64 ver], .pointer (some ⟨w.heap.size, 0, none⟩), .pointer (some ⟨w.heap.size + 1, 0, none⟩), .pointer (some ⟨gh, 0, none⟩), .pointer (some ⟨go, 0, none⟩), .agg #[.int .i64 k, .int .i64 i, .int .i64 n, .int .i64 br, .int .i64 bb, .int .i64 tr, .int .i64 tb, .int .i64 st, .int .i64 ck, .int .i64 cc, .int .i64 cq, .string cy, .string cx, .int .i64 cr, .slice A m cap, .int .i64 sq, .int .i64 tg, .int .i64 ver], .agg #[.bool f0, .bool f1, .bool f2, .bool f3, .bool f4, .bool f5], .pointer (some ⟨w.heap.size, 0, none⟩), .int .i64 k, .agg #[.int .i64 k, .int .i64 0, .int .i64 0, .int .i64 0, .int .i64 0, .int .i64 0, .int .i64 0, .int .i64 0, .int .i64 0, .int .i64 0, .int .i64 0, .string ⟨#[]⟩, .string ⟨#[]⟩, .int .i64 0, .slice none 0 0, .int .i64 0, .int .i64 0, .int .i64 0], undef, undef, undef, undef, undef, undef, undef, undef, undef, undef, undef, undef, undef, undef, undef, undef, undef, undef, undef, undef, undef, undef, undef, undef, undef, undef, undef, undef, undef, undef, undef, undef, undef, undef], defers := [] } W := by
  intro W gh go kk X R Hh O hgh hgo hne
  subst hQQ
  have ch := Hh.cell
  have cx' := X.cell
  have co := O.cell
  have fo := O.frozen
  have hgo' : go ≠ w.heap.size := by omega
  have hgo2 : go ≠ w.heap.size + 1 := by omega
  rcases Hfl.out with ⟨rfl, rfl, rfl, rfl, rfl, rfl⟩ | ⟨rfl, rfl, rfl, rfl, rfl, rfl⟩ | ⟨rfl, rfl, rfl, rfl, rfl, rfl⟩ | ⟨rfl, rfl, rfl, rfl, rfl, rfl⟩ | ⟨rfl, rfl, rfl, rfl, rfl, rfl⟩ | ⟨rfl, rfl, rfl, rfl, rfl, rfl⟩ | ⟨rfl, rfl, rfl, rfl, rfl, rfl⟩
  ·go_upto_region 14 with fail
   have O' : Blk (((((((((((((W.setCell ⟨go, 1, none⟩ (.int .i64 i)).setCell ⟨go, 2, none⟩ (.int .i64 n)).setCell ⟨go, 3, none⟩ (.int .i64 br)).setCell ⟨go, 4, none⟩ (.int .i64 bb)).setCell ⟨go, 8, none⟩ (.int .i64 ck)).setCell ⟨go, 9, none⟩ (.int .i64 cc)).setCell ⟨go, 10, none⟩ (.int .i64 cq)).setCell ⟨go, 11, none⟩ (.string cy)).setCell ⟨go, 12, none⟩ (.string cx)).setCell ⟨go, 13, none⟩ (.int .i64 cr)).setCell ⟨go, 14, none⟩ (.slice A m cap)).setCell ⟨go, 15, none⟩ (.int .i64 sq)).setCell ⟨go, 16, none⟩ (.int .i64 tg)) go 50 #[.int .i64 k, .int .i64 i, .int .i64 n, .int .i64 br, .int .i64 bb, .int .i64 0, .int .i64 0, .int .i64 0, .int .i64 ck, .int .i64 cc, .int .i64 cq, .string cy, .string cx, .int .i64 cr, .slice A m cap, .int .i64 sq, .int .i64 tg, .int .i64 0] := by
    have := (((((((((((((O.set_ 1 (.int .i64 i)).set_ 2 (.int .i64 n)).set_ 3 (.int .i64 br)).set_ 4 (.int .i64 bb)).set_ 8 (.int .i64 ck)).set_ 9 (.int .i64 cc)).set_ 10 (.int .i64 cq)).set_ 11 (.string cy)).set_ 12 (.string cx)).set_ 13 (.int .i64 cr)).set_ 14 (.slice A m cap)).set_ 15 (.int .i64 sq)).set_ 16 (.int .i64 tg))
    simpa using this
   have R' := (((((((((((((R.far (p := ⟨go, 1, none⟩) (Ne.symm hgo2) (.int .i64 i)).far (p := ⟨go, 2, none⟩) (Ne.symm hgo2) (.int .i64 n)).far (p := ⟨go, 3, none⟩) (Ne.symm hgo2) (.int .i64 br)).far (p := ⟨go, 4, none⟩) (Ne.symm hgo2) (.int .i64 bb)).far (p := ⟨go, 8, none⟩) (Ne.symm hgo2) (.int .i64 ck)).far (p := ⟨go, 9, none⟩) (Ne.symm hgo2) (.int .i64 cc)).far (p := ⟨go, 10, none⟩) (Ne.symm hgo2) (.int .i64 cq)).far (p := ⟨go, 11, none⟩) (Ne.symm hgo2) (.string cy)).far (p := ⟨go, 12, none⟩) (Ne.symm hgo2) (.string cx)).far (p := ⟨go, 13, none⟩) (Ne.symm hgo2) (.int .i64 cr)).far (p := ⟨go, 14, none⟩) (Ne.symm hgo2) (.slice A m cap)).far (p := ⟨go, 15, none⟩) (Ne.symm hgo2) (.int .i64 sq)).far (p := ⟨go, 16, none⟩) (Ne.symm hgo2) (.int .i64 tg))
   have X' := (((((((((((((X.far (p := ⟨go, 1, none⟩) (Ne.symm hgo') (.int .i64 i)).far (p := ⟨go, 2, none⟩) (Ne.symm hgo') (.int .i64 n)).far (p := ⟨go, 3, none⟩) (Ne.symm hgo') (.int .i64 br)).far (p := ⟨go, 4, none⟩) (Ne.symm hgo') (.int .i64 bb)).far (p := ⟨go, 8, none⟩) (Ne.symm hgo') (.int .i64 ck)).far (p := ⟨go, 9, none⟩) (Ne.symm hgo') (.int .i64 cc)).far (p := ⟨go, 10, none⟩) (Ne.symm hgo') (.int .i64 cq)).far (p := ⟨go, 11, none⟩) (Ne.symm hgo') (.string cy)).far (p := ⟨go, 12, none⟩) (Ne.symm hgo') (.string cx)).far (p := ⟨go, 13, none⟩) (Ne.symm hgo') (.int .i64 cr)).far (p := ⟨go, 14, none⟩) (Ne.symm hgo') (.slice A m cap)).far (p := ⟨go, 15, none⟩) (Ne.symm hgo') (.int .i64 sq)).far (p := ⟨go, 16, none⟩) (Ne.symm hgo') (.int .i64 tg))
   have H' := (((((((((((((Hh.far (p := ⟨go, 1, none⟩) hne (.int .i64 i)).far (p := ⟨go, 2, none⟩) hne (.int .i64 n)).far (p := ⟨go, 3, none⟩) hne (.int .i64 br)).far (p := ⟨go, 4, none⟩) hne (.int .i64 bb)).far (p := ⟨go, 8, none⟩) hne (.int .i64 ck)).far (p := ⟨go, 9, none⟩) hne (.int .i64 cc)).far (p := ⟨go, 10, none⟩) hne (.int .i64 cq)).far (p := ⟨go, 11, none⟩) hne (.string cy)).far (p := ⟨go, 12, none⟩) hne (.string cx)).far (p := ⟨go, 13, none⟩) hne (.int .i64 cr)).far (p := ⟨go, 14, none⟩) hne (.slice A m cap)).far (p := ⟨go, 15, none⟩) hne (.int .i64 sq)).far (p := ⟨go, 16, none⟩) hne (.int .i64 tg))
   have kk' := (((((((((((((kk.setCell (p := ⟨go, 1, none⟩) (by simp; omega) (.int .i64 i)).setCell (p := ⟨go, 2, none⟩) (by simp; omega) (.int .i64 n)).setCell (p := ⟨go, 3, none⟩) (by simp; omega) (.int .i64 br)).setCell (p := ⟨go, 4, none⟩) (by simp; omega) (.int .i64 bb)).setCell (p := ⟨go, 8, none⟩) (by simp; omega) (.int .i64 ck)).setCell (p := ⟨go, 9, none⟩) (by simp; omega) (.int .i64 cc)).setCell (p := ⟨go, 10, none⟩) (by simp; omega) (.int .i64 cq)).setCell (p := ⟨go, 11, none⟩) (by simp; omega) (.string cy)).setCell (p := ⟨go, 12, none⟩) (by simp; omega) (.string cx)).setCell (p := ⟨go, 13, none⟩) (by simp; omega) (.int .i64 cr)).setCell (p := ⟨go, 14, none⟩) (by simp; omega) (.slice A m cap)).setCell (p := ⟨go, 15, none⟩) (by simp; omega) (.int .i64 sq)).setCell (p := ⟨go, 16, none⟩) (by simp; omega) (.int .i64 tg))
   obtain ⟨W2, hW2⟩ : ∃ W2, (((((((((((((W.setCell ⟨go, 1, none⟩ (.int .i64 i)).setCell ⟨go, 2, none⟩ (.int .i64 n)).setCell ⟨go, 3, none⟩ (.int .i64 br)).setCell ⟨go, 4, none⟩ (.int .i64 bb)).setCell ⟨go, 8, none⟩ (.int .i64 ck)).setCell ⟨go, 9, none⟩ (.int .i64 cc)).setCell ⟨go, 10, none⟩ (.int .i64 cq)).setCell ⟨go, 11, none⟩ (.string cy)).setCell ⟨go, 12, none⟩ (.string cx)).setCell ⟨go, 13, none⟩ (.int .i64 cr)).setCell ⟨go, 14, none⟩ (.slice A m cap)).setCell ⟨go, 15, none⟩ (.int .i64 sq)).setCell ⟨go, 16, none⟩ (.int .i64 tg)) = W2 := ⟨_, rfl⟩
   rw [hW2] at O' R' X' H' kk' ⊢
   clear hW2
   clear O R X Hh kk ch cx' co fo X' H'
   have l1 := msg_load O'
   have l2 := msg_store R' rfl
   go_wp2_with fail
   refine bodyPost_ret (results_msg1 rfl rfl (R'.msgSet rfl)) rfl ?_
   exact ⟨by rw [← HRES.out]; rfl, below_msgSet kk' (Nat.le_succ _) _⟩
  ·go_upto_region 14 with fail
   have O' : Blk (((((((W.setCell ⟨go, 1, none⟩ (.int .i64 i)).setCell ⟨go, 2, none⟩ (.int .i64 n)).setCell ⟨go, 3, none⟩ (.int .i64 br)).setCell ⟨go, 4, none⟩ (.int .i64 bb)).setCell ⟨go, 14, none⟩ (.slice A m cap)).setCell ⟨go, 15, none⟩ (.int .i64 sq)).setCell ⟨go, 16, none⟩ (.int .i64 tg)) go 50 #[.int .i64 k, .int .i64 i, .int .i64 n, .int .i64 br, .int .i64 bb, .int .i64 0, .int .i64 0, .int .i64 0, .int .i64 0, .int .i64 0, .int .i64 0, .string ⟨#[]⟩, .string ⟨#[]⟩, .int .i64 0, .slice A m cap, .int .i64 sq, .int .i64 tg, .int .i64 0] := by
    have := (((((((O.set_ 1 (.int .i64 i)).set_ 2 (.int .i64 n)).set_ 3 (.int .i64 br)).set_ 4 (.int .i64 bb)).set_ 14 (.slice A m cap)).set_ 15 (.int .i64 sq)).set_ 16 (.int .i64 tg))
    simpa using this
   have R' := (((((((R.far (p := ⟨go, 1, none⟩) (Ne.symm hgo2) (.int .i64 i)).far (p := ⟨go, 2, none⟩) (Ne.symm hgo2) (.int .i64 n)).far (p := ⟨go, 3, none⟩) (Ne.symm hgo2) (.int .i64 br)).far (p := ⟨go, 4, none⟩) (Ne.symm hgo2) (.int .i64 bb)).far (p := ⟨go, 14, none⟩) (Ne.symm hgo2) (.slice A m cap)).far (p := ⟨go, 15, none⟩) (Ne.symm hgo2) (.int .i64 sq)).far (p := ⟨go, 16, none⟩) (Ne.symm hgo2) (.int .i64 tg))
   have X' := (((((((X.far (p := ⟨go, 1, none⟩) (Ne.symm hgo') (.int .i64 i)).far (p := ⟨go, 2, none⟩) (Ne.symm hgo') (.int .i64 n)).far (p := ⟨go, 3, none⟩) (Ne.symm hgo') (.int .i64 br)).far (p := ⟨go, 4, none⟩) (Ne.symm hgo') (.int .i64 bb)).far (p := ⟨go, 14, none⟩) (Ne.symm hgo') (.slice A m cap)).far (p := ⟨go, 15, none⟩) (Ne.symm hgo') (.int .i64 sq)).far (p := ⟨go, 16, none⟩) (Ne.symm hgo') (.int .i64 tg))
   have H' := (((((((Hh.far (p := ⟨go, 1, none⟩) hne (.int .i64 i)).far (p := ⟨go, 2, none⟩) hne (.int .i64 n)).far (p := ⟨go, 3, none⟩) hne (.int .i64 br)).far (p := ⟨go, 4, none⟩) hne (.int .i64 bb)).far (p := ⟨go, 14, none⟩) hne (.slice A m cap)).far (p := ⟨go, 15, none⟩) hne (.int .i64 sq)).far (p := ⟨go, 16, none⟩) hne (.int .i64 tg))
   have kk' := (((((((kk.setCell (p := ⟨go, 1, none⟩) (by simp; omega) (.int .i64 i)).setCell (p := ⟨go, 2, none⟩) (by simp; omega) (.int .i64 n)).setCell (p := ⟨go, 3, none⟩) (by simp; omega) (.int .i64 br)).setCell (p := ⟨go, 4, none⟩) (by simp; omega) (.int .i64 bb)).setCell (p := ⟨go, 14, none⟩) (by simp; omega) (.slice A m cap)).setCell (p := ⟨go, 15, none⟩) (by simp; omega) (.int .i64 sq)).setCell (p := ⟨go, 16, none⟩) (by simp; omega) (.int .i64 tg))
   obtain ⟨W2, hW2⟩ : ∃ W2, (((((((W.setCell ⟨go, 1, none⟩ (.int .i64 i)).setCell ⟨go, 2, none⟩ (.int .i64 n)).setCell ⟨go, 3, none⟩ (.int .i64 br)).setCell ⟨go, 4, none⟩ (.int .i64 bb)).setCell ⟨go, 14, none⟩ (.slice A m cap)).setCell ⟨go, 15, none⟩ (.int .i64 sq)).setCell ⟨go, 16, none⟩ (.int .i64 tg)) = W2 := ⟨_, rfl⟩
   rw [hW2] at O' R' X' H' kk' ⊢
   clear hW2
   clear O R X Hh kk ch cx' co fo X' H'
   have l1 := msg_load O'
   have l2 := msg_store R' rfl
   go_wp2_with fail
   refine bodyPost_ret (results_msg1 rfl rfl (R'.msgSet rfl)) rfl ?_
   exact ⟨by rw [← HRES.out]; rfl, below_msgSet kk' (Nat.le_succ _) _⟩
  ·go_upto_region 14 with fail
   have O' : Blk ((((W.setCell ⟨go, 1, none⟩ (.int .i64 i)).setCell ⟨go, 2, none⟩ (.int .i64 n)).setCell ⟨go, 3, none⟩ (.int .i64 br)).setCell ⟨go, 4, none⟩ (.int .i64 bb)) go 50 #[.int .i64 k, .int .i64 i, .int .i64 n, .int .i64 br, .int .i64 bb, .int .i64 0, .int .i64 0, .int .i64 0, .int .i64 0, .int .i64 0, .int .i64 0, .string ⟨#[]⟩, .string ⟨#[]⟩, .int .i64 0, .slice none 0 0, .int .i64 0, .int .i64 0, .int .i64 0] := by
    have := ((((O.set_ 1 (.int .i64 i)).set_ 2 (.int .i64 n)).set_ 3 (.int .i64 br)).set_ 4 (.int .i64 bb))
    simpa using this
   have R' := ((((R.far (p := ⟨go, 1, none⟩) (Ne.symm hgo2) (.int .i64 i)).far (p := ⟨go, 2, none⟩) (Ne.symm hgo2) (.int .i64 n)).far (p := ⟨go, 3, none⟩) (Ne.symm hgo2) (.int .i64 br)).far (p := ⟨go, 4, none⟩) (Ne.symm hgo2) (.int .i64 bb))
   have X' := ((((X.far (p := ⟨go, 1, none⟩) (Ne.symm hgo') (.int .i64 i)).far (p := ⟨go, 2, none⟩) (Ne.symm hgo') (.int .i64 n)).far (p := ⟨go, 3, none⟩) (Ne.symm hgo') (.int .i64 br)).far (p := ⟨go, 4, none⟩) (Ne.symm hgo') (.int .i64 bb))
   have H' := ((((Hh.far (p := ⟨go, 1, none⟩) hne (.int .i64 i)).far (p := ⟨go, 2, none⟩) hne (.int .i64 n)).far (p := ⟨go, 3, none⟩) hne (.int .i64 br)).far (p := ⟨go, 4, none⟩) hne (.int .i64 bb))
   have kk' := ((((kk.setCell (p := ⟨go, 1, none⟩) (by simp; omega) (.int .i64 i)).setCell (p := ⟨go, 2, none⟩) (by simp; omega) (.int .i64 n)).setCell (p := ⟨go, 3, none⟩) (by simp; omega) (.int .i64 br)).setCell (p := ⟨go, 4, none⟩) (by simp; omega) (.int .i64 bb))
   obtain ⟨W2, hW2⟩ : ∃ W2, ((((W.setCell ⟨go, 1, none⟩ (.int .i64 i)).setCell ⟨go, 2, none⟩ (.int .i64 n)).setCell ⟨go, 3, none⟩ (.int .i64 br)).setCell ⟨go, 4, none⟩ (.int .i64 bb)) = W2 := ⟨_, rfl⟩
   rw [hW2] at O' R' X' H' kk' ⊢
   clear hW2
   clear O R X Hh kk ch cx' co fo X' H'
   have l1 := msg_load O'
   have l2 := msg_store R' rfl
   go_wp2_with fail
   refine bodyPost_ret (results_msg1 rfl rfl (R'.msgSet rfl)) rfl ?_
   exact ⟨by rw [← HRES.out]; rfl, below_msgSet kk' (Nat.le_succ _) _⟩
  ·go_upto_region 14 with fail
   have O' : Blk (((((((((((W.setCell ⟨go, 1, none⟩ (.int .i64 i)).setCell ⟨go, 2, none⟩ (.int .i64 n)).setCell ⟨go, 8, none⟩ (.int .i64 ck)).setCell ⟨go, 9, none⟩ (.int .i64 cc)).setCell ⟨go, 10, none⟩ (.int .i64 cq)).setCell ⟨go, 11, none⟩ (.string cy)).setCell ⟨go, 12, none⟩ (.string cx)).setCell ⟨go, 13, none⟩ (.int .i64 cr)).setCell ⟨go, 14, none⟩ (.slice A m cap)).setCell ⟨go, 15, none⟩ (.int .i64 sq)).setCell ⟨go, 16, none⟩ (.int .i64 tg)) go 50 #[.int .i64 k, .int .i64 i, .int .i64 n, .int .i64 0, .int .i64 0, .int .i64 0, .int .i64 0, .int .i64 0, .int .i64 ck, .int .i64 cc, .int .i64 cq, .string cy, .string cx, .int .i64 cr, .slice A m cap, .int .i64 sq, .int .i64 tg, .int .i64 0] := by
    have := (((((((((((O.set_ 1 (.int .i64 i)).set_ 2 (.int .i64 n)).set_ 8 (.int .i64 ck)).set_ 9 (.int .i64 cc)).set_ 10 (.int .i64 cq)).set_ 11 (.string cy)).set_ 12 (.string cx)).set_ 13 (.int .i64 cr)).set_ 14 (.slice A m cap)).set_ 15 (.int .i64 sq)).set_ 16 (.int .i64 tg))
    simpa using this
   have R' := (((((((((((R.far (p := ⟨go, 1, none⟩) (Ne.symm hgo2) (.int .i64 i)).far (p := ⟨go, 2, none⟩) (Ne.symm hgo2) (.int .i64 n)).far (p := ⟨go, 8, none⟩) (Ne.symm hgo2) (.int .i64 ck)).far (p := ⟨go, 9, none⟩) (Ne.symm hgo2) (.int .i64 cc)).far (p := ⟨go, 10, none⟩) (Ne.symm hgo2) (.int .i64 cq)).far (p := ⟨go, 11, none⟩) (Ne.symm hgo2) (.string cy)).far (p := ⟨go, 12, none⟩) (Ne.symm hgo2) (.string cx)).far (p := ⟨go, 13, none⟩) (Ne.symm hgo2) (.int .i64 cr)).far (p := ⟨go, 14, none⟩) (Ne.symm hgo2) (.slice A m cap)).far (p := ⟨go, 15, none⟩) (Ne.symm hgo2) (.int .i64 sq)).far (p := ⟨go, 16, none⟩) (Ne.symm hgo2) (.int .i64 tg))
   have X' := (((((((((((X.far (p := ⟨go, 1, none⟩) (Ne.symm hgo') (.int .i64 i)).far (p := ⟨go, 2, none⟩) (Ne.symm hgo') (.int .i64 n)).far (p := ⟨go, 8, none⟩) (Ne.symm hgo') (.int .i64 ck)).far (p := ⟨go, 9, none⟩) (Ne.symm hgo') (.int .i64 cc)).far (p := ⟨go, 10, none⟩) (Ne.symm hgo') (.int .i64 cq)).far (p := ⟨go, 11, none⟩) (Ne.symm hgo') (.string cy)).far (p := ⟨go, 12, none⟩) (Ne.symm hgo') (.string cx)).far (p := ⟨go, 13, none⟩) (Ne.symm hgo') (.int .i64 cr)).far (p := ⟨go, 14, none⟩) (Ne.symm hgo') (.slice A m cap)).far (p := ⟨go, 15, none⟩) (Ne.symm hgo') (.int .i64 sq)).far (p := ⟨go, 16, none⟩) (Ne.symm hgo') (.int .i64 tg))
   have H' := (((((((((((Hh.far (p := ⟨go, 1, none⟩) hne (.int .i64 i)).far (p := ⟨go, 2, none⟩) hne (.int .i64 n)).far (p := ⟨go, 8, none⟩) hne (.int .i64 ck)).far (p := ⟨go, 9, none⟩) hne (.int .i64 cc)).far (p := ⟨go, 10, none⟩) hne (.int .i64 cq)).far (p := ⟨go, 11, none⟩) hne (.string cy)).far (p := ⟨go, 12, none⟩) hne (.string cx)).far (p := ⟨go, 13, none⟩) hne (.int .i64 cr)).far (p := ⟨go, 14, none⟩) hne (.slice A m cap)).far (p := ⟨go, 15, none⟩) hne (.int .i64 sq)).far (p := ⟨go, 16, none⟩) hne (.int .i64 tg))
   have kk' := (((((((((((kk.setCell (p := ⟨go, 1, none⟩) (by simp; omega) (.int .i64 i)).setCell (p := ⟨go, 2, none⟩) (by simp; omega) (.int .i64 n)).setCell (p := ⟨go, 8, none⟩) (by simp; omega) (.int .i64 ck)).setCell (p := ⟨go, 9, none⟩) (by simp; omega) (.int .i64 cc)).setCell (p := ⟨go, 10, none⟩) (by simp; omega) (.int .i64 cq)).setCell (p := ⟨go, 11, none⟩) (by simp; omega) (.string cy)).setCell (p := ⟨go, 12, none⟩) (by simp; omega) (.string cx)).setCell (p := ⟨go, 13, none⟩) (by simp; omega) (.int .i64 cr)).setCell (p := ⟨go, 14, none⟩) (by simp; omega) (.slice A m cap)).setCell (p := ⟨go, 15, none⟩) (by simp; omega) (.int .i64 sq)).setCell (p := ⟨go, 16, none⟩) (by simp; omega) (.int .i64 tg))
   obtain ⟨W2, hW2⟩ : ∃ W2, (((((((((((W.setCell ⟨go, 1, none⟩ (.int .i64 i)).setCell ⟨go, 2, none⟩ (.int .i64 n)).setCell ⟨go, 8, none⟩ (.int .i64 ck)).setCell ⟨go, 9, none⟩ (.int .i64 cc)).setCell ⟨go, 10, none⟩ (.int .i64 cq)).setCell ⟨go, 11, none⟩ (.string cy)).setCell ⟨go, 12, none⟩ (.string cx)).setCell ⟨go, 13, none⟩ (.int .i64 cr)).setCell ⟨go, 14, none⟩ (.slice A m cap)).setCell ⟨go, 15, none⟩ (.int .i64 sq)).setCell ⟨go, 16, none⟩ (.int .i64 tg)) = W2 := ⟨_, rfl⟩
   rw [hW2] at O' R' X' H' kk' ⊢
   clear hW2
   clear O R X Hh kk ch cx' co fo X' H'
   have l1 := msg_load O'
   have l2 := msg_store R' rfl
   go_wp2_with fail
   refine bodyPost_ret (results_msg1 rfl rfl (R'.msgSet rfl)) rfl ?_
   exact ⟨by rw [← HRES.out]; rfl, below_msgSet kk' (Nat.le_succ _) _⟩
  ·go_upto_region 7 with fail
   have O' : Blk ((((W.setCell ⟨go, 1, none⟩ (.int .i64 i)).setCell ⟨go, 2, none⟩ (.int .i64 n)).setCell ⟨go, 3, none⟩ (.int .i64 br)).setCell ⟨go, 4, none⟩ (.int .i64 bb)) go 50 #[.int .i64 k, .int .i64 i, .int .i64 n, .int .i64 br, .int .i64 bb, .int .i64 0, .int .i64 0, .int .i64 0, .int .i64 0, .int .i64 0, .int .i64 0, .string ⟨#[]⟩, .string ⟨#[]⟩, .int .i64 0, .slice none 0 0, .int .i64 0, .int .i64 0, .int .i64 0] := by
    have := ((((O.set_ 1 (.int .i64 i)).set_ 2 (.int .i64 n)).set_ 3 (.int .i64 br)).set_ 4 (.int .i64 bb))
    simpa using this
   have R' := ((((R.far (p := ⟨go, 1, none⟩) (Ne.symm hgo2) (.int .i64 i)).far (p := ⟨go, 2, none⟩) (Ne.symm hgo2) (.int .i64 n)).far (p := ⟨go, 3, none⟩) (Ne.symm hgo2) (.int .i64 br)).far (p := ⟨go, 4, none⟩) (Ne.symm hgo2) (.int .i64 bb))
   have X' := ((((X.far (p := ⟨go, 1, none⟩) (Ne.symm hgo') (.int .i64 i)).far (p := ⟨go, 2, none⟩) (Ne.symm hgo') (.int .i64 n)).far (p := ⟨go, 3, none⟩) (Ne.symm hgo') (.int .i64 br)).far (p := ⟨go, 4, none⟩) (Ne.symm hgo') (.int .i64 bb))
   have H' := ((((Hh.far (p := ⟨go, 1, none⟩) hne (.int .i64 i)).far (p := ⟨go, 2, none⟩) hne (.int .i64 n)).far (p := ⟨go, 3, none⟩) hne (.int .i64 br)).far (p := ⟨go, 4, none⟩) hne (.int .i64 bb))
   have kk' := ((((kk.setCell (p := ⟨go, 1, none⟩) (by simp; omega) (.int .i64 i)).setCell (p := ⟨go, 2, none⟩) (by simp; omega) (.int .i64 n)).setCell (p := ⟨go, 3, none⟩) (by simp; omega) (.int .i64 br)).setCell (p := ⟨go, 4, none⟩) (by simp; omega) (.int .i64 bb))
   obtain ⟨W2, hW2⟩ : ∃ W2, ((((W.setCell ⟨go, 1, none⟩ (.int .i64 i)).setCell ⟨go, 2, none⟩ (.int .i64 n)).setCell ⟨go, 3, none⟩ (.int .i64 br)).setCell ⟨go, 4, none⟩ (.int .i64 bb)) = W2 := ⟨_, rfl⟩
   rw [hW2] at O' R' X' H' kk' ⊢
   clear hW2
   clear O R X Hh kk ch cx' co fo
   have R2 := blk_drewp R'
   have H2 := blk_drewp H'
   have k2 := Below.drew kk'
   have X2 := blk_drewp X'
   have O2 := blk_drewp O'
   clear O' R' X' H' kk'
   (refine wp_region_held_drew (S := (S1 w.heap.size #[.int .i64 k, .int .i64 i, .int .i64 n, .int .i64 br, .int .i64 bb, .int .i64 tr, .int .i64 tb, .int .i64 st, .int .i64 ck, .int .i64 cc, .int .i64 cq, .string cy, .string cx, .int .i64 cr, .slice A m cap, .int .i64 sq, .int .i64 tg, .int .i64 ver])) (by kernel_rfl) ?_ (fun hHeld => ?_); (· exact X2.cell))
   revert hHeld R2 H2 k2 X2 O2
   generalize World.drew _ = W
   intro R Hh kk X O hHeld
   (refine take_op (i := 0) (v := ?_) rfl (by kernel_rfl) (by kernel_rfl) (by kernel_rfl) (fun _ _ _ h => h) (by rfl) ?_ hHeld ?_; rotate_left; (· (intro wS hSw; (try dsimp only at hSw); go_simp; first | done | with_reducible rfl)); simp only [Act.put, sta_, scz_, scs_]); (refine take_op (i := 1) (v := ?_) rfl (by kernel_rfl) (by kernel_rfl) (by kernel_rfl) (fun _ _ _ h => h) (by rfl) ?_ hHeld ?_; rotate_left; (· (intro wS hSw; (try dsimp only at hSw); go_simp; first | done | with_reducible rfl)); simp only [Act.put, sta_, scz_, scs_]); (refine take_op (i := 2) (v := ?_) rfl (by kernel_rfl) (by kernel_rfl) (by kernel_rfl) (fun _ _ _ h => h) (by rfl) ?_ hHeld ?_; rotate_left; (· (intro wS hSw; (try dsimp only at hSw); go_simp; first | done | with_reducible rfl)); simp only [Act.put, sta_, scz_, scs_]); (refine take_op (i := 3) (v := ?_) rfl (by kernel_rfl) (by kernel_rfl) (by kernel_rfl) (fun _ _ _ h => h) (by rfl) ?_ hHeld ?_; rotate_left; (· (intro wS hSw; (try dsimp only at hSw); go_simp; first | done | with_reducible rfl)); simp only [Act.put, sta_, scz_, scs_]); (refine take_op (i := 4) (v := ?_) rfl (by kernel_rfl) (by kernel_rfl) (by kernel_rfl) (fun _ _ _ h => h) (by rfl) ?_ hHeld ?_; rotate_left; (· (intro wS hSw; (try dsimp only at hSw); go_simp; first | done | with_reducible rfl)); simp only [Act.put, sta_, scz_, scs_])
   have co := O.cell
   have fo := O.frozen
   (refine call_op (i := 5) rfl (by kernel_rfl) (by rfl) (fun K hK => ?_); go_simp; skip; refine hK.out _ _ (X.far (p := ⟨go, 7, none⟩) (Ne.symm hgo') (.int .i64 st)).cell (fun hHeld2 => ?_); clear hK K hHeld; have hHeld := hHeld2; clear hHeld2; (try simp only [Act.put, sta_, scz_, scs_]))
   (refine take_op (i := 6) (v := ?_) rfl (by kernel_rfl) (by kernel_rfl) (by kernel_rfl) (fun _ _ _ h => h) (by rfl) ?_ hHeld ?_; rotate_left; (· (intro wS hSw; (try dsimp only at hSw); go_simp; first | done | with_reducible rfl)); simp only [Act.put, sta_, scz_, scs_])
   have co2 := (O.set_ 7 (.int .i64 st)).cell
   have fo2 := (O.set_ 7 (.int .i64 st)).frozen
   simp at co2
   (refine call_op (i := 7) rfl (by kernel_rfl) (by rfl) (fun K hK => ?_); go_simp; skip; refine hK.out _ _ (((X.far (p := ⟨go, 7, none⟩) (Ne.symm hgo') (.int .i64 st)).far (p := ⟨go, 5, none⟩) (Ne.symm hgo') (.int .i64 tr)).far (p := ⟨go, 6, none⟩) (Ne.symm hgo') (.int .i64 tb)).cell (fun hHeld2 => ?_); clear hK K hHeld; have hHeld := hHeld2; clear hHeld2; (try simp only [Act.put, sta_, scz_, scs_]))
   (refine wpAnyH_done (by kernel_rfl) ?_ _)
   clear hHeld co2 fo2
   have ch := Hh.cell
   have cx' := X.cell
   go_upto_region 14 with fail
   have O' : Blk ((((((((((((W.setCell ⟨go, 7, none⟩ (.int .i64 st)).setCell ⟨go, 5, none⟩ (.int .i64 tr)).setCell ⟨go, 6, none⟩ (.int .i64 tb)).setCell ⟨go, 8, none⟩ (.int .i64 ck)).setCell ⟨go, 9, none⟩ (.int .i64 cc)).setCell ⟨go, 10, none⟩ (.int .i64 cq)).setCell ⟨go, 11, none⟩ (.string cy)).setCell ⟨go, 12, none⟩ (.string cx)).setCell ⟨go, 13, none⟩ (.int .i64 cr)).setCell ⟨go, 14, none⟩ (.slice A m cap)).setCell ⟨go, 15, none⟩ (.int .i64 sq)).setCell ⟨go, 16, none⟩ (.int .i64 tg)) go 50 #[.int .i64 k, .int .i64 i, .int .i64 n, .int .i64 br, .int .i64 bb, .int .i64 tr, .int .i64 tb, .int .i64 st, .int .i64 ck, .int .i64 cc, .int .i64 cq, .string cy, .string cx, .int .i64 cr, .slice A m cap, .int .i64 sq, .int .i64 tg, .int .i64 0] := by
    have := ((((((((((((O.set_ 7 (.int .i64 st)).set_ 5 (.int .i64 tr)).set_ 6 (.int .i64 tb)).set_ 8 (.int .i64 ck)).set_ 9 (.int .i64 cc)).set_ 10 (.int .i64 cq)).set_ 11 (.string cy)).set_ 12 (.string cx)).set_ 13 (.int .i64 cr)).set_ 14 (.slice A m cap)).set_ 15 (.int .i64 sq)).set_ 16 (.int .i64 tg))
    simpa using this
   have R' := ((((((((((((R.far (p := ⟨go, 7, none⟩) (Ne.symm hgo2) (.int .i64 st)).far (p := ⟨go, 5, none⟩) (Ne.symm hgo2) (.int .i64 tr)).far (p := ⟨go, 6, none⟩) (Ne.symm hgo2) (.int .i64 tb)).far (p := ⟨go, 8, none⟩) (Ne.symm hgo2) (.int .i64 ck)).far (p := ⟨go, 9, none⟩) (Ne.symm hgo2) (.int .i64 cc)).far (p := ⟨go, 10, none⟩) (Ne.symm hgo2) (.int .i64 cq)).far (p := ⟨go, 11, none⟩) (Ne.symm hgo2) (.string cy)).far (p := ⟨go, 12, none⟩) (Ne.symm hgo2) (.string cx)).far (p := ⟨go, 13, none⟩) (Ne.symm hgo2) (.int .i64 cr)).far (p := ⟨go, 14, none⟩) (Ne.symm hgo2) (.slice A m cap)).far (p := ⟨go, 15, none⟩) (Ne.symm hgo2) (.int .i64 sq)).far (p := ⟨go, 16, none⟩) (Ne.symm hgo2) (.int .i64 tg))
   have X' := ((((((((((((X.far (p := ⟨go, 7, none⟩) (Ne.symm hgo') (.int .i64 st)).far (p := ⟨go, 5, none⟩) (Ne.symm hgo') (.int .i64 tr)).far (p := ⟨go, 6, none⟩) (Ne.symm hgo') (.int .i64 tb)).far (p := ⟨go, 8, none⟩) (Ne.symm hgo') (.int .i64 ck)).far (p := ⟨go, 9, none⟩) (Ne.symm hgo') (.int .i64 cc)).far (p := ⟨go, 10, none⟩) (Ne.symm hgo') (.int .i64 cq)).far (p := ⟨go, 11, none⟩) (Ne.symm hgo') (.string cy)).far (p := ⟨go, 12, none⟩) (Ne.symm hgo') (.string cx)).far (p := ⟨go, 13, none⟩) (Ne.symm hgo') (.int .i64 cr)).far (p := ⟨go, 14, none⟩) (Ne.symm hgo') (.slice A m cap)).far (p := ⟨go, 15, none⟩) (Ne.symm hgo') (.int .i64 sq)).far (p := ⟨go, 16, none⟩) (Ne.symm hgo') (.int .i64 tg))
   have H' := ((((((((((((Hh.far (p := ⟨go, 7, none⟩) hne (.int .i64 st)).far (p := ⟨go, 5, none⟩) hne (.int .i64 tr)).far (p := ⟨go, 6, none⟩) hne (.int .i64 tb)).far (p := ⟨go, 8, none⟩) hne (.int .i64 ck)).far (p := ⟨go, 9, none⟩) hne (.int .i64 cc)).far (p := ⟨go, 10, none⟩) hne (.int .i64 cq)).far (p := ⟨go, 11, none⟩) hne (.string cy)).far (p := ⟨go, 12, none⟩) hne (.string cx)).far (p := ⟨go, 13, none⟩) hne (.int .i64 cr)).far (p := ⟨go, 14, none⟩) hne (.slice A m cap)).far (p := ⟨go, 15, none⟩) hne (.int .i64 sq)).far (p := ⟨go, 16, none⟩) hne (.int .i64 tg))
   have kk' := ((((((((((((kk.setCell (p := ⟨go, 7, none⟩) (by simp; omega) (.int .i64 st)).setCell (p := ⟨go, 5, none⟩) (by simp; omega) (.int .i64 tr)).setCell (p := ⟨go, 6, none⟩) (by simp; omega) (.int .i64 tb)).setCell (p := ⟨go, 8, none⟩) (by simp; omega) (.int .i64 ck)).setCell (p := ⟨go, 9, none⟩) (by simp; omega) (.int .i64 cc)).setCell (p := ⟨go, 10, none⟩) (by simp; omega) (.int .i64 cq)).setCell (p := ⟨go, 11, none⟩) (by simp; omega) (.string cy)).setCell (p := ⟨go, 12, none⟩) (by simp; omega) (.string cx)).setCell (p := ⟨go, 13, none⟩) (by simp; omega) (.int .i64 cr)).setCell (p := ⟨go, 14, none⟩) (by simp; omega) (.slice A m cap)).setCell (p := ⟨go, 15, none⟩) (by simp; omega) (.int .i64 sq)).setCell (p := ⟨go, 16, none⟩) (by simp; omega) (.int .i64 tg))
   obtain ⟨W2, hW2⟩ : ∃ W2, ((((((((((((W.setCell ⟨go, 7, none⟩ (.int .i64 st)).setCell ⟨go, 5, none⟩ (.int .i64 tr)).setCell ⟨go, 6, none⟩ (.int .i64 tb)).setCell ⟨go, 8, none⟩ (.int .i64 ck)).setCell ⟨go, 9, none⟩ (.int .i64 cc)).setCell ⟨go, 10, none⟩ (.int .i64 cq)).setCell ⟨go, 11, none⟩ (.string cy)).setCell ⟨go, 12, none⟩ (.string cx)).setCell ⟨go, 13, none⟩ (.int .i64 cr)).setCell ⟨go, 14, none⟩ (.slice A m cap)).setCell ⟨go, 15, none⟩ (.int .i64 sq)).setCell ⟨go, 16, none⟩ (.int .i64 tg)) = W2 := ⟨_, rfl⟩
   rw [hW2] at O' R' X' H' kk' ⊢
   clear hW2
   clear O R X Hh kk ch cx' co fo X' H'
   have l1 := msg_load O'
   have l2 := msg_store R' rfl
   go_wp2_with fail
   refine bodyPost_ret (results_msg1 rfl rfl (R'.msgSet rfl)) rfl ?_
   exact ⟨by rw [← HRES.out]; rfl, below_msgSet kk' (Nat.le_succ _) _⟩
  ·go_upto_region 7 with fail
   have O' : Blk ((((W.setCell ⟨go, 1, none⟩ (.int .i64 i)).setCell ⟨go, 2, none⟩ (.int .i64 n)).setCell ⟨go, 3, none⟩ (.int .i64 br)).setCell ⟨go, 4, none⟩ (.int .i64 bb)) go 50 #[.int .i64 k, .int .i64 i, .int .i64 n, .int .i64 br, .int .i64 bb, .int .i64 0, .int .i64 0, .int .i64 0, .int .i64 0, .int .i64 0, .int .i64 0, .string ⟨#[]⟩, .string ⟨#[]⟩, .int .i64 0, .slice none 0 0, .int .i64 0, .int .i64 0, .int .i64 0] := by
    have := ((((O.set_ 1 (.int .i64 i)).set_ 2 (.int .i64 n)).set_ 3 (.int .i64 br)).set_ 4 (.int .i64 bb))
    simpa using this
   have R' := ((((R.far (p := ⟨go, 1, none⟩) (Ne.symm hgo2) (.int .i64 i)).far (p := ⟨go, 2, none⟩) (Ne.symm hgo2) (.int .i64 n)).far (p := ⟨go, 3, none⟩) (Ne.symm hgo2) (.int .i64 br)).far (p := ⟨go, 4, none⟩) (Ne.symm hgo2) (.int .i64 bb))
   have X' := ((((X.far (p := ⟨go, 1, none⟩) (Ne.symm hgo') (.int .i64 i)).far (p := ⟨go, 2, none⟩) (Ne.symm hgo') (.int .i64 n)).far (p := ⟨go, 3, none⟩) (Ne.symm hgo') (.int .i64 br)).far (p := ⟨go, 4, none⟩) (Ne.symm hgo') (.int .i64 bb))
   have H' := ((((Hh.far (p := ⟨go, 1, none⟩) hne (.int .i64 i)).far (p := ⟨go, 2, none⟩) hne (.int .i64 n)).far (p := ⟨go, 3, none⟩) hne (.int .i64 br)).far (p := ⟨go, 4, none⟩) hne (.int .i64 bb))
   have kk' := ((((kk.setCell (p := ⟨go, 1, none⟩) (by simp; omega) (.int .i64 i)).setCell (p := ⟨go, 2, none⟩) (by simp; omega) (.int .i64 n)).setCell (p := ⟨go, 3, none⟩) (by simp; omega) (.int .i64 br)).setCell (p := ⟨go, 4, none⟩) (by simp; omega) (.int .i64 bb))
   obtain ⟨W2, hW2⟩ : ∃ W2, ((((W.setCell ⟨go, 1, none⟩ (.int .i64 i)).setCell ⟨go, 2, none⟩ (.int .i64 n)).setCell ⟨go, 3, none⟩ (.int .i64 br)).setCell ⟨go, 4, none⟩ (.int .i64 bb)) = W2 := ⟨_, rfl⟩
   rw [hW2] at O' R' X' H' kk' ⊢
   clear hW2
   clear O R X Hh kk ch cx' co fo
   have R2 := blk_drewp R'
   have H2 := blk_drewp H'
   have k2 := Below.drew kk'
   have X2 := blk_drewp X'
   have O2 := blk_drewp O'
   clear O' R' X' H' kk'
   (refine wp_region_held_drew (S := (S1 w.heap.size #[.int .i64 k, .int .i64 i, .int .i64 n, .int .i64 br, .int .i64 bb, .int .i64 tr, .int .i64 tb, .int .i64 st, .int .i64 ck, .int .i64 cc, .int .i64 cq, .string cy, .string cx, .int .i64 cr, .slice A m cap, .int .i64 sq, .int .i64 tg, .int .i64 ver])) (by kernel_rfl) ?_ (fun hHeld => ?_); (· exact X2.cell))
   revert hHeld R2 H2 k2 X2 O2
   generalize World.drew _ = W
   intro R Hh kk X O hHeld
   (refine take_op (i := 0) (v := ?_) rfl (by kernel_rfl) (by kernel_rfl) (by kernel_rfl) (fun _ _ _ h => h) (by rfl) ?_ hHeld ?_; rotate_left; (· (intro wS hSw; (try dsimp only at hSw); go_simp; first | done | with_reducible rfl)); simp only [Act.put, sta_, scz_, scs_]); (refine take_op (i := 1) (v := ?_) rfl (by kernel_rfl) (by kernel_rfl) (by kernel_rfl) (fun _ _ _ h => h) (by rfl) ?_ hHeld ?_; rotate_left; (· (intro wS hSw; (try dsimp only at hSw); go_simp; first | done | with_reducible rfl)); simp only [Act.put, sta_, scz_, scs_]); (refine take_op (i := 2) (v := ?_) rfl (by kernel_rfl) (by kernel_rfl) (by kernel_rfl) (fun _ _ _ h => h) (by rfl) ?_ hHeld ?_; rotate_left; (· (intro wS hSw; (try dsimp only at hSw); go_simp; first | done | with_reducible rfl)); simp only [Act.put, sta_, scz_, scs_]); (refine take_op (i := 3) (v := ?_) rfl (by kernel_rfl) (by kernel_rfl) (by kernel_rfl) (fun _ _ _ h => h) (by rfl) ?_ hHeld ?_; rotate_left; (· (intro wS hSw; (try dsimp only at hSw); go_simp; first | done | with_reducible rfl)); simp only [Act.put, sta_, scz_, scs_]); (refine take_op (i := 4) (v := ?_) rfl (by kernel_rfl) (by kernel_rfl) (by kernel_rfl) (fun _ _ _ h => h) (by rfl) ?_ hHeld ?_; rotate_left; (· (intro wS hSw; (try dsimp only at hSw); go_simp; first | done | with_reducible rfl)); simp only [Act.put, sta_, scz_, scs_])
   have co := O.cell
   have fo := O.frozen
   (refine call_op (i := 5) rfl (by kernel_rfl) (by rfl) (fun K hK => ?_); go_simp; skip; refine hK.out _ _ (X.far (p := ⟨go, 7, none⟩) (Ne.symm hgo') (.int .i64 st)).cell (fun hHeld2 => ?_); clear hK K hHeld; have hHeld := hHeld2; clear hHeld2; (try simp only [Act.put, sta_, scz_, scs_]))
   (refine take_op (i := 6) (v := ?_) rfl (by kernel_rfl) (by kernel_rfl) (by kernel_rfl) (fun _ _ _ h => h) (by rfl) ?_ hHeld ?_; rotate_left; (· (intro wS hSw; (try dsimp only at hSw); go_simp; first | done | with_reducible rfl)); simp only [Act.put, sta_, scz_, scs_])
   have co2 := (O.set_ 7 (.int .i64 st)).cell
   have fo2 := (O.set_ 7 (.int .i64 st)).frozen
   simp at co2
   (refine call_op (i := 7) rfl (by kernel_rfl) (by rfl) (fun K hK => ?_); go_simp; skip; refine hK.out _ _ (((X.far (p := ⟨go, 7, none⟩) (Ne.symm hgo') (.int .i64 st)).far (p := ⟨go, 5, none⟩) (Ne.symm hgo') (.int .i64 tr)).far (p := ⟨go, 6, none⟩) (Ne.symm hgo') (.int .i64 tb)).cell (fun hHeld2 => ?_); clear hK K hHeld; have hHeld := hHeld2; clear hHeld2; (try simp only [Act.put, sta_, scz_, scs_]))
   (refine wpAnyH_done (by kernel_rfl) ?_ _)
   clear hHeld co2 fo2
   have ch := Hh.cell
   have cx' := X.cell
   go_upto_region 14 with fail
   have O' : Blk (((W.setCell ⟨go, 7, none⟩ (.int .i64 st)).setCell ⟨go, 5, none⟩ (.int .i64 tr)).setCell ⟨go, 6, none⟩ (.int .i64 tb)) go 50 #[.int .i64 k, .int .i64 i, .int .i64 n, .int .i64 br, .int .i64 bb, .int .i64 tr, .int .i64 tb, .int .i64 st, .int .i64 0, .int .i64 0, .int .i64 0, .string ⟨#[]⟩, .string ⟨#[]⟩, .int .i64 0, .slice none 0 0, .int .i64 0, .int .i64 0, .int .i64 0] := by
    have := (((O.set_ 7 (.int .i64 st)).set_ 5 (.int .i64 tr)).set_ 6 (.int .i64 tb))
    simpa using this
   have R' := (((R.far (p := ⟨go, 7, none⟩) (Ne.symm hgo2) (.int .i64 st)).far (p := ⟨go, 5, none⟩) (Ne.symm hgo2) (.int .i64 tr)).far (p := ⟨go, 6, none⟩) (Ne.symm hgo2) (.int .i64 tb))
   have X' := (((X.far (p := ⟨go, 7, none⟩) (Ne.symm hgo') (.int .i64 st)).far (p := ⟨go, 5, none⟩) (Ne.symm hgo') (.int .i64 tr)).far (p := ⟨go, 6, none⟩) (Ne.symm hgo') (.int .i64 tb))
   have H' := (((Hh.far (p := ⟨go, 7, none⟩) hne (.int .i64 st)).far (p := ⟨go, 5, none⟩) hne (.int .i64 tr)).far (p := ⟨go, 6, none⟩) hne (.int .i64 tb))
   have kk' := (((kk.setCell (p := ⟨go, 7, none⟩) (by simp; omega) (.int .i64 st)).setCell (p := ⟨go, 5, none⟩) (by simp; omega) (.int .i64 tr)).setCell (p := ⟨go, 6, none⟩) (by simp; omega) (.int .i64 tb))
   obtain ⟨W2, hW2⟩ : ∃ W2, (((W.setCell ⟨go, 7, none⟩ (.int .i64 st)).setCell ⟨go, 5, none⟩ (.int .i64 tr)).setCell ⟨go, 6, none⟩ (.int .i64 tb)) = W2 := ⟨_, rfl⟩
   rw [hW2] at O' R' X' H' kk' ⊢
   clear hW2
   clear O R X Hh kk ch cx' co fo X' H'
   have l1 := msg_load O'
   have l2 := msg_store R' rfl
   go_wp2_with fail
   refine bodyPost_ret (results_msg1 rfl rfl (R'.msgSet rfl)) rfl ?_
   exact ⟨by rw [← HRES.out]; rfl, below_msgSet kk' (Nat.le_succ _) _⟩
  ·go_upto_region 14 with fail
   have O' : Blk (W.setCell ⟨go, 17, none⟩ (.int .i64 ver)) go 50 #[.int .i64 k, .int .i64 0, .int .i64 0, .int .i64 0, .int .i64 0, .int .i64 0, .int .i64 0, .int .i64 0, .int .i64 0, .int .i64 0, .int .i64 0, .string ⟨#[]⟩, .string ⟨#[]⟩, .int .i64 0, .slice none 0 0, .int .i64 0, .int .i64 0, .int .i64 ver] := by
    have := (O.set_ 17 (.int .i64 ver))
    simpa using this
   have R' := (R.far (p := ⟨go, 17, none⟩) (Ne.symm hgo2) (.int .i64 ver))
   have X' := (X.far (p := ⟨go, 17, none⟩) (Ne.symm hgo') (.int .i64 ver))
   have H' := (Hh.far (p := ⟨go, 17, none⟩) hne (.int .i64 ver))
   have kk' := (kk.setCell (p := ⟨go, 17, none⟩) (by simp; omega) (.int .i64 ver))
   obtain ⟨W2, hW2⟩ : ∃ W2, (W.setCell ⟨go, 17, none⟩ (.int .i64 ver)) = W2 := ⟨_, rfl⟩
   rw [hW2] at O' R' X' H' kk' ⊢
   clear hW2
   clear O R X Hh kk ch cx' co fo X' H'
   have l1 := msg_load O'
   have l2 := msg_store R' rfl
   go_wp2_with fail
   refine bodyPost_ret (results_msg1 rfl rfl (R'.msgSet rfl)) rfl ?_
   exact ⟨by rw [← HRES.out]; rfl, below_msgSet kk' (Nat.le_succ _) _⟩
 replace X := blk_drewp X
 replace R := blk_drewp R
 replace kk := kk.drew
 (refine wp_region_held_drew (S := (SM w.heap.size #[.int .i64 k, .int .i64 i, .int .i64 n, .int .i64 br, .int .i64 bb, .int .i64 tr, .int .i64 tb, .int .i64 st, .int .i64 ck, .int .i64 cc, .int .i64 cq, .string cy, .string cx, .int .i64 cr, .slice A m cap, .int .i64 sq, .int .i64 tg, .int .i64 ver])) (by kernel_rfl) ?_ (fun hHeld => ?_); (· exact X.sm))
 revert hHeld X R kk
 generalize World.drew _ = wd
 intro X R kk hHeld
 have hz : w.heap.size + 2 ≤ wd.heap.size := R.lt
 (refine take_op (i := 0) (v := ?_) rfl (by kernel_rfl) (by kernel_rfl) (by kernel_rfl) (fun _ _ _ h => h) (by rfl) ?_ hHeld ?_; rotate_left; (· (intro wS hSw; (try dsimp only at hSw); go_simp; first | done | with_reducible rfl)); simp only [Act.put, sta_, scz_, scs_]); (refine take_op (i := 2) (v := ?_) rfl (by kernel_rfl) (by kernel_rfl) (by kernel_rfl) (fun _ _ _ h => h) (by rfl) ?_ hHeld ?_; rotate_left; (· (intro wS hSw; (try dsimp only at hSw); go_simp; first | done | with_reducible rfl)); simp only [Act.put, sta_, scz_, scs_]); (refine take_op (i := 3) (v := ?_) rfl (by kernel_rfl) (by kernel_rfl) (by kernel_rfl) (fun _ _ _ h => h) (by rfl) ?_ hHeld ?_; rotate_left; (· (intro wS hSw; (try dsimp only at hSw); go_simp; first | done | with_reducible rfl)); simp only [Act.put, sta_, scz_, scs_]); (refine take_op (i := 4) (v := ?_) rfl (by kernel_rfl) (by kernel_rfl) (by kernel_rfl) (fun _ _ _ h => h) (by rfl) ?_ hHeld ?_; rotate_left; (· (intro wS hSw; (try dsimp only at hSw); go_simp; first | done | with_reducible rfl)); simp only [Act.put, sta_, scz_, scs_])
 refine three_op (i := 1) (j := 5) (k := 6) rfl rfl rfl (by kernel_rfl) (by rfl) (by rfl) (by rfl) ?_ ?_ ?_
 ·(intro K hK; go_simp; (go_at_call 54; (with_reducible refine (Hof.out _ kk).mono ?_); rintro e w2 ⟨rfl, hb1⟩; replace X := X.keep hb1; replace R := R.keep hb1; replace kk := below_call kk hb1 kk.size; have hz_1 := hb1.size; replace hz : w.heap.size + 2 ≤ w2.heap.size := (by omega)); refine hK.out _ _ (X.sm) (fun hHeld2 => ?_); clear hK K hHeld; have hHeld := hHeld2; clear hHeld2; (try simp only [Act.put, sta_, scz_, scs_]))
  refine two_op (i := 5) (j := 6) rfl rfl (by kernel_rfl) (by rfl) (by rfl) ?_ ?_
  ·(intro K hK; go_simp; skip; refine hK.out _ _ ((X.alloc (.cells #[.bool false, .bool false, .bool false, .bool false, .bool false, .bool false] 99)).sm) (fun hHeld2 => ?_); clear hK K hHeld; have hHeld := hHeld2; clear hHeld2; (try simp only [Act.put, sta_, scz_, scs_]))
   have Hh := Blk.new w2 99 #[.bool false, .bool false, .bool false, .bool false, .bool false, .bool false]
   have hgh := hz
   replace X := X.alloc (.cells #[.bool false, .bool false, .bool false, .bool false, .bool false, .bool false] 99)
   replace R := R.alloc (.cells #[.bool false, .bool false, .bool false, .bool false, .bool false, .bool false] 99)
   replace kk := kk.alloc kk.size (.cells #[.bool false, .bool false, .bool false, .bool false, .bool false, .bool false] 99)
   replace hz : w.heap.size + 2 ≤ (World.alloc w2 (.cells #[.bool false, .bool false, .bool false, .bool false, .bool false, .bool false] 99)).heap.size := by simp; omega
   revert hHeld Hh hgh X R kk hz
   generalize World.alloc w2 _ = w3
   generalize w2.heap.size = gh
   intro hHeld Hh hgh X R kk hz
   (refine call_op (i := 6) rfl (by kernel_rfl) (by rfl) (fun K hK => ?_); go_simp; skip; refine hK.out _ _ ((X.alloc (.cells #[.int .i64 0, .int .i64 0, .int .i64 0, .int .i64 0, .int .i64 0, .int .i64 0, .int .i64 0, .int .i64 0, .int .i64 0, .int .i64 0, .int .i64 0, .string ⟨#[]⟩, .string ⟨#[]⟩, .int .i64 0, .slice none 0 0, .int .i64 0, .int .i64 0, .int .i64 0] 50)).sm) (fun hHeld2 => ?_); clear hK K hHeld; have hHeld := hHeld2; clear hHeld2; (try simp only [Act.put, sta_, scz_, scs_]))
   have O := Blk.new w3 50 #[.int .i64 0, .int .i64 0, .int .i64 0, .int .i64 0, .int .i64 0, .int .i64 0, .int .i64 0, .int .i64 0, .int .i64 0, .int .i64 0, .int .i64 0, .string ⟨#[]⟩, .string ⟨#[]⟩, .int .i64 0, .slice none 0 0, .int .i64 0, .int .i64 0, .int .i64 0]
   have hgo := hz
   have hne : gh ≠ w3.heap.size := by have := Hh.lt; omega
   replace X := X.alloc (.cells #[.int .i64 0, .int .i64 0, .int .i64 0, .int .i64 0, .int .i64 0, .int .i64 0, .int .i64 0, .int .i64 0, .int .i64 0, .int .i64 0, .int .i64 0, .string ⟨#[]⟩, .string ⟨#[]⟩, .int .i64 0, .slice none 0 0, .int .i64 0, .int .i64 0, .int .i64 0] 50)
   replace R := R.alloc (.cells #[.int .i64 0, .int .i64 0, .int .i64 0, .int .i64 0, .int .i64 0, .int .i64 0, .int .i64 0, .int .i64 0, .int .i64 0, .int .i64 0, .int .i64 0, .string ⟨#[]⟩, .string ⟨#[]⟩, .int .i64 0, .slice none 0 0, .int .i64 0, .int .i64 0, .int .i64 0] 50)
   replace Hh := Hh.alloc (.cells #[.int .i64 0, .int .i64 0, .int .i64 0, .int .i64 0, .int .i64 0, .int .i64 0, .int .i64 0, .int .i64 0, .int .i64 0, .int .i64 0, .int .i64 0, .string ⟨#[]⟩, .string ⟨#[]⟩, .int .i64 0, .slice none 0 0, .int .i64 0, .int .i64 0, .int .i64 0] 50)
   replace kk := kk.alloc kk.size (.cells #[.int .i64 0, .int .i64 0, .int .i64 0, .int .i64 0, .int .i64 0, .int .i64 0, .int .i64 0, .int .i64 0, .int .i64 0, .int .i64 0, .int .i64 0, .string ⟨#[]⟩, .string ⟨#[]⟩, .int .i64 0, .slice none 0 0, .int .i64 0, .int .i64 0, .int .i64 0] 50)
   replace hz : w.heap.size + 2 ≤ (World.alloc w3 (.cells #[.int .i64 0, .int .i64 0, .int .i64 0, .int .i64 0, .int .i64 0, .int .i64 0, .int .i64 0, .int .i64 0, .int .i64 0, .int .i64 0, .int .i64 0, .string ⟨#[]⟩, .string ⟨#[]⟩, .int .i64 0, .slice none 0 0, .int .i64 0, .int .i64 0, .int .i64 0] 50)).heap.size := by simp; omega
   revert hHeld O hgo hne X R Hh kk hz
   generalize World.alloc w3 _ = w4
   generalize w3.heap.size = go
   intro hHeld O hgo hne X R Hh kk hz
   have cH := Hh.cell
   have fH := Hh.frozen
   have H' : Blk ((((((w4.setCell ⟨gh, 0, none⟩ (.bool f0)).setCell ⟨gh, 1, none⟩ (.bool f1)).setCell ⟨gh, 2, none⟩ (.bool f2)).setCell ⟨gh, 3, none⟩ (.bool f3)).setCell ⟨gh, 4, none⟩ (.bool f4)).setCell ⟨gh, 5, none⟩ (.bool f5)) gh 99 #[.bool f0, .bool f1, .bool f2, .bool f3, .bool f4, .bool f5] := by
    have := ((((((Hh.set_ 0 (.bool f0)).set_ 1 (.bool f1)).set_ 2 (.bool f2)).set_ 3 (.bool f3)).set_ 4 (.bool f4)).set_ 5 (.bool f5))
    simpa using this
   have X' := ((((((X.far (p := ⟨gh, 0, none⟩) (by simp; omega) (.bool f0)).far (p := ⟨gh, 1, none⟩) (by simp; omega) (.bool f1)).far (p := ⟨gh, 2, none⟩) (by simp; omega) (.bool f2)).far (p := ⟨gh, 3, none⟩) (by simp; omega) (.bool f3)).far (p := ⟨gh, 4, none⟩) (by simp; omega) (.bool f4)).far (p := ⟨gh, 5, none⟩) (by simp; omega) (.bool f5))
   have R' := ((((((R.far (p := ⟨gh, 0, none⟩) (by simp; omega) (.bool f0)).far (p := ⟨gh, 1, none⟩) (by simp; omega) (.bool f1)).far (p := ⟨gh, 2, none⟩) (by simp; omega) (.bool f2)).far (p := ⟨gh, 3, none⟩) (by simp; omega) (.bool f3)).far (p := ⟨gh, 4, none⟩) (by simp; omega) (.bool f4)).far (p := ⟨gh, 5, none⟩) (by simp; omega) (.bool f5))
   have O' := ((((((O.far (p := ⟨gh, 0, none⟩) (Ne.symm hne) (.bool f0)).far (p := ⟨gh, 1, none⟩) (Ne.symm hne) (.bool f1)).far (p := ⟨gh, 2, none⟩) (Ne.symm hne) (.bool f2)).far (p := ⟨gh, 3, none⟩) (Ne.symm hne) (.bool f3)).far (p := ⟨gh, 4, none⟩) (Ne.symm hne) (.bool f4)).far (p := ⟨gh, 5, none⟩) (Ne.symm hne) (.bool f5))
   have k' := ((((((kk.setCell (p := ⟨gh, 0, none⟩) (by simp; omega) (.bool f0)).setCell (p := ⟨gh, 1, none⟩) (by simp; omega) (.bool f1)).setCell (p := ⟨gh, 2, none⟩) (by simp; omega) (.bool f2)).setCell (p := ⟨gh, 3, none⟩) (by simp; omega) (.bool f3)).setCell (p := ⟨gh, 4, none⟩) (by simp; omega) (.bool f4)).setCell (p := ⟨gh, 5, none⟩) (by simp; omega) (.bool f5))
   (refine call_op (i := 7) rfl (by kernel_rfl) (by rfl) (fun K hK => ?_); go_simp; skip; refine hK.out _ _ (Blk.sm X') (fun hHeld2 => ?_); clear hK K hHeld; have hHeld := hHeld2; clear hHeld2; (try simp only [Act.put, sta_, scz_, scs_]))
   clear cH fH Hh X R O kk hz
   revert hHeld H' X' R' O' k'
   generalize ((((((w4.setCell ⟨gh, 0, none⟩ (.bool f0)).setCell ⟨gh, 1, none⟩ (.bool f1)).setCell ⟨gh, 2, none⟩ (.bool f2)).setCell ⟨gh, 3, none⟩ (.bool f3)).setCell ⟨gh, 4, none⟩ (.bool f4)).setCell ⟨gh, 5, none⟩ (.bool f5)) = W9
   intro Hh X R O kk hHeld
   have st := msg_store O rfl
   (refine call_op (i := 8) rfl (by kernel_rfl) (by rfl) (fun K hK => ?_); go_simp; skip; refine hK.out _ _ (Blk.msgSet_far X (by omega)).sm (fun hHeld2 => ?_); clear hK K hHeld; have hHeld := hHeld2; clear hHeld2; (try simp only [Act.put, sta_, scz_, scs_]))
   clear st
   (refine wpAnyH_done (by kernel_rfl) ?_ _)
   exact FIN _ _ _ (below_msgSet kk (by omega) _) (Blk.msgSet_far X (by omega)) (Blk.msgSet_far R (by omega)) (Blk.msgSet_far Hh hne) (Blk.msgSet O rfl) hgh hgo hne
  ·(intro K hK; go_simp; skip; refine hK.out _ _ ((X.alloc (.cells #[.int .i64 0, .int .i64 0, .int .i64 0, .int .i64 0, .int .i64 0, .int .i64 0, .int .i64 0, .int .i64 0, .int .i64 0, .int .i64 0, .int .i64 0, .string ⟨#[]⟩, .string ⟨#[]⟩, .int .i64 0, .slice none 0 0, .int .i64 0, .int .i64 0, .int .i64 0] 50)).sm) (fun hHeld2 => ?_); clear hK K hHeld; have hHeld := hHeld2; clear hHeld2; (try simp only [Act.put, sta_, scz_, scs_]))
   have O := Blk.new w2 50 #[.int .i64 0, .int .i64 0, .int .i64 0, .int .i64 0, .int .i64 0, .int .i64 0, .int .i64 0, .int .i64 0, .int .i64 0, .int .i64 0, .int .i64 0, .string ⟨#[]⟩, .string ⟨#[]⟩, .int .i64 0, .slice none 0 0, .int .i64 0, .int .i64 0, .int .i64 0]
   have hgo := hz
   replace X := X.alloc (.cells #[.int .i64 0, .int .i64 0, .int .i64 0, .int .i64 0, .int .i64 0, .int .i64 0, .int .i64 0, .int .i64 0, .int .i64 0, .int .i64 0, .int .i64 0, .string ⟨#[]⟩, .string ⟨#[]⟩, .int .i64 0, .slice none 0 0, .int .i64 0, .int .i64 0, .int .i64 0] 50)
   replace R := R.alloc (.cells #[.int .i64 0, .int .i64 0, .int .i64 0, .int .i64 0, .int .i64 0, .int .i64 0, .int .i64 0, .int .i64 0, .int .i64 0, .int .i64 0, .int .i64 0, .string ⟨#[]⟩, .string ⟨#[]⟩, .int .i64 0, .slice none 0 0, .int .i64 0, .int .i64 0, .int .i64 0] 50)
   replace kk := kk.alloc kk.size (.cells #[.int .i64 0, .int .i64 0, .int .i64 0, .int .i64 0, .int .i64 0, .int .i64 0, .int .i64 0, .int .i64 0, .int .i64 0, .int .i64 0, .int .i64 0, .string ⟨#[]⟩, .string ⟨#[]⟩, .int .i64 0, .slice none 0 0, .int .i64 0, .int .i64 0, .int .i64 0] 50)
   replace hz : w.heap.size + 2 ≤ (World.alloc w2 (.cells #[.int .i64 0, .int .i64 0, .int .i64 0, .int .i64 0, .int .i64 0, .int .i64 0, .int .i64 0, .int .i64 0, .int .i64 0, .int .i64 0, .int .i64 0, .string ⟨#[]⟩, .string ⟨#[]⟩, .int .i64 0, .slice none 0 0, .int .i64 0, .int .i64 0, .int .i64 0] 50)).heap.size := by simp; omega
   revert hHeld O hgo X R kk hz
   generalize World.alloc w2 _ = w5
   generalize w2.heap.size = go
   intro hHeld O hgo X R kk hz
   (refine call_op (i := 5) rfl (by kernel_rfl) (by rfl) (fun K hK => ?_); go_simp; skip; refine hK.out _ _ ((X.alloc (.cells #[.bool false, .bool false, .bool false, .bool false, .bool false, .bool false] 99)).sm) (fun hHeld2 => ?_); clear hK K hHeld; have hHeld := hHeld2; clear hHeld2; (try simp only [Act.put, sta_, scz_, scs_]))
   have Hh := Blk.new w5 99 #[.bool false, .bool false, .bool false, .bool false, .bool false, .bool false]
   have hgh := hz
   have hne : w5.heap.size ≠ go := by have := O.lt; omega
   replace X := X.alloc (.cells #[.bool false, .bool false, .bool false, .bool false, .bool false, .bool false] 99)
   replace R := R.alloc (.cells #[.bool false, .bool false, .bool false, .bool false, .bool false, .bool false] 99)
   replace O := O.alloc (.cells #[.bool false, .bool false, .bool false, .bool false, .bool false, .bool false] 99)
   replace kk := kk.alloc kk.size (.cells #[.bool false, .bool false, .bool false, .bool false, .bool false, .bool false] 99)
   replace hz : w.heap.size + 2 ≤ (World.alloc w5 (.cells #[.bool false, .bool false, .bool false, .bool false, .bool false, .bool false] 99)).heap.size := by simp; omega
   revert hHeld Hh hgh hne X R O kk hz
   generalize World.alloc w5 _ = w6
   generalize w5.heap.size = gh
   intro hHeld Hh hgh hne X R O kk hz
   have cH := Hh.cell
   have fH := Hh.frozen
   have H' : Blk ((((((w6.setCell ⟨gh, 0, none⟩ (.bool f0)).setCell ⟨gh, 1, none⟩ (.bool f1)).setCell ⟨gh, 2, none⟩ (.bool f2)).setCell ⟨gh, 3, none⟩ (.bool f3)).setCell ⟨gh, 4, none⟩ (.bool f4)).setCell ⟨gh, 5, none⟩ (.bool f5)) gh 99 #[.bool f0, .bool f1, .bool f2, .bool f3, .bool f4, .bool f5] := by
    have := ((((((Hh.set_ 0 (.bool f0)).set_ 1 (.bool f1)).set_ 2 (.bool f2)).set_ 3 (.bool f3)).set_ 4 (.bool f4)).set_ 5 (.bool f5))
    simpa using this
   have X' := ((((((X.far (p := ⟨gh, 0, none⟩) (by simp; omega) (.bool f0)).far (p := ⟨gh, 1, none⟩) (by simp; omega) (.bool f1)).far (p := ⟨gh, 2, none⟩) (by simp; omega) (.bool f2)).far (p := ⟨gh, 3, none⟩) (by simp; omega) (.bool f3)).far (p := ⟨gh, 4, none⟩) (by simp; omega) (.bool f4)).far (p := ⟨gh, 5, none⟩) (by simp; omega) (.bool f5))
   have R' := ((((((R.far (p := ⟨gh, 0, none⟩) (by simp; omega) (.bool f0)).far (p := ⟨gh, 1, none⟩) (by simp; omega) (.bool f1)).far (p := ⟨gh, 2, none⟩) (by simp; omega) (.bool f2)).far (p := ⟨gh, 3, none⟩) (by simp; omega) (.bool f3)).far (p := ⟨gh, 4, none⟩) (by simp; omega) (.bool f4)).far (p := ⟨gh, 5, none⟩) (by simp; omega) (.bool f5))
   have O' := ((((((O.far (p := ⟨gh, 0, none⟩) (Ne.symm hne) (.bool f0)).far (p := ⟨gh, 1, none⟩) (Ne.symm hne) (.bool f1)).far (p := ⟨gh, 2, none⟩) (Ne.symm hne) (.bool f2)).far (p := ⟨gh, 3, none⟩) (Ne.symm hne) (.bool f3)).far (p := ⟨gh, 4, none⟩) (Ne.symm hne) (.bool f4)).far (p := ⟨gh, 5, none⟩) (Ne.symm hne) (.bool f5))
   have k' := ((((((kk.setCell (p := ⟨gh, 0, none⟩) (by simp; omega) (.bool f0)).setCell (p := ⟨gh, 1, none⟩) (by simp; omega) (.bool f1)).setCell (p := ⟨gh, 2, none⟩) (by simp; omega) (.bool f2)).setCell (p := ⟨gh, 3, none⟩) (by simp; omega) (.bool f3)).setCell (p := ⟨gh, 4, none⟩) (by simp; omega) (.bool f4)).setCell (p := ⟨gh, 5, none⟩) (by simp; omega) (.bool f5))
   (refine call_op (i := 7) rfl (by kernel_rfl) (by rfl) (fun K hK => ?_); go_simp; skip; refine hK.out _ _ (Blk.sm X') (fun hHeld2 => ?_); clear hK K hHeld; have hHeld := hHeld2; clear hHeld2; (try simp only [Act.put, sta_, scz_, scs_]))
   clear cH fH Hh X R O kk hz
   revert hHeld H' X' R' O' k'
   generalize ((((((w6.setCell ⟨gh, 0, none⟩ (.bool f0)).setCell ⟨gh, 1, none⟩ (.bool f1)).setCell ⟨gh, 2, none⟩ (.bool f2)).setCell ⟨gh, 3, none⟩ (.bool f3)).setCell ⟨gh, 4, none⟩ (.bool f4)).setCell ⟨gh, 5, none⟩ (.bool f5)) = W9
   intro Hh X R O kk hHeld
   have st := msg_store O rfl
   (refine call_op (i := 8) rfl (by kernel_rfl) (by rfl) (fun K hK => ?_); go_simp; skip; refine hK.out _ _ (Blk.msgSet_far X (by omega)).sm (fun hHeld2 => ?_); clear hK K hHeld; have hHeld := hHeld2; clear hHeld2; (try simp only [Act.put, sta_, scz_, scs_]))
   clear st
   (refine wpAnyH_done (by kernel_rfl) ?_ _)
   exact FIN _ _ _ (below_msgSet kk (by omega) _) (Blk.msgSet_far X (by omega)) (Blk.msgSet_far R (by omega)) (Blk.msgSet_far Hh hne) (Blk.msgSet O rfl) hgh hgo hne
 ·(intro K hK; go_simp; skip; refine hK.out _ _ ((X.alloc (.cells #[.bool false, .bool false, .bool false, .bool false, .bool false, .bool false] 99)).sm) (fun hHeld2 => ?_); clear hK K hHeld; have hHeld := hHeld2; clear hHeld2; (try simp only [Act.put, sta_, scz_, scs_]))
  have Hh := Blk.new wd 99 #[.bool false, .bool false, .bool false, .bool false, .bool false, .bool false]
  have hgh := hz
  replace X := X.alloc (.cells #[.bool false, .bool false, .bool false, .bool false, .bool false, .bool false] 99)
  replace R := R.alloc (.cells #[.bool false, .bool false, .bool false, .bool false, .bool false, .bool false] 99)
  replace kk := kk.alloc kk.size (.cells #[.bool false, .bool false, .bool false, .bool false, .bool false, .bool false] 99)
  replace hz : w.heap.size + 2 ≤ (World.alloc wd (.cells #[.bool false, .bool false, .bool false, .bool false, .bool false, .bool false] 99)).heap.size := by simp; omega
  revert hHeld Hh hgh X R kk hz
  generalize World.alloc wd _ = w7
  generalize wd.heap.size = gh
  intro hHeld Hh hgh X R kk hz
  refine two_op (i := 1) (j := 6) rfl rfl (by kernel_rfl) (by rfl) (by rfl) ?_ ?_
  ·(intro K hK; go_simp; (go_at_call 54; (with_reducible refine (Hof.out _ kk).mono ?_); rintro e w8 ⟨rfl, hb7⟩; replace X := X.keep hb7; replace R := R.keep hb7; replace Hh := Hh.keep hb7; replace kk := below_call kk hb7 kk.size; have hz_7 := hb7.size; replace hz : w.heap.size + 2 ≤ w8.heap.size := (by omega)); refine hK.out _ _ (X.sm) (fun hHeld2 => ?_); clear hK K hHeld; have hHeld := hHeld2; clear hHeld2; (try simp only [Act.put, sta_, scz_, scs_]))
   (refine call_op (i := 6) rfl (by kernel_rfl) (by rfl) (fun K hK => ?_); go_simp; skip; refine hK.out _ _ ((X.alloc (.cells #[.int .i64 0, .int .i64 0, .int .i64 0, .int .i64 0, .int .i64 0, .int .i64 0, .int .i64 0, .int .i64 0, .int .i64 0, .int .i64 0, .int .i64 0, .string ⟨#[]⟩, .string ⟨#[]⟩, .int .i64 0, .slice none 0 0, .int .i64 0, .int .i64 0, .int .i64 0] 50)).sm) (fun hHeld2 => ?_); clear hK K hHeld; have hHeld := hHeld2; clear hHeld2; (try simp only [Act.put, sta_, scz_, scs_]))
   have O := Blk.new w8 50 #[.int .i64 0, .int .i64 0, .int .i64 0, .int .i64 0, .int .i64 0, .int .i64 0, .int .i64 0, .int .i64 0, .int .i64 0, .int .i64 0, .int .i64 0, .string ⟨#[]⟩, .string ⟨#[]⟩, .int .i64 0, .slice none 0 0, .int .i64 0, .int .i64 0, .int .i64 0]
   have hgo := hz
   have hne : gh ≠ w8.heap.size := by have := Hh.lt; omega
   replace X := X.alloc (.cells #[.int .i64 0, .int .i64 0, .int .i64 0, .int .i64 0, .int .i64 0, .int .i64 0, .int .i64 0, .int .i64 0, .int .i64 0, .int .i64 0, .int .i64 0, .string ⟨#[]⟩, .string ⟨#[]⟩, .int .i64 0, .slice none 0 0, .int .i64 0, .int .i64 0, .int .i64 0] 50)
   replace R := R.alloc (.cells #[.int .i64 0, .int .i64 0, .int .i64 0, .int .i64 0, .int .i64 0, .int .i64 0, .int .i64 0, .int .i64 0, .int .i64 0, .int .i64 0, .int .i64 0, .string ⟨#[]⟩, .string ⟨#[]⟩, .int .i64 0, .slice none 0 0, .int .i64 0, .int .i64 0, .int .i64 0] 50)
   replace Hh := Hh.alloc (.cells #[.int .i64 0, .int .i64 0, .int .i64 0, .int .i64 0, .int .i64 0, .int .i64 0, .int .i64 0, .int .i64 0, .int .i64 0, .int .i64 0, .int .i64 0, .string ⟨#[]⟩, .string ⟨#[]⟩, .int .i64 0, .slice none 0 0, .int .i64 0, .int .i64 0, .int .i64 0] 50)
   replace kk := kk.alloc kk.size (.cells #[.int .i64 0, .int .i64 0, .int .i64 0, .int .i64 0, .int .i64 0, .int .i64 0, .int .i64 0, .int .i64 0, .int .i64 0, .int .i64 0, .int .i64 0, .string ⟨#[]⟩, .string ⟨#[]⟩, .int .i64 0, .slice none 0 0, .int .i64 0, .int .i64 0, .int .i64 0] 50)
   replace hz : w.heap.size + 2 ≤ (World.alloc w8 (.cells #[.int .i64 0, .int .i64 0, .int .i64 0, .int .i64 0, .int .i64 0, .int .i64 0, .int .i64 0, .int .i64 0, .int .i64 0, .int .i64 0, .int .i64 0, .string ⟨#[]⟩, .string ⟨#[]⟩, .int .i64 0, .slice none 0 0, .int .i64 0, .int .i64 0, .int .i64 0] 50)).heap.size := by simp; omega
   revert hHeld O hgo hne X R Hh kk hz
   generalize World.alloc w8 _ = w9
   generalize w8.heap.size = go
   intro hHeld O hgo hne X R Hh kk hz
   have cH := Hh.cell
   have fH := Hh.frozen
   have H' : Blk ((((((w9.setCell ⟨gh, 0, none⟩ (.bool f0)).setCell ⟨gh, 1, none⟩ (.bool f1)).setCell ⟨gh, 2, none⟩ (.bool f2)).setCell ⟨gh, 3, none⟩ (.bool f3)).setCell ⟨gh, 4, none⟩ (.bool f4)).setCell ⟨gh, 5, none⟩ (.bool f5)) gh 99 #[.bool f0, .bool f1, .bool f2, .bool f3, .bool f4, .bool f5] := by
    have := ((((((Hh.set_ 0 (.bool f0)).set_ 1 (.bool f1)).set_ 2 (.bool f2)).set_ 3 (.bool f3)).set_ 4 (.bool f4)).set_ 5 (.bool f5))
    simpa using this
   have X' := ((((((X.far (p := ⟨gh, 0, none⟩) (by simp; omega) (.bool f0)).far (p := ⟨gh, 1, none⟩) (by simp; omega) (.bool f1)).far (p := ⟨gh, 2, none⟩) (by simp; omega) (.bool f2)).far (p := ⟨gh, 3, none⟩) (by simp; omega) (.bool f3)).far (p := ⟨gh, 4, none⟩) (by simp; omega) (.bool f4)).far (p := ⟨gh, 5, none⟩) (by simp; omega) (.bool f5))
   have R' := ((((((R.far (p := ⟨gh, 0, none⟩) (by simp; omega) (.bool f0)).far (p := ⟨gh, 1, none⟩) (by simp; omega) (.bool f1)).far (p := ⟨gh, 2, none⟩) (by simp; omega) (.bool f2)).far (p := ⟨gh, 3, none⟩) (by simp; omega) (.bool f3)).far (p := ⟨gh, 4, none⟩) (by simp; omega) (.bool f4)).far (p := ⟨gh, 5, none⟩) (by simp; omega) (.bool f5))
   have O' := ((((((O.far (p := ⟨gh, 0, none⟩) (Ne.symm hne) (.bool f0)).far (p := ⟨gh, 1, none⟩) (Ne.symm hne) (.bool f1)).far (p := ⟨gh, 2, none⟩) (Ne.symm hne) (.bool f2)).far (p := ⟨gh, 3, none⟩) (Ne.symm hne) (.bool f3)).far (p := ⟨gh, 4, none⟩) (Ne.symm hne) (.bool f4)).far (p := ⟨gh, 5, none⟩) (Ne.symm hne) (.bool f5))
   have k' := ((((((kk.setCell (p := ⟨gh, 0, none⟩) (by simp; omega) (.bool f0)).setCell (p := ⟨gh, 1, none⟩) (by simp; omega) (.bool f1)).setCell (p := ⟨gh, 2, none⟩) (by simp; omega) (.bool f2)).setCell (p := ⟨gh, 3, none⟩) (by simp; omega) (.bool f3)).setCell (p := ⟨gh, 4, none⟩) (by simp; omega) (.bool f4)).setCell (p := ⟨gh, 5, none⟩) (by simp; omega) (.bool f5))
   (refine call_op (i := 7) rfl (by kernel_rfl) (by rfl) (fun K hK => ?_); go_simp; skip; refine hK.out _ _ (Blk.sm X') (fun hHeld2 => ?_); clear hK K hHeld; have hHeld := hHeld2; clear hHeld2; (try simp only [Act.put, sta_, scz_, scs_]))
   clear cH fH Hh X R O kk hz
   revert hHeld H' X' R' O' k'
   generalize ((((((w9.setCell ⟨gh, 0, none⟩ (.bool f0)).setCell ⟨gh, 1, none⟩ (.bool f1)).setCell ⟨gh, 2, none⟩ (.bool f2)).setCell ⟨gh, 3, none⟩ (.bool f3)).setCell ⟨gh, 4, none⟩ (.bool f4)).setCell ⟨gh, 5, none⟩ (.bool f5)) = W9
   intro Hh X R O kk hHeld
   have st := msg_store O rfl
   (refine call_op (i := 8) rfl (by kernel_rfl) (by rfl) (fun K hK => ?_); go_simp; skip; refine hK.out _ _ (Blk.msgSet_far X (by omega)).sm (fun hHeld2 => ?_); clear hK K hHeld; have hHeld := hHeld2; clear hHeld2; (try simp only [Act.put, sta_, scz_, scs_]))
   clear st
   (refine wpAnyH_done (by kernel_rfl) ?_ _)
   exact FIN _ _ _ (below_msgSet kk (by omega) _) (Blk.msgSet_far X (by omega)) (Blk.msgSet_far R (by omega)) (Blk.msgSet_far Hh hne) (Blk.msgSet O rfl) hgh hgo hne
  ·(intro K hK; go_simp; skip; refine hK.out _ _ ((X.alloc (.cells #[.int .i64 0, .int .i64 0, .int .i64 0, .int .i64 0, .int .i64 0, .int .i64 0, .int .i64 0, .int .i64 0, .int .i64 0, .int .i64 0, .int .i64 0, .string ⟨#[]⟩, .string ⟨#[]⟩, .int .i64 0, .slice none 0 0, .int .i64 0, .int .i64 0, .int .i64 0] 50)).sm) (fun hHeld2 => ?_); clear hK K hHeld; have hHeld := hHeld2; clear hHeld2; (try simp only [Act.put, sta_, scz_, scs_]))
   have O := Blk.new w7 50 #[.int .i64 0, .int .i64 0, .int .i64 0, .int .i64 0, .int .i64 0, .int .i64 0, .int .i64 0, .int .i64 0, .int .i64 0, .int .i64 0, .int .i64 0, .string ⟨#[]⟩, .string ⟨#[]⟩, .int .i64 0, .slice none 0 0, .int .i64 0, .int .i64 0, .int .i64 0]
   have hgo := hz
   have hne : gh ≠ w7.heap.size := by have := Hh.lt; omega
   replace X := X.alloc (.cells #[.int .i64 0, .int .i64 0, .int .i64 0, .int .i64 0, .int .i64 0, .int .i64 0, .int .i64 0, .int .i64 0, .int .i64 0, .int .i64 0, .int .i64 0, .string ⟨#[]⟩, .string ⟨#[]⟩, .int .i64 0, .slice none 0 0, .int .i64 0, .int .i64 0, .int .i64 0] 50)
   replace R := R.alloc (.cells #[.int .i64 0, .int .i64 0, .int .i64 0, .int .i64 0, .int .i64 0, .int .i64 0, .int .i64 0, .int .i64 0, .int .i64 0, .int .i64 0, .int .i64 0, .string ⟨#[]⟩, .string ⟨#[]⟩, .int .i64 0, .slice none 0 0, .int .i64 0, .int .i64 0, .int .i64 0] 50)
   replace Hh := Hh.alloc (.cells #[.int .i64 0, .int .i64 0, .int .i64 0, .int .i64 0, .int .i64 0, .int .i64 0, .int .i64 0, .int .i64 0, .int .i64 0, .int .i64 0, .int .i64 0, .string ⟨#[]⟩, .string ⟨#[]⟩, .int .i64 0, .slice none 0 0, .int .i64 0, .int .i64 0, .int .i64 0] 50)
   replace kk := kk.alloc kk.size (.cells #[.int .i64 0, .int .i64 0, .int .i64 0, .int .i64 0, .int .i64 0, .int .i64 0, .int .i64 0, .int .i64 0, .int .i64 0, .int .i64 0, .int .i64 0, .string ⟨#[]⟩, .string ⟨#[]⟩, .int .i64 0, .slice none 0 0, .int .i64 0, .int .i64 0, .int .i64 0] 50)
   replace hz : w.heap.size + 2 ≤ (World.alloc w7 (.cells #[.int .i64 0, .int .i64 0, .int .i64 0, .int .i64 0, .int .i64 0, .int .i64 0, .int .i64 0, .int .i64 0, .int .i64 0, .int .i64 0, .int .i64 0, .string ⟨#[]⟩, .string ⟨#[]⟩, .int .i64 0, .slice none 0 0, .int .i64 0, .int .i64 0, .int .i64 0] 50)).heap.size := by simp; omega
   revert hHeld O hgo hne X R Hh kk hz
   generalize World.alloc w7 _ = w10
   generalize w7.heap.size = go
   intro hHeld O hgo hne X R Hh kk hz
   (refine call_op (i := 1) rfl (by kernel_rfl) (by rfl) (fun K hK => ?_); go_simp; (go_at_call 54; (with_reducible refine (Hof.out _ kk).mono ?_); rintro e w11 ⟨rfl, hb10⟩; replace X := X.keep hb10; replace R := R.keep hb10; replace Hh := Hh.keep hb10; replace O := O.keep hb10; replace kk := below_call kk hb10 kk.size; have hz_10 := hb10.size; replace hz : w.heap.size + 2 ≤ w11.heap.size := (by omega)); refine hK.out _ _ (X.sm) (fun hHeld2 => ?_); clear hK K hHeld; have hHeld := hHeld2; clear hHeld2; (try simp only [Act.put, sta_, scz_, scs_]))
   have cH := Hh.cell
   have fH := Hh.frozen
   have H' : Blk ((((((w11.setCell ⟨gh, 0, none⟩ (.bool f0)).setCell ⟨gh, 1, none⟩ (.bool f1)).setCell ⟨gh, 2, none⟩ (.bool f2)).setCell ⟨gh, 3, none⟩ (.bool f3)).setCell ⟨gh, 4, none⟩ (.bool f4)).setCell ⟨gh, 5, none⟩ (.bool f5)) gh 99 #[.bool f0, .bool f1, .bool f2, .bool f3, .bool f4, .bool f5] := by
    have := ((((((Hh.set_ 0 (.bool f0)).set_ 1 (.bool f1)).set_ 2 (.bool f2)).set_ 3 (.bool f3)).set_ 4 (.bool f4)).set_ 5 (.bool f5))
    simpa using this
   have X' := ((((((X.far (p := ⟨gh, 0, none⟩) (by simp; omega) (.bool f0)).far (p := ⟨gh, 1, none⟩) (by simp; omega) (.bool f1)).far (p := ⟨gh, 2, none⟩) (by simp; omega) (.bool f2)).far (p := ⟨gh, 3, none⟩) (by simp; omega) (.bool f3)).far (p := ⟨gh, 4, none⟩) (by simp; omega) (.bool f4)).far (p := ⟨gh, 5, none⟩) (by simp; omega) (.bool f5))
   have R' := ((((((R.far (p := ⟨gh, 0, none⟩) (by simp; omega) (.bool f0)).far (p := ⟨gh, 1, none⟩) (by simp; omega) (.bool f1)).far (p := ⟨gh, 2, none⟩) (by simp; omega) (.bool f2)).far (p := ⟨gh, 3, none⟩) (by simp; omega) (.bool f3)).far (p := ⟨gh, 4, none⟩) (by simp; omega) (.bool f4)).far (p := ⟨gh, 5, none⟩) (by simp; omega) (.bool f5))
   have O' := ((((((O.far (p := ⟨gh, 0, none⟩) (Ne.symm hne) (.bool f0)).far (p := ⟨gh, 1, none⟩) (Ne.symm hne) (.bool f1)).far (p := ⟨gh, 2, none⟩) (Ne.symm hne) (.bool f2)).far (p := ⟨gh, 3, none⟩) (Ne.symm hne) (.bool f3)).far (p := ⟨gh, 4, none⟩) (Ne.symm hne) (.bool f4)).far (p := ⟨gh, 5, none⟩) (Ne.symm hne) (.bool f5))
   have k' := ((((((kk.setCell (p := ⟨gh, 0, none⟩) (by simp; omega) (.bool f0)).setCell (p := ⟨gh, 1, none⟩) (by simp; omega) (.bool f1)).setCell (p := ⟨gh, 2, none⟩) (by simp; omega) (.bool f2)).setCell (p := ⟨gh, 3, none⟩) (by simp; omega) (.bool f3)).setCell (p := ⟨gh, 4, none⟩) (by simp; omega) (.bool f4)).setCell (p := ⟨gh, 5, none⟩) (by simp; omega) (.bool f5))
   (refine call_op (i := 7) rfl (by kernel_rfl) (by rfl) (fun K hK => ?_); go_simp; skip; refine hK.out _ _ (Blk.sm X') (fun hHeld2 => ?_); clear hK K hHeld; have hHeld := hHeld2; clear hHeld2; (try simp only [Act.put, sta_, scz_, scs_]))
   clear cH fH Hh X R O kk hz
   revert hHeld H' X' R' O' k'
   generalize ((((((w11.setCell ⟨gh, 0, none⟩ (.bool f0)).setCell ⟨gh, 1, none⟩ (.bool f1)).setCell ⟨gh, 2, none⟩ (.bool f2)).setCell ⟨gh, 3, none⟩ (.bool f3)).setCell ⟨gh, 4, none⟩ (.bool f4)).setCell ⟨gh, 5, none⟩ (.bool f5)) = W9
   intro Hh X R O kk hHeld
   have st := msg_store O rfl
   (refine call_op (i := 8) rfl (by kernel_rfl) (by rfl) (fun K hK => ?_); go_simp; skip; refine hK.out _ _ (Blk.msgSet_far X (by omega)).sm (fun hHeld2 => ?_); clear hK K hHeld; have hHeld := hHeld2; clear hHeld2; (try simp only [Act.put, sta_, scz_, scs_]))
   clear st
   (refine wpAnyH_done (by kernel_rfl) ?_ _)
   exact FIN _ _ _ (below_msgSet kk (by omega) _) (Blk.msgSet_far X (by omega)) (Blk.msgSet_far R (by omega)) (Blk.msgSet_far Hh hne) (Blk.msgSet O rfl) hgh hgo hne
 ·(intro K hK; go_simp; skip; refine hK.out _ _ ((X.alloc (.cells #[.int .i64 0, .int .i64 0, .int .i64 0, .int .i64 0, .int .i64 0, .int .i64 0, .int .i64 0, .int .i64 0, .int .i64 0, .int .i64 0, .int .i64 0, .string ⟨#[]⟩, .string ⟨#[]⟩, .int .i64 0, .slice none 0 0, .int .i64 0, .int .i64 0, .int .i64 0] 50)).sm) (fun hHeld2 => ?_); clear hK K hHeld; have hHeld := hHeld2; clear hHeld2; (try simp only [Act.put, sta_, scz_, scs_]))
  have O := Blk.new wd 50 #[.int .i64 0, .int .i64 0, .int .i64 0, .int .i64 0, .int .i64 0, .int .i64 0, .int .i64 0, .int .i64 0, .int .i64 0, .int .i64 0, .int .i64 0, .string ⟨#[]⟩, .string ⟨#[]⟩, .int .i64 0, .slice none 0 0, .int .i64 0, .int .i64 0, .int .i64 0]
  have hgo := hz
  replace X := X.alloc (.cells #[.int .i64 0, .int .i64 0, .int .i64 0, .int .i64 0, .int .i64 0, .int .i64 0, .int .i64 0, .int .i64 0, .int .i64 0, .int .i64 0, .int .i64 0, .string ⟨#[]⟩, .string ⟨#[]⟩, .int .i64 0, .slice none 0 0, .int .i64 0, .int .i64 0, .int .i64 0] 50)
  replace R := R.alloc (.cells #[.int .i64 0, .int .i64 0, .int .i64 0, .int .i64 0, .int .i64 0, .int .i64 0, .int .i64 0, .int .i64 0, .int .i64 0, .int .i64 0, .int .i64 0, .string ⟨#[]⟩, .string ⟨#[]⟩, .int .i64 0, .slice none 0 0, .int .i64 0, .int .i64 0, .int .i64 0] 50)
  replace kk := kk.alloc kk.size (.cells #[.int .i64 0, .int .i64 0, .int .i64 0, .int .i64 0, .int .i64 0, .int .i64 0, .int .i64 0, .int .i64 0, .int .i64 0, .int .i64 0, .int .i64 0, .string ⟨#[]⟩, .string ⟨#[]⟩, .int .i64 0, .slice none 0 0, .int .i64 0, .int .i64 0, .int .i64 0] 50)
  replace hz : w.heap.size + 2 ≤ (World.alloc wd (.cells #[.int .i64 0, .int .i64 0, .int .i64 0, .int .i64 0, .int .i64 0, .int .i64 0, .int .i64 0, .int .i64 0, .int .i64 0, .int .i64 0, .int .i64 0, .string ⟨#[]⟩, .string ⟨#[]⟩, .int .i64 0, .slice none 0 0, .int .i64 0, .int .i64 0, .int .i64 0] 50)).heap.size := by simp; omega
  revert hHeld O hgo X R kk hz
  generalize World.alloc wd _ = w12
  generalize wd.heap.size = go
  intro hHeld O hgo X R kk hz
  refine two_op (i := 1) (j := 5) rfl rfl (by kernel_rfl) (by rfl) (by rfl) ?_ ?_
  ·(intro K hK; go_simp; (go_at_call 54; (with_reducible refine (Hof.out _ kk).mono ?_); rintro e w13 ⟨rfl, hb12⟩; replace X := X.keep hb12; replace R := R.keep hb12; replace O := O.keep hb12; replace kk := below_call kk hb12 kk.size; have hz_12 := hb12.size; replace hz : w.heap.size + 2 ≤ w13.heap.size := (by omega)); refine hK.out _ _ (X.sm) (fun hHeld2 => ?_); clear hK K hHeld; have hHeld := hHeld2; clear hHeld2; (try simp only [Act.put, sta_, scz_, scs_]))
   (refine call_op (i := 5) rfl (by kernel_rfl) (by rfl) (fun K hK => ?_); go_simp; skip; refine hK.out _ _ ((X.alloc (.cells #[.bool false, .bool false, .bool false, .bool false, .bool false, .bool false] 99)).sm) (fun hHeld2 => ?_); clear hK K hHeld; have hHeld := hHeld2; clear hHeld2; (try simp only [Act.put, sta_, scz_, scs_]))
   have Hh := Blk.new w13 99 #[.bool false, .bool false, .bool false, .bool false, .bool false, .bool false]
   have hgh := hz
   have hne : w13.heap.size ≠ go := by have := O.lt; omega
   replace X := X.alloc (.cells #[.bool false, .bool false, .bool false, .bool false, .bool false, .bool false] 99)
   replace R := R.alloc (.cells #[.bool false, .bool false, .bool false, .bool false, .bool false, .bool false] 99)
   replace O := O.alloc (.cells #[.bool false, .bool false, .bool false, .bool false, .bool false, .bool false] 99)
   replace kk := kk.alloc kk.size (.cells #[.bool false, .bool false, .bool false, .bool false, .bool false, .bool false] 99)
   replace hz : w.heap.size + 2 ≤ (World.alloc w13 (.cells #[.bool false, .bool false, .bool false, .bool false, .bool false, .bool false] 99)).heap.size := by simp; omega
   revert hHeld Hh hgh hne X R O kk hz
   generalize World.alloc w13 _ = w14
   generalize w13.heap.size = gh
   intro hHeld Hh hgh hne X R O kk hz
   have cH := Hh.cell
   have fH := Hh.frozen
   have H' : Blk ((((((w14.setCell ⟨gh, 0, none⟩ (.bool f0)).setCell ⟨gh, 1, none⟩ (.bool f1)).setCell ⟨gh, 2, none⟩ (.bool f2)).setCell ⟨gh, 3, none⟩ (.bool f3)).setCell ⟨gh, 4, none⟩ (.bool f4)).setCell ⟨gh, 5, none⟩ (.bool f5)) gh 99 #[.bool f0, .bool f1, .bool f2, .bool f3, .bool f4, .bool f5] := by
    have := ((((((Hh.set_ 0 (.bool f0)).set_ 1 (.bool f1)).set_ 2 (.bool f2)).set_ 3 (.bool f3)).set_ 4 (.bool f4)).set_ 5 (.bool f5))
    simpa using this
   have X' := ((((((X.far (p := ⟨gh, 0, none⟩) (by simp; omega) (.bool f0)).far (p := ⟨gh, 1, none⟩) (by simp; omega) (.bool f1)).far (p := ⟨gh, 2, none⟩) (by simp; omega) (.bool f2)).far (p := ⟨gh, 3, none⟩) (by simp; omega) (.bool f3)).far (p := ⟨gh, 4, none⟩) (by simp; omega) (.bool f4)).far (p := ⟨gh, 5, none⟩) (by simp; omega) (.bool f5))
   have R' := ((((((R.far (p := ⟨gh, 0, none⟩) (by simp; omega) (.bool f0)).far (p := ⟨gh, 1, none⟩) (by simp; omega) (.bool f1)).far (p := ⟨gh, 2, none⟩) (by simp; omega) (.bool f2)).far (p := ⟨gh, 3, none⟩) (by simp; omega) (.bool f3)).far (p := ⟨gh, 4, none⟩) (by simp; omega) (.bool f4)).far (p := ⟨gh, 5, none⟩) (by simp; omega) (.bool f5))
   have O' := ((((((O.far (p := ⟨gh, 0, none⟩) (Ne.symm hne) (.bool f0)).far (p := ⟨gh, 1, none⟩) (Ne.symm hne) (.bool f1)).far (p := ⟨gh, 2, none⟩) (Ne.symm hne) (.bool f2)).far (p := ⟨gh, 3, none⟩) (Ne.symm hne) (.bool f3)).far (p := ⟨gh, 4, none⟩) (Ne.symm hne) (.bool f4)).far (p := ⟨gh, 5, none⟩) (Ne.symm hne) (.bool f5))
   have k' := ((((((kk.setCell (p := ⟨gh, 0, none⟩) (by simp; omega) (.bool f0)).setCell (p := ⟨gh, 1, none⟩) (by simp; omega) (.bool f1)).setCell (p := ⟨gh, 2, none⟩) (by simp; omega) (.bool f2)).setCell (p := ⟨gh, 3, none⟩) (by simp; omega) (.bool f3)).setCell (p := ⟨gh, 4, none⟩) (by simp; omega) (.bool f4)).setCell (p := ⟨gh, 5, none⟩) (by simp; omega) (.bool f5))
   (refine call_op (i := 7) rfl (by kernel_rfl) (by rfl) (fun K hK => ?_); go_simp; skip; refine hK.out _ _ (Blk.sm X') (fun hHeld2 => ?_); clear hK K hHeld; have hHeld := hHeld2; clear hHeld2; (try simp only [Act.put, sta_, scz_, scs_]))
   clear cH fH Hh X R O kk hz
   revert hHeld H' X' R' O' k'
   generalize ((((((w14.setCell ⟨gh, 0, none⟩ (.bool f0)).setCell ⟨gh, 1, none⟩ (.bool f1)).setCell ⟨gh, 2, none⟩ (.bool f2)).setCell ⟨gh, 3, none⟩ (.bool f3)).setCell ⟨gh, 4, none⟩ (.bool f4)).setCell ⟨gh, 5, none⟩ (.bool f5)) = W9
   intro Hh X R O kk hHeld
   have st := msg_store O rfl
   (refine call_op (i := 8) rfl (by kernel_rfl) (by rfl) (fun K hK => ?_); go_simp; skip; refine hK.out _ _ (Blk.msgSet_far X (by omega)).sm (fun hHeld2 => ?_); clear hK K hHeld; have hHeld := hHeld2; clear hHeld2; (try simp only [Act.put, sta_, scz_, scs_]))
   clear st
   (refine wpAnyH_done (by kernel_rfl) ?_ _)
   exact FIN _ _ _ (below_msgSet kk (by omega) _) (Blk.msgSet_far X (by omega)) (Blk.msgSet_far R (by omega)) (Blk.msgSet_far Hh hne) (Blk.msgSet O rfl) hgh hgo hne
  ·(intro K hK; go_simp; skip; refine hK.out _ _ ((X.alloc (.cells #[.bool false, .bool false, .bool false, .bool false, .bool false, .bool false] 99)).sm) (fun hHeld2 => ?_); clear hK K hHeld; have hHeld := hHeld2; clear hHeld2; (try simp only [Act.put, sta_, scz_, scs_]))
   have Hh := Blk.new w12 99 #[.bool false, .bool false, .bool false, .bool false, .bool false, .bool false]
   have hgh := hz
   have hne : w12.heap.size ≠ go := by have := O.lt; omega
   replace X := X.alloc (.cells #[.bool false, .bool false, .bool false, .bool false, .bool false, .bool false] 99)
   replace R := R.alloc (.cells #[.bool false, .bool false, .bool false, .bool false, .bool false, .bool false] 99)
   replace O := O.alloc (.cells #[.bool false, .bool false, .bool false, .bool false, .bool false, .bool false] 99)
   replace kk := kk.alloc kk.size (.cells #[.bool false, .bool false, .bool false, .bool false, .bool false, .bool false] 99)
   replace hz : w.heap.size + 2 ≤ (World.alloc w12 (.cells #[.bool false, .bool false, .bool false, .bool false, .bool false, .bool false] 99)).heap.size := by simp; omega
   revert hHeld Hh hgh hne X R O kk hz
   generalize World.alloc w12 _ = w15
   generalize w12.heap.size = gh
   intro hHeld Hh hgh hne X R O kk hz
   (refine call_op (i := 1) rfl (by kernel_rfl) (by rfl) (fun K hK => ?_); go_simp; (go_at_call 54; (with_reducible refine (Hof.out _ kk).mono ?_); rintro e w16 ⟨rfl, hb15⟩; replace X := X.keep hb15; replace R := R.keep hb15; replace Hh := Hh.keep hb15; replace O := O.keep hb15; replace kk := below_call kk hb15 kk.size; have hz_15 := hb15.size; replace hz : w.heap.size + 2 ≤ w16.heap.size := (by omega)); refine hK.out _ _ (X.sm) (fun hHeld2 => ?_); clear hK K hHeld; have hHeld := hHeld2; clear hHeld2; (try simp only [Act.put, sta_, scz_, scs_]))
   have cH := Hh.cell
   have fH := Hh.frozen
   have H' : Blk ((((((w16.setCell ⟨gh, 0, none⟩ (.bool f0)).setCell ⟨gh, 1, none⟩ (.bool f1)).setCell ⟨gh, 2, none⟩ (.bool f2)).setCell ⟨gh, 3, none⟩ (.bool f3)).setCell ⟨gh, 4, none⟩ (.bool f4)).setCell ⟨gh, 5, none⟩ (.bool f5)) gh 99 #[.bool f0, .bool f1, .bool f2, .bool f3, .bool f4, .bool f5] := by
    have := ((((((Hh.set_ 0 (.bool f0)).set_ 1 (.bool f1)).set_ 2 (.bool f2)).set_ 3 (.bool f3)).set_ 4 (.bool f4)).set_ 5 (.bool f5))
    simpa using this
   have X' := ((((((X.far (p := ⟨gh, 0, none⟩) (by simp; omega) (.bool f0)).far (p := ⟨gh, 1, none⟩) (by simp; omega) (.bool f1)).far (p := ⟨gh, 2, none⟩) (by simp; omega) (.bool f2)).far (p := ⟨gh, 3, none⟩) (by simp; omega) (.bool f3)).far (p := ⟨gh, 4, none⟩) (by simp; omega) (.bool f4)).far (p := ⟨gh, 5, none⟩) (by simp; omega) (.bool f5))
   have R' := ((((((R.far (p := ⟨gh, 0, none⟩) (by simp; omega) (.bool f0)).far (p := ⟨gh, 1, none⟩) (by simp; omega) (.bool f1)).far (p := ⟨gh, 2, none⟩) (by simp; omega) (.bool f2)).far (p := ⟨gh, 3, none⟩) (by simp; omega) (.bool f3)).far (p := ⟨gh, 4, none⟩) (by simp; omega) (.bool f4)).far (p := ⟨gh, 5, none⟩) (by simp; omega) (.bool f5))
   have O' := ((((((O.far (p := ⟨gh, 0, none⟩) (Ne.symm hne) (.bool f0)).far (p := ⟨gh, 1, none⟩) (Ne.symm hne) (.bool f1)).far (p := ⟨gh, 2, none⟩) (Ne.symm hne) (.bool f2)).far (p := ⟨gh, 3, none⟩) (Ne.symm hne) (.bool f3)).far (p := ⟨gh, 4, none⟩) (Ne.symm hne) (.bool f4)).far (p := ⟨gh, 5, none⟩) (Ne.symm hne) (.bool f5))
   have k' := ((((((kk.setCell (p := ⟨gh, 0, none⟩) (by simp; omega) (.bool f0)).setCell (p := ⟨gh, 1, none⟩) (by simp; omega) (.bool f1)).setCell (p := ⟨gh, 2, none⟩) (by simp; omega) (.bool f2)).setCell (p := ⟨gh, 3, none⟩) (by simp; omega) (.bool f3)).setCell (p := ⟨gh, 4, none⟩) (by simp; omega) (.bool f4)).setCell (p := ⟨gh, 5, none⟩) (by simp; omega) (.bool f5))
   (refine call_op (i := 7) rfl (by kernel_rfl) (by rfl) (fun K hK => ?_); go_simp; skip; refine hK.out _ _ (Blk.sm X') (fun hHeld2 => ?_); clear hK K hHeld; have hHeld := hHeld2; clear hHeld2; (try simp only [Act.put, sta_, scz_, scs_]))
   clear cH fH Hh X R O kk hz
   revert hHeld H' X' R' O' k'
   generalize ((((((w16.setCell ⟨gh, 0, none⟩ (.bool f0)).setCell ⟨gh, 1, none⟩ (.bool f1)).setCell ⟨gh, 2, none⟩ (.bool f2)).setCell ⟨gh, 3, none⟩ (.bool f3)).setCell ⟨gh, 4, none⟩ (.bool f4)).setCell ⟨gh, 5, none⟩ (.bool f5)) = W9
   intro Hh X R O kk hHeld
   have st := msg_store O rfl
   (refine call_op (i := 8) rfl (by kernel_rfl) (by rfl) (fun K hK => ?_); go_simp; skip; refine hK.out _ _ (Blk.msgSet_far X (by omega)).sm (fun hHeld2 => ?_); clear hK K hHeld; have hHeld := hHeld2; clear hHeld2; (try simp only [Act.put, sta_, scz_, scs_]))
   clear st
   (refine wpAnyH_done (by kernel_rfl) ?_ _)
   exact FIN _ _ _ (below_msgSet kk (by omega) _) (Blk.msgSet_far X (by omega)) (Blk.msgSet_far R (by omega)) (Blk.msgSet_far Hh hne) (Blk.msgSet O rfl) hgh hgo hne
end Go.Proofs.YtlolnakeancenaaDoor
