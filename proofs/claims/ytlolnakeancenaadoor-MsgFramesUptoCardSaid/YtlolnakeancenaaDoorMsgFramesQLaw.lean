/- The law MsgFrames (package stonecroplaw10) answers true, whatever version and item it is given, of bulk at most 1048576 together; the tied card: the table of kinds and the tables of the library's decoder start as the program's text lays them. -/
import Derived.Test.YtlolnakeancenaaDoorMsgFramesQ43
import Derived.Test.YtlolnakeancenaaDoorMsgFramesQ18
import Derived.Test.YtlolnakeancenaaDoorMsgFramesQ1
import Derived.Test.YtlolnakeancenaaDoorRows
import Derived.Test.YtlolnakeancenaaDoorTie
import Derived.Test.YtlolnakeancenaaDoorCards
import Derived.WalkKit
import Derived.ProofKit
import Derived.Lay
import Derived.LaidOnce
import Derived.SevenTiedAt
import Derived.OpenShut
import Derived.ShutString
import Derived.ChangeOld
import Derived.Below
import Derived.Lib.SmallJoins
import Derived.Deep.DeepHandedRow
namespace Go.Proofs.YtlolnakeancenaaDoor.lawMsgFrames
open Go.ChangeShapes Go.WideShapes Go.ChangeAt Go.RowKit
open Go.ChangeMaps (open_string shut_string)
set_option linter.unusedVariables false
open Go.Lib

theorem frames_int (a : Int) (ha : (Lit.int .u8 a).wf = true) (t : Tree) (v : Value) (w : World) (hL : Tabs w ∧ KindsAt w) (ht : Holds w t v) (hsz : tsize t ≤ 1048576) : Calls Tryd.prog 3 #[.int .u8 a, v] w (Gives w (.bool true)) := by
 have h := wf_u8 ha
 obtain ⟨n, rfl⟩ := Int.eq_ofNat_of_zero_le h.1
 exact msgframes_walk n (by omega) t v w hL.2 hL.1 ht hsz
theorem own : ownKnob Tryd.prog.godebug = none := by kernel_rfl
theorem laidOut : laidOutB Tryd.prog = true := by kernel_rfl
theorem laid_met (os : Os) : laidMetH Tryd.prog Rows.msgFramesUptoRow.laid ((World.laidAll Tryd.prog os Rows.msgFramesUptoRow.laid).forCall (fun _ _ => 0) ⟨#[], #[.int .u8 0, .agg #[.int .i64 0, .int .u64 0, .string ByteArray.empty, .slice none 0 0]], []⟩).memory := by
 rw [MakeChecks.laidMetH_plain _ _ _ (by kernel_rfl)]
 exact laidMet_laidAll _ (by kernel_rfl) (by kernel_rfl)

set_option maxRecDepth 100000 in
theorem lifted (os : Os) (started : os.Started) (H : Type) (enc : TypeId × Value → H) (FF : Stop.Interp) :
  ReturnsInHanded {} Tryd.checked os 3 .any ((Rows.OpenSpec.upto Rows.msgFramesSpec).preRow enc Tryd.prog Tryd.f3 Rows.msgFramesUptoRow.domain false Rows.msgFramesUptoRow.laid) (((Rows.OpenSpec.upto Rows.msgFramesSpec).at FF).post enc Tryd.prog Tryd.f3 false true false false) := by
 obtain ⟨places, hx⟩ : ∃ places, DataW.whole enc Tryd.prog ((World.laidAll Tryd.prog os Rows.msgFramesUptoRow.laid).forCall (fun _ _ => 0) ⟨#[], #[.int .u8 0, .agg #[.int .i64 0, .int .u64 0, .string ByteArray.empty, .slice none 0 0]], []⟩).memory Tryd.f3.params.toList Rows.msgFramesSpec.vars false (#[.int .u8 0, .agg #[.int .i64 0, .int .u64 0, .string ByteArray.empty, .slice none 0 0]] : Array Value).toList 8 = some ([.lit (.int .u8 0), .agg [.lit (.int .i64 0), .lit (.int .u64 0), .lit (.string []), .nil]], [], places) := ⟨[], by kernel_rfl⟩
 refine returnsInHanded_of_row (C := Tryd.checked) (s := Rows.OpenSpec.upto Rows.msgFramesSpec) own started (by kernel_rfl) Tryd.func3
  (witness_row_at (enc := enc) (C := Tryd.checked) false (World.laidAll Tryd.prog os Rows.msgFramesUptoRow.laid) #[.int .u8 0, .agg #[.int .i64 0, .int .u64 0, .string ByteArray.empty, .slice none 0 0]] (World.laidAll_os _ _ _) (by kernel_rfl) (by kernel_rfl) (by kernel_rfl)
   (OpenSpec.preRow_of_cond 8 hx (by kernel_rfl) (fun k hk => by cases hk; kernel_rfl) (by kernel_rfl) (laid_met os))) ?_
 intro W base args ds gs before hval0 hW _ hk0 _ hL _ _
 have hk := hk0 _ rfl
 have hval : ∀ (j : Nat) t v, Tryd.f3.params[j]? = some t → args[j]? = some v → Value.okWide Tryd.prog W .any base t v := hval0
 have hW' := hW
 obtain ⟨p, q, hA0, hV, rfl, hfz, hnd⟩ := hW
 have hA : DataW.TrodAll enc Tryd.prog W 0 (fun _ => true) true Tryd.f3.params.toList args.toList ds p := hA0
 rw [Tryd.params3] at hA hval
 obtain ⟨v0, vs0, d0, ds0, p0, q0, hargs, rfl, rfl, h0, r0⟩ := trodAll_cons hA
 obtain ⟨v1, vs1, d1, ds1, p1, q1, rfl, rfl, rfl, h1, r1⟩ := trodAll_cons r0
 obtain ⟨rfl, rfl, rfl⟩ := trodAll_nil r1
 obtain rfl : args = #[v0, v1] := by cases args; simp_all
 obtain ⟨rfl, rfl⟩ := trodVars_none hV
 rw [MakeChecks.laidMetH_plain _ _ _ (by kernel_rfl)] at hL
 have hk2 := of_decide_eq_true hk
 simp only [List.append_nil, Rows.uptoBulkAll] at hk2
 have k0 := h0
 have lt0 : ∀ x ∈ p0, x.block < W.heap.size := by obtain ⟨m, hm⟩ := k0; exact DataW.trod_lt m _ _ _ hm
 obtain ⟨a0, rfl, rfl, rfl, w0⟩ := open_int Tryd.underlying5 (hval 0 5 v0 rfl rfl) h0
 have k1 := h1
 have lt1 : ∀ x ∈ p1, x.block < W.heap.size := by obtain ⟨m, hm⟩ := k1; exact DataW.trod_lt m _ _ _ hm
 obtain ⟨t1, w1, z1⟩ := open_item (hval 1 25 v1 rfl rfl) h1
 clear hA0 hval0
 refine (frames_int _ w0 t1 _ W (mlaid hL) w1 (by omega)).mono fun e W' hgv => ?_
 obtain ⟨he, bel⟩ := hgv
 subst he
 exact ⟨_, rfl, _, _, _, [], _, [], hW', trodAll_mk1 (shut_bool Tryd.underlying4 _), (trodAll_cons_mk (Below.trod laidOut (by kernel_rfl) (of_decide_eq_true (by kernel_rfl)) k0 bel lt0) (trodAll_cons_mk (Below.trod laidOut (by kernel_rfl) (of_decide_eq_true (by kernel_rfl)) k1 bel lt1) trodAll_mk0)), rfl, bel.frame _, fun h => by cases h⟩

theorem over : Rows.msgFramesUptoRow.holds Tryd.pinned (Rows.OpenSpec.upto Rows.msgFramesSpec) :=
 OpenClaim.holds_of_cond 3 Tryd.f3 rfl rfl rfl rfl rfl rfl rfl ⟨rfl, rfl, rfl, rfl, rfl⟩ rfl rfl rfl rfl rfl (by kernel_rfl) Tryd.func3 (by kernel_rfl)
  (of_decide_eq_true (by kernel_rfl)) (by unfold Func.isWrapper; first | (rw [if_pos (by decide +kernel)]; kernel_rfl) | (rw [if_neg (by decide +kernel)]; exact ⟨rfl, rfl⟩))
  (fun os started H enc _ FF => by rw [OpenClaim.pre_eq_preRow]; exact lifted os started H enc FF)

/-- The given statement: the tied card of the second form. -/
theorem proved : Rows.MsgFramesUptoCardSaid :=
 Claim7.holds_tied_plain_at .later [] _ true _ _ over (fun _ h => by cases h) (by kernel_rfl) (fun _ h => by cases h) msgFramesUpto_row_tie rfl ⟨rfl, rfl⟩ (by kernel_rfl) rfl
  (fun f fn hf hfn => by
   obtain rfl : f = 3 := Option.some.inj ((show Tryd.prog.funcNamed "stonecrop/stonecroplaw10.MsgFrames" = some 3 by kernel_rfl).symm.trans hf) |>.symm
   obtain rfl : fn = Tryd.f3 := (Option.some.inj (Tryd.func3.symm.trans hfn)).symm
   exact ⟨by kernel_rfl, fun j t ht => by
    rw [Tryd.params3] at ht
    have hm : t ∈ [5, 25] := by simpa using Array.mem_of_getElem? ht
    have hall : ([5, 25].all fun u => !Tryd.prog.wantsStandIn u) = true := by kernel_rfl
    exact (show Tryd.prog.wantsStandIn t = false by simpa using List.all_eq_true.1 hall t hm)⟩)
  (by kernel_rfl)
#print axioms proved

end Go.Proofs.YtlolnakeancenaaDoor.lawMsgFrames
