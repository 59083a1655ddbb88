/- The walk of the law MsgApart. -/
import Derived.Test.YtlolnakeancenaaDoorMsgFramesQ42
import Derived.Test.YtlolnakeancenaaDoorMsgFramesQ25
import Derived.Test.YtlolnakeancenaaDoorMsgFramesQ0
import Derived.WalkKit
import Derived.WalkSpells
import Derived.WalkLawsBesides
import Derived.Deep.RegionHeld3
import Derived.Deep.DrawnRows
import Derived.Deep.DeepCutAuto
import Derived.Deep.DeepFit
import Derived.Lib.Hide
import Derived.BigQuiet
import Derived.Deep.QuietTactic
namespace Go.Proofs.YtlolnakeancenaaDoor
open Go.RowKit
set_option linter.unusedVariables false
set_option linter.unusedSimpArgs false
set_option maxRecDepth 20000
attribute [local go_sem ↓] Go.wp_at_zero Go.wp_at_succ
attribute [local go_sem] World.cell?_alloc_some frozen_alloc_some
attribute [local go_sem ↓ high] loadVar_msg storeVar_msg msg_store_new

theorem put_same {M N : MsgT} (hM : mok M = true) (hN : mok N = true) (yM : M.cy.size ≤ 60000) (yN : N.cy.size ≤ 60000) : decide (putL M = putL N) = msame M N := by
 have eM : putL M = mframe 2 (pform (ltree (mparts M))) := by unfold putL; rw [if_pos hM, if_pos (mperr hM yM)]
 have eN : putL N = mframe 2 (pform (ltree (mparts N))) := by unfold putL; rw [if_pos hN, if_pos (mperr hN yN)]
 rw [Bool.eq_iff_iff, decide_eq_true_iff, msame_iff, eM, eN]
 constructor
 ·intro h
  have h1 := mopen_frame (mparts_good hM yM) (mperr hM yM) 2 2
  rw [h, mopen_frame (mparts_good hN yN) (mperr hN yN) 2 2, if_neg (by decide), if_neg (by decide), if_neg (by decide), if_neg (by decide)] at h1
  have h2 : ltree (mparts N) = ltree (mparts M) := congrArg Prod.fst h1
  have h3 : mparts N = mparts M := congrArg tkids h2
  rw [← mread_back hM, ← mread_back hN, h3]
 ·intro h
  rw [mparts_congr h]
/-- What the walk of the law keeps: the two boxed messages, the two forms. -/
structure ApS (w : World) (MC NC : Array Value) (A3 B3 : Option Addr) (m3 n3 : Nat) (LM LN : List Nat) (W : World) : Prop where
 kk : Below w.heap.size w W
 X : Blk W w.heap.size 50 MC
 Y : Blk W (w.heap.size + 1) 50 NC
 a : Bytes W A3 m3 LM
 b : Bytes W B3 n3 LN
theorem ApS.keep {w W w1 : World} {MC NC : Array Value} {A3 B3 : Option Addr} {m3 n3 : Nat} {LM LN : List Nat} (S : ApS w MC NC A3 B3 m3 n3 LM LN W) (hb : Below W.heap.size W w1) : ApS w MC NC A3 B3 m3 n3 LM LN w1 :=
 ⟨below_call S.kk hb S.kk.size, S.X.keep hb, S.Y.keep hb, S.a.keep hb, S.b.keep hb⟩
set_option maxHeartbeats 16000000 in
theorem msgapart_walk (M N : MsgT) (w : World) (hK : KindsAt w) (hT : Tabs w) (hM : M.Ok w) (hN : N.Ok w) : Calls Tryd.prog 5 #[M.v, N.v] w (Gives w (.bool true)) := by
 have haw := fun W (h : Below w.heap.size w W) => awake10 W (hK.keep h) (hT.keep h)
 have hg1 := fun W => great10_any M W
 have hg2 := fun W => great10_any N W
 have hp1 := fun (hy : M.cy.size ≤ 60000) W (h : Below w.heap.size w W) => put10_any M W (hK.keep h) (hM.keep h) (hT.keep h) hy
 have hp2 := fun (hy : N.cy.size ≤ 60000) W (h : Below w.heap.size w W) => put10_any N W (hK.keep h) (hN.keep h) (hT.keep h) hy
 have hmm := fun W (h : Below w.heap.size w W) => msgsame_any M M W (hM.l.keep h) (hM.l.keep h)
 have hms := fun W (h : Below w.heap.size w W) => msgsame_any M N W (hM.l.keep h) (hN.l.keep h)
 rw [msame_self] at hmm
 have hs := fun W A n c B m d (ha : Bytes W A n (putL M)) (hb : Bytes W B m (putL N)) => same_any A B n m c d _ _ W ha hb
 have hpl := fun (h1 : mok M = true) (h2 : mok N = true) (y1 : M.cy.size ≤ 60000) (y2 : N.cy.size ≤ 60000) => put_same h1 h2 y1 y2
 have he1 : putE M = 0 → mok M = true := fun h => by
  unfold putE at h
  split at h
  ·next h1 => exact h1
  ·cases h
 have he2 : putE N = 0 → mok N = true := fun h => by
  unfold putE at h
  split at h
  ·next h1 => exact h1
  ·cases h
 have hy1 := @mgreat_no M
 have hy2 := @mgreat_no N
 clear hK hT hM hN
 generalize putL M = LM at *
 generalize putL N = LN at *
 generalize putE M = EM at *
 generalize putE N = EN at *
 generalize msame M N = sm at *
 generalize mok M = oM at *
 generalize mok N = oN at *
 generalize mgreat M = gM at *
 generalize mgreat N = gN at *
 obtain ⟨k, i, n, br, bb, tr, tb, st, ck, cc, cq, cy, cx, cr, A, m, cap, sq, tg, ver, l⟩ := M
 obtain ⟨k2, i2, n2, br2, bb2, tr2, tb2, st2, ck2, cc2, cq2, cy2, cx2, cr2, A2, m2, cap2, sq2, tg2, ver2, l2⟩ := N
 simp only [MsgT.v] at hg1 hg2 hp1 hp2 hmm hms hy1 hy2 hpl ⊢
 have Haw := Lib.hid haw
 have Hg1 := Lib.hid hg1
 have Hg2 := Lib.hid hg2
 have Hmm := Lib.hid hmm
 clear haw hg1 hg2 hmm
 have X : Blk ((w.alloc (.cells #[.int .i64 k, .int .i64 i, .int .i64 n, .int .i64 br, .int .i64 bb, .int .i64 tr, .int .i64 tb, .int .i64 st, .int .i64 ck, .int .i64 cc, .int .i64 cq, .string cy, .string cx, .int .i64 cr, .slice A m cap, .int .i64 sq, .int .i64 tg, .int .i64 ver] 50)).alloc (.cells #[.int .i64 k2, .int .i64 i2, .int .i64 n2, .int .i64 br2, .int .i64 bb2, .int .i64 tr2, .int .i64 tb2, .int .i64 st2, .int .i64 ck2, .int .i64 cc2, .int .i64 cq2, .string cy2, .string cx2, .int .i64 cr2, .slice A2 m2 cap2, .int .i64 sq2, .int .i64 tg2, .int .i64 ver2] 50)) w.heap.size 50 #[.int .i64 k, .int .i64 i, .int .i64 n, .int .i64 br, .int .i64 bb, .int .i64 tr, .int .i64 tb, .int .i64 st, .int .i64 ck, .int .i64 cc, .int .i64 cq, .string cy, .string cx, .int .i64 cr, .slice A m cap, .int .i64 sq, .int .i64 tg, .int .i64 ver] := (Blk.new w _ _).alloc _
 have Y : Blk ((w.alloc (.cells #[.int .i64 k, .int .i64 i, .int .i64 n, .int .i64 br, .int .i64 bb, .int .i64 tr, .int .i64 tb, .int .i64 st, .int .i64 ck, .int .i64 cc, .int .i64 cq, .string cy, .string cx, .int .i64 cr, .slice A m cap, .int .i64 sq, .int .i64 tg, .int .i64 ver] 50)).alloc (.cells #[.int .i64 k2, .int .i64 i2, .int .i64 n2, .int .i64 br2, .int .i64 bb2, .int .i64 tr2, .int .i64 tb2, .int .i64 st2, .int .i64 ck2, .int .i64 cc2, .int .i64 cq2, .string cy2, .string cx2, .int .i64 cr2, .slice A2 m2 cap2, .int .i64 sq2, .int .i64 tg2, .int .i64 ver2] 50)) (w.heap.size + 1) 50 #[.int .i64 k2, .int .i64 i2, .int .i64 n2, .int .i64 br2, .int .i64 bb2, .int .i64 tr2, .int .i64 tb2, .int .i64 st2, .int .i64 ck2, .int .i64 cc2, .int .i64 cq2, .string cy2, .string cx2, .int .i64 cr2, .slice A2 m2 cap2, .int .i64 sq2, .int .i64 tg2, .int .i64 ver2] := by
  have h := Blk.new (w.alloc (.cells #[.int .i64 k, .int .i64 i, .int .i64 n, .int .i64 br, .int .i64 bb, .int .i64 tr, .int .i64 tb, .int .i64 st, .int .i64 ck, .int .i64 cc, .int .i64 cq, .string cy, .string cx, .int .i64 cr, .slice A m cap, .int .i64 sq, .int .i64 tg, .int .i64 ver] 50)) 50 #[.int .i64 k2, .int .i64 i2, .int .i64 n2, .int .i64 br2, .int .i64 bb2, .int .i64 tr2, .int .i64 tb2, .int .i64 st2, .int .i64 ck2, .int .i64 cc2, .int .i64 cq2, .string cy2, .string cx2, .int .i64 cr2, .slice A2 m2 cap2, .int .i64 sq2, .int .i64 tg2, .int .i64 ver2]
  simpa using h
 have kk : Below w.heap.size w ((w.alloc (.cells #[.int .i64 k, .int .i64 i, .int .i64 n, .int .i64 br, .int .i64 bb, .int .i64 tr, .int .i64 tb, .int .i64 st, .int .i64 ck, .int .i64 cc, .int .i64 cq, .string cy, .string cx, .int .i64 cr, .slice A m cap, .int .i64 sq, .int .i64 tg, .int .i64 ver] 50)).alloc (.cells #[.int .i64 k2, .int .i64 i2, .int .i64 n2, .int .i64 br2, .int .i64 bb2, .int .i64 tr2, .int .i64 tb2, .int .i64 st2, .int .i64 ck2, .int .i64 cc2, .int .i64 cq2, .string cy2, .string cx2, .int .i64 cr2, .slice A2 m2 cap2, .int .i64 sq2, .int .i64 tg2, .int .i64 ver2] 50)) := blw
 cases gM
 case true =>
  clear hp1 hp2 hms hs hpl he1 he2 hy1 hy2
  go_enter Tryd.func5, Tryd.ntmps5
  have l1 := msg_load X
  have l2 := msg_load Y
  go_wp2_with (first
   | (go_at_call 16; (with_reducible refine (Hg1.out _).mono ?_); rintro e w1 ⟨rfl, hb⟩; replace kk := below_call kk hb kk.size)
   | (go_at_call 9; (with_reducible refine (Haw.out _ kk).mono ?_); rintro e w2 ⟨rfl, hb⟩; replace kk := below_call kk hb kk.size))
  go_ret
  exact ⟨rfl, kk⟩
 cases gN
 case true =>
  clear hp1 hp2 hms hs hpl he1 he2 hy1 hy2
  go_enter Tryd.func5, Tryd.ntmps5
  have l1 := msg_load X
  have l2 := msg_load Y
  go_wp2_with (first
   | (go_at_call 16; (with_reducible refine (Hg1.out _).mono ?_); rintro e w1 ⟨rfl, hb⟩; replace X := X.keep hb; replace Y := Y.keep hb; replace kk := below_call kk hb kk.size; clear l1 l2; have l2 := msg_load Y; clear Hg1)
   | (go_at_call 16; (with_reducible refine (Hg2.out _).mono ?_); rintro e w1 ⟨rfl, hb⟩; replace kk := below_call kk hb kk.size)
   | (go_at_call 9; (with_reducible refine (Haw.out _ kk).mono ?_); rintro e w2 ⟨rfl, hb⟩; replace kk := below_call kk hb kk.size))
  go_ret
  exact ⟨rfl, kk⟩
 obtain ⟨-, h1, -⟩ := hy1 rfl
 obtain ⟨-, h2, -⟩ := hy2 rfl
 replace hp1 := hp1 (Nat.le_trans h1 (by decide))
 replace hp2 := hp2 (Nat.le_trans h2 (by decide))
 have hpl2 := fun a b => hpl a b (Nat.le_trans h1 (by decide)) (Nat.le_trans h2 (by decide))
 have hcase : (EM = 0 ∧ EN = 0 ∧ decide (LM = LN) = sm) ∨ (EM = 0 ∧ EN ≠ 0) ∨ EM ≠ 0 := by
  by_cases a : EM = 0
  ·by_cases b : EN = 0
   ·exact .inl ⟨a, b, hpl2 (he1 a) (he2 b)⟩
   ·exact .inr (.inl ⟨a, b⟩)
  ·exact .inr (.inr a)
 have Hp1 := Lib.hid hp1
 have Hp2 := Lib.hid hp2
 clear hp1 hp2 hy1 hy2 hpl hpl2 he1 he2 h1 h2
 generalize decide (LM = LN) = q at *
 have Hs := Lib.hid hs
 have Hm := Lib.hid hms
 have Hc := Lib.hid hcase
 clear hs hms hcase
 go_enter Tryd.func5, Tryd.ntmps5
 have l1 := msg_load X
 have l2 := msg_load Y
 go_upto_region 4 with (first
   | (go_at_call 16; (with_reducible refine (Hg1.out _).mono ?_); rintro e w1 ⟨rfl, hb⟩; replace X := X.keep hb; replace Y := Y.keep hb; replace kk := below_call kk hb kk.size; clear l1 l2; have l1 := msg_load X; have l2 := msg_load Y; clear Hg1)
   | (go_at_call 16; (with_reducible refine (Hg2.out _).mono ?_); rintro e w1 ⟨rfl, hb⟩; replace X := X.keep hb; replace Y := Y.keep hb; replace kk := below_call kk hb kk.size; clear l1 l2; have l1 := msg_load X; have l2 := msg_load Y; clear Hg2)
   | (go_at_call 17; (with_reducible refine (Hp1.out _ kk).mono ?_); rintro e w2 ⟨v3, rfl, own3, hb⟩; obtain ⟨A3, c3, rfl, -, -⟩ := own3.form; have by3 := own3.bytes.2.2; replace X := X.keep hb; replace Y := Y.keep hb; replace kk := below_call kk hb kk.size; clear l1 l2; have l1 := msg_load X; have l2 := msg_load Y; clear Hp1 own3))
 go_upto_region 5 with (go_at_call 17; (with_reducible refine (Hp2.out _ kk).mono ?_); rintro e w4 ⟨v4, rfl, own4, hb⟩; obtain ⟨B3, d3, rfl, -, -⟩ := own4.form; have by4 := own4.bytes.2.2; have S : ApS w #[.int .i64 k, .int .i64 i, .int .i64 n, .int .i64 br, .int .i64 bb, .int .i64 tr, .int .i64 tb, .int .i64 st, .int .i64 ck, .int .i64 cc, .int .i64 cq, .string cy, .string cx, .int .i64 cr, .slice A m cap, .int .i64 sq, .int .i64 tg, .int .i64 ver] #[.int .i64 k2, .int .i64 i2, .int .i64 n2, .int .i64 br2, .int .i64 bb2, .int .i64 tr2, .int .i64 tb2, .int .i64 st2, .int .i64 ck2, .int .i64 cc2, .int .i64 cq2, .string cy2, .string cx2, .int .i64 cr2, .slice A2 m2 cap2, .int .i64 sq2, .int .i64 tg2, .int .i64 ver2] A3 B3 _ _ LM LN w4 := ⟨below_call kk hb kk.size, X.keep hb, Y.keep hb, by3.keep hb, by4⟩; clear Hp2 own4 by4)
 clear X Y kk by3 hb l1 l2
 rcases Hc.out with ⟨rfl, rfl, rfl⟩ | ⟨rfl, hE⟩ | hE
 ·clear Hc
  have hqq : (q == q) = true := by simp
  go_upto_region 5 with fail
  replace S := S.keep (Below.refl _ _).drew
  (refine wp_region_held_drew (S := (fun wx => SM w.heap.size #[.int .i64 k, .int .i64 i, .int .i64 n, .int .i64 br, .int .i64 bb, .int .i64 tr, .int .i64 tb, .int .i64 st, .int .i64 ck, .int .i64 cc, .int .i64 cq, .string cy, .string cx, .int .i64 cr, .slice A m cap, .int .i64 sq, .int .i64 tg, .int .i64 ver] wx ∧ SM (w.heap.size + 1) #[.int .i64 k2, .int .i64 i2, .int .i64 n2, .int .i64 br2, .int .i64 bb2, .int .i64 tr2, .int .i64 tb2, .int .i64 st2, .int .i64 ck2, .int .i64 cc2, .int .i64 cq2, .string cy2, .string cx2, .int .i64 cr2, .slice A2 m2 cap2, .int .i64 sq2, .int .i64 tg2, .int .i64 ver2] wx)) (by kernel_rfl) ?_ (fun hHeld => ?_); (· exact ⟨S.X.sm, S.Y.sm⟩))
  revert hHeld S
  generalize World.drew _ = wd
  intro S hHeld
  (refine take_op (i := 0) (v := ?_) rfl (by kernel_rfl) (by kernel_rfl) (by kernel_rfl) (fun _ _ _ h => h) (by rfl) ?_ hHeld ?_; rotate_left; (· (intro wS hSw; (try dsimp only at hSw); go_simp; first | done | with_reducible rfl)); simp only [Act.put, sta_, scz_, scs_]); (refine take_op (i := 1) (v := ?_) rfl (by kernel_rfl) (by kernel_rfl) (by kernel_rfl) (fun _ _ _ h => h) (by rfl) ?_ hHeld ?_; rotate_left; (· (intro wS hSw; (try dsimp only at hSw); go_simp; first | done | with_reducible rfl)); simp only [Act.put, sta_, scz_, scs_]); (refine take_op (i := 2) (v := ?_) rfl (by kernel_rfl) (by kernel_rfl) (by kernel_rfl) (fun _ _ _ h => h) (by rfl) ?_ hHeld ?_; rotate_left; (· (intro wS hSw; (try dsimp only at hSw); go_simp; first | done | with_reducible rfl)); simp only [Act.put, sta_, scz_, scs_]); (refine take_op (i := 3) (v := ?_) rfl (by kernel_rfl) (by kernel_rfl) (by kernel_rfl) (fun _ _ _ h => h) (by rfl) ?_ hHeld ?_; rotate_left; (· (intro wS hSw; (try dsimp only at hSw); go_simp; first | done | with_reducible rfl)); simp only [Act.put, sta_, scz_, scs_]); (refine take_op (i := 4) (v := ?_) rfl (by kernel_rfl) (by kernel_rfl) (by kernel_rfl) (fun _ _ _ h => h) (by rfl) ?_ hHeld ?_; rotate_left; (· (intro wS hSw; (try dsimp only at hSw); go_simp; first | done | with_reducible rfl)); simp only [Act.put, sta_, scz_, scs_]); (refine take_op (i := 5) (v := ?_) rfl (by kernel_rfl) (by kernel_rfl) (by kernel_rfl) (fun _ _ _ h => h) (by rfl) ?_ hHeld ?_; rotate_left; (· (intro wS hSw; (try dsimp only at hSw); go_simp; first | done | with_reducible rfl)); simp only [Act.put, sta_, scz_, scs_]); (refine take_op (i := 6) (v := ?_) rfl (by kernel_rfl) (by kernel_rfl) (by kernel_rfl) (fun _ _ _ h => h) (by rfl) ?_ hHeld ?_; rotate_left; (· (intro wS hSw; (try dsimp only at hSw); go_simp; first | done | with_reducible rfl)); simp only [Act.put, sta_, scz_, scs_]); (refine take_op (i := 7) (v := ?_) rfl (by kernel_rfl) (by kernel_rfl) (by kernel_rfl) (fun _ _ _ h => h) (by rfl) ?_ hHeld ?_; rotate_left; (· (intro wS hSw; (try dsimp only at hSw); go_simp; first | done | with_reducible rfl)); simp only [Act.put, sta_, scz_, scs_]); (refine take_op (i := 8) (v := ?_) rfl (by kernel_rfl) (by kernel_rfl) (by kernel_rfl) (fun _ _ _ h => h) (by rfl) ?_ hHeld ?_; rotate_left; (· (intro wS hSw; (try dsimp only at hSw); go_simp; first | done | with_reducible rfl)); simp only [Act.put, sta_, scz_, scs_]); (refine take_op (i := 10) (v := ?_) rfl (by kernel_rfl) (by kernel_rfl) (by kernel_rfl) (fun _ _ _ h => h) (by rfl) ?_ hHeld ?_; rotate_left; (· (intro wS hSw; (try dsimp only at hSw); go_simp; first | done | with_reducible rfl)); simp only [Act.put, sta_, scz_, scs_]); (refine take_op (i := 11) (v := ?_) rfl (by kernel_rfl) (by kernel_rfl) (by kernel_rfl) (fun _ _ _ h => h) (by rfl) ?_ hHeld ?_; rotate_left; (· (intro wS hSw; (try dsimp only at hSw); go_simp; first | done | with_reducible rfl)); simp only [Act.put, sta_, scz_, scs_])
  (refine call_op (i := 9) rfl (by kernel_rfl) (by rfl) (fun K hK => ?_); go_simp; (go_at_call 13; (with_reducible refine (Hs.out _ _ _ _ _ _ _ S.a S.b).mono ?_); rintro e w1 ⟨rfl, hb⟩; replace S := S.keep hb; clear hb); refine hK.out _ _ ⟨S.X.sm, S.Y.sm⟩ (fun hHeld2 => ?_); clear hK K hHeld; have hHeld := hHeld2; clear hHeld2; (try simp only [Act.put, sta_, scz_, scs_]))
  (refine call_op (i := 12) rfl (by kernel_rfl) (by rfl) (fun K hK => ?_); go_simp; (go_at_call 20; (with_reducible refine (Hm.out _ S.kk).mono ?_); rintro e w2 ⟨rfl, hb⟩; replace S := S.keep hb; clear hb); refine hK.out _ _ ⟨S.X.sm, S.Y.sm⟩ (fun hHeld2 => ?_); clear hK K hHeld; have hHeld := hHeld2; clear hHeld2; (try simp only [Act.put, sta_, scz_, scs_]))
  (refine take_op (i := 13) (v := ?_) rfl (by kernel_rfl) (by kernel_rfl) (by kernel_rfl) (fun _ _ _ h => h) (by rfl) ?_ hHeld ?_; rotate_left; (· (intro wS hSw; (try dsimp only at hSw); go_simp; first | done | with_reducible rfl)); simp only [Act.put, sta_, scz_, scs_])
  (refine take_op (i := 14) (v := ?_) rfl (by kernel_rfl) (by kernel_rfl) (by kernel_rfl) (fun _ _ _ h => h) (by rfl) ?_ hHeld ?_; rotate_left; (· (intro wS hSw; (try dsimp only at hSw); go_simp; first | done | with_reducible rfl)); simp only [Act.put, sta_, scz_, scs_]); (refine take_op (i := 15) (v := ?_) rfl (by kernel_rfl) (by kernel_rfl) (by kernel_rfl) (fun _ _ _ h => h) (by rfl) ?_ hHeld ?_; rotate_left; (· (intro wS hSw; (try dsimp only at hSw); go_simp; first | done | with_reducible rfl)); simp only [Act.put, sta_, scz_, scs_]); (refine take_op (i := 16) (v := ?_) rfl (by kernel_rfl) (by kernel_rfl) (by kernel_rfl) (fun _ _ _ h => h) (by rfl) ?_ hHeld ?_; rotate_left; (· (intro wS hSw; (try dsimp only at hSw); go_simp; first | done | with_reducible rfl)); simp only [Act.put, sta_, scz_, scs_]); (refine take_op (i := 17) (v := ?_) rfl (by kernel_rfl) (by kernel_rfl) (by kernel_rfl) (fun _ _ _ h => h) (by rfl) ?_ hHeld ?_; rotate_left; (· (intro wS hSw; (try dsimp only at hSw); go_simp; first | done | with_reducible rfl)); simp only [Act.put, sta_, scz_, scs_])
  (refine call_op (i := 18) rfl (by kernel_rfl) (by rfl) (fun K hK => ?_); go_simp; (go_at_call 20; (with_reducible refine (Hmm.out _ S.kk).mono ?_); rintro e w3 ⟨rfl, hb⟩; replace S := S.keep hb; clear hb); refine hK.out _ _ ⟨S.X.sm, S.Y.sm⟩ (fun hHeld2 => ?_); clear hK K hHeld; have hHeld := hHeld2; clear hHeld2; (try simp only [Act.put, sta_, scz_, scs_]))
  (refine take_op (i := 19) (v := ?_) rfl (by kernel_rfl) (by kernel_rfl) (by kernel_rfl) (fun _ _ _ h => h) (by rfl) ?_ hHeld ?_; rotate_left; (· (intro wS hSw; (try dsimp only at hSw); go_simp; first | done | with_reducible rfl)); simp only [Act.put, sta_, scz_, scs_]); (refine take_op (i := 20) (v := ?_) rfl (by kernel_rfl) (by kernel_rfl) (by kernel_rfl) (fun _ _ _ h => h) (by rfl) ?_ hHeld ?_; rotate_left; (· (intro wS hSw; (try dsimp only at hSw); go_simp; first | done | with_reducible rfl)); simp only [Act.put, sta_, scz_, scs_])
  (refine call_op (i := 21) rfl (by kernel_rfl) (by rfl) (fun K hK => ?_); go_simp; (go_at_call 9; (with_reducible refine (Haw.out _ S.kk).mono ?_); rintro e w4 ⟨rfl, hb⟩; replace S := S.keep hb; clear hb); refine hK.out _ _ ⟨S.X.sm, S.Y.sm⟩ (fun hHeld2 => ?_); clear hK K hHeld; have hHeld := hHeld2; clear hHeld2; (try simp only [Act.put, sta_, scz_, scs_]))
  (refine take_op (i := 22) (v := ?_) rfl (by kernel_rfl) (by kernel_rfl) (by kernel_rfl) (fun _ _ _ h => h) (by rfl) ?_ hHeld ?_; rotate_left; (· (intro wS hSw; (try dsimp only at hSw); go_simp; first | done | with_reducible rfl)); simp only [Act.put, sta_, scz_, scs_]); (refine take_op (i := 23) (v := ?_) rfl (by kernel_rfl) (by kernel_rfl) (by kernel_rfl) (fun _ _ _ h => h) (by rfl) ?_ hHeld ?_; rotate_left; (· (intro wS hSw; (try dsimp only at hSw); go_simp; first | done | with_reducible rfl)); simp only [Act.put, sta_, scz_, scs_])
  (refine wpAnyH_done (by kernel_rfl) ?_ _)
  clear hHeld
  have kk := S.kk
  go_wp2_with fail
  go_ret
  exact ⟨rfl, kk⟩
 ·clear Hc
  have hE' : ((EN : Int) != 0) = true := by simp; omega
  go_upto_region 5 with fail
  replace S := S.keep (Below.refl _ _).drew
  (refine wp_region_held_drew (S := (fun wx => SM w.heap.size #[.int .i64 k, .int .i64 i, .int .i64 n, .int .i64 br, .int .i64 bb, .int .i64 tr, .int .i64 tb, .int .i64 st, .int .i64 ck, .int .i64 cc, .int .i64 cq, .string cy, .string cx, .int .i64 cr, .slice A m cap, .int .i64 sq, .int .i64 tg, .int .i64 ver] wx ∧ SM (w.heap.size + 1) #[.int .i64 k2, .int .i64 i2, .int .i64 n2, .int .i64 br2, .int .i64 bb2, .int .i64 tr2, .int .i64 tb2, .int .i64 st2, .int .i64 ck2, .int .i64 cc2, .int .i64 cq2, .string cy2, .string cx2, .int .i64 cr2, .slice A2 m2 cap2, .int .i64 sq2, .int .i64 tg2, .int .i64 ver2] wx)) (by kernel_rfl) ?_ (fun hHeld => ?_); (· exact ⟨S.X.sm, S.Y.sm⟩))
  revert hHeld S
  generalize World.drew _ = wd
  intro S hHeld
  (refine take_op (i := 0) (v := ?_) rfl (by kernel_rfl) (by kernel_rfl) (by kernel_rfl) (fun _ _ _ h => h) (by rfl) ?_ hHeld ?_; rotate_left; (· (intro wS hSw; (try dsimp only at hSw); go_simp; first | done | with_reducible rfl)); simp only [Act.put, sta_, scz_, scs_]); (refine take_op (i := 1) (v := ?_) rfl (by kernel_rfl) (by kernel_rfl) (by kernel_rfl) (fun _ _ _ h => h) (by rfl) ?_ hHeld ?_; rotate_left; (· (intro wS hSw; (try dsimp only at hSw); go_simp; first | done | with_reducible rfl)); simp only [Act.put, sta_, scz_, scs_]); (refine take_op (i := 2) (v := ?_) rfl (by kernel_rfl) (by kernel_rfl) (by kernel_rfl) (fun _ _ _ h => h) (by rfl) ?_ hHeld ?_; rotate_left; (· (intro wS hSw; (try dsimp only at hSw); go_simp; first | done | with_reducible rfl)); simp only [Act.put, sta_, scz_, scs_]); (refine take_op (i := 3) (v := ?_) rfl (by kernel_rfl) (by kernel_rfl) (by kernel_rfl) (fun _ _ _ h => h) (by rfl) ?_ hHeld ?_; rotate_left; (· (intro wS hSw; (try dsimp only at hSw); go_simp; first | done | with_reducible rfl)); simp only [Act.put, sta_, scz_, scs_]); (refine take_op (i := 4) (v := ?_) rfl (by kernel_rfl) (by kernel_rfl) (by kernel_rfl) (fun _ _ _ h => h) (by rfl) ?_ hHeld ?_; rotate_left; (· (intro wS hSw; (try dsimp only at hSw); go_simp; first | done | with_reducible rfl)); simp only [Act.put, sta_, scz_, scs_]); (refine take_op (i := 5) (v := ?_) rfl (by kernel_rfl) (by kernel_rfl) (by kernel_rfl) (fun _ _ _ h => h) (by rfl) ?_ hHeld ?_; rotate_left; (· (intro wS hSw; (try dsimp only at hSw); go_simp; first | done | with_reducible rfl)); simp only [Act.put, sta_, scz_, scs_]); (refine take_op (i := 6) (v := ?_) rfl (by kernel_rfl) (by kernel_rfl) (by kernel_rfl) (fun _ _ _ h => h) (by rfl) ?_ hHeld ?_; rotate_left; (· (intro wS hSw; (try dsimp only at hSw); go_simp; first | done | with_reducible rfl)); simp only [Act.put, sta_, scz_, scs_])
  (refine skip_op (i := 7) rfl (by kernel_rfl) (by kernel_rfl) (by kernel_rfl) (fun _ _ _ h => h) (by rfl) hHeld ?_; simp only [Act.put, sta_, scz_, scs_]); (refine skip_op (i := 8) rfl (by kernel_rfl) (by kernel_rfl) (by kernel_rfl) (fun _ _ _ h => h) (by rfl) hHeld ?_; simp only [Act.put, sta_, scz_, scs_]); (refine skip_op (i := 9) rfl (by kernel_rfl) (by kernel_rfl) (by kernel_rfl) (fun _ _ _ h => h) (by rfl) hHeld ?_; simp only [Act.put, sta_, scz_, scs_]); (refine skip_op (i := 10) rfl (by kernel_rfl) (by kernel_rfl) (by kernel_rfl) (fun _ _ _ h => h) (by rfl) hHeld ?_; simp only [Act.put, sta_, scz_, scs_]); (refine skip_op (i := 11) rfl (by kernel_rfl) (by kernel_rfl) (by kernel_rfl) (fun _ _ _ h => h) (by rfl) hHeld ?_; simp only [Act.put, sta_, scz_, scs_]); (refine skip_op (i := 12) rfl (by kernel_rfl) (by kernel_rfl) (by kernel_rfl) (fun _ _ _ h => h) (by rfl) hHeld ?_; simp only [Act.put, sta_, scz_, scs_]); (refine skip_op (i := 13) rfl (by kernel_rfl) (by kernel_rfl) (by kernel_rfl) (fun _ _ _ h => h) (by rfl) hHeld ?_; simp only [Act.put, sta_, scz_, scs_])
  (refine take_op (i := 14) (v := ?_) rfl (by kernel_rfl) (by kernel_rfl) (by kernel_rfl) (fun _ _ _ h => h) (by rfl) ?_ hHeld ?_; rotate_left; (· (intro wS hSw; (try dsimp only at hSw); go_simp; first | done | with_reducible rfl)); simp only [Act.put, sta_, scz_, scs_]); (refine take_op (i := 15) (v := ?_) rfl (by kernel_rfl) (by kernel_rfl) (by kernel_rfl) (fun _ _ _ h => h) (by rfl) ?_ hHeld ?_; rotate_left; (· (intro wS hSw; (try dsimp only at hSw); go_simp; first | done | with_reducible rfl)); simp only [Act.put, sta_, scz_, scs_]); (refine take_op (i := 16) (v := ?_) rfl (by kernel_rfl) (by kernel_rfl) (by kernel_rfl) (fun _ _ _ h => h) (by rfl) ?_ hHeld ?_; rotate_left; (· (intro wS hSw; (try dsimp only at hSw); go_simp; first | done | with_reducible rfl)); simp only [Act.put, sta_, scz_, scs_]); (refine take_op (i := 17) (v := ?_) rfl (by kernel_rfl) (by kernel_rfl) (by kernel_rfl) (fun _ _ _ h => h) (by rfl) ?_ hHeld ?_; rotate_left; (· (intro wS hSw; (try dsimp only at hSw); go_simp; first | done | with_reducible rfl)); simp only [Act.put, sta_, scz_, scs_])
  (refine call_op (i := 18) rfl (by kernel_rfl) (by rfl) (fun K hK => ?_); go_simp; (go_at_call 20; (with_reducible refine (Hmm.out _ S.kk).mono ?_); rintro e w3 ⟨rfl, hb⟩; replace S := S.keep hb; clear hb); refine hK.out _ _ ⟨S.X.sm, S.Y.sm⟩ (fun hHeld2 => ?_); clear hK K hHeld; have hHeld := hHeld2; clear hHeld2; (try simp only [Act.put, sta_, scz_, scs_]))
  (refine take_op (i := 19) (v := ?_) rfl (by kernel_rfl) (by kernel_rfl) (by kernel_rfl) (fun _ _ _ h => h) (by rfl) ?_ hHeld ?_; rotate_left; (· (intro wS hSw; (try dsimp only at hSw); go_simp; first | done | with_reducible rfl)); simp only [Act.put, sta_, scz_, scs_]); (refine take_op (i := 20) (v := ?_) rfl (by kernel_rfl) (by kernel_rfl) (by kernel_rfl) (fun _ _ _ h => h) (by rfl) ?_ hHeld ?_; rotate_left; (· (intro wS hSw; (try dsimp only at hSw); go_simp; first | done | with_reducible rfl)); simp only [Act.put, sta_, scz_, scs_])
  (refine call_op (i := 21) rfl (by kernel_rfl) (by rfl) (fun K hK => ?_); go_simp; (go_at_call 9; (with_reducible refine (Haw.out _ S.kk).mono ?_); rintro e w4 ⟨rfl, hb⟩; replace S := S.keep hb; clear hb); refine hK.out _ _ ⟨S.X.sm, S.Y.sm⟩ (fun hHeld2 => ?_); clear hK K hHeld; have hHeld := hHeld2; clear hHeld2; (try simp only [Act.put, sta_, scz_, scs_]))
  (refine take_op (i := 22) (v := ?_) rfl (by kernel_rfl) (by kernel_rfl) (by kernel_rfl) (fun _ _ _ h => h) (by rfl) ?_ hHeld ?_; rotate_left; (· (intro wS hSw; (try dsimp only at hSw); go_simp; first | done | with_reducible rfl)); simp only [Act.put, sta_, scz_, scs_]); (refine take_op (i := 23) (v := ?_) rfl (by kernel_rfl) (by kernel_rfl) (by kernel_rfl) (fun _ _ _ h => h) (by rfl) ?_ hHeld ?_; rotate_left; (· (intro wS hSw; (try dsimp only at hSw); go_simp; first | done | with_reducible rfl)); simp only [Act.put, sta_, scz_, scs_])
  (refine wpAnyH_done (by kernel_rfl) ?_ _)
  clear hHeld
  have kk := S.kk
  go_wp2_with fail
  go_ret
  exact ⟨rfl, kk⟩
 ·clear Hc
  have hE' : ((EM : Int) != 0) = true := by simp; omega
  go_upto_region 5 with fail
  replace S := S.keep (Below.refl _ _).drew
  (refine wp_region_held_drew (S := (fun wx => SM w.heap.size #[.int .i64 k, .int .i64 i, .int .i64 n, .int .i64 br, .int .i64 bb, .int .i64 tr, .int .i64 tb, .int .i64 st, .int .i64 ck, .int .i64 cc, .int .i64 cq, .string cy, .string cx, .int .i64 cr, .slice A m cap, .int .i64 sq, .int .i64 tg, .int .i64 ver] wx ∧ SM (w.heap.size + 1) #[.int .i64 k2, .int .i64 i2, .int .i64 n2, .int .i64 br2, .int .i64 bb2, .int .i64 tr2, .int .i64 tb2, .int .i64 st2, .int .i64 ck2, .int .i64 cc2, .int .i64 cq2, .string cy2, .string cx2, .int .i64 cr2, .slice A2 m2 cap2, .int .i64 sq2, .int .i64 tg2, .int .i64 ver2] wx)) (by kernel_rfl) ?_ (fun hHeld => ?_); (· exact ⟨S.X.sm, S.Y.sm⟩))
  revert hHeld S
  generalize World.drew _ = wd
  intro S hHeld
  (refine take_op (i := 0) (v := ?_) rfl (by kernel_rfl) (by kernel_rfl) (by kernel_rfl) (fun _ _ _ h => h) (by rfl) ?_ hHeld ?_; rotate_left; (· (intro wS hSw; (try dsimp only at hSw); go_simp; first | done | with_reducible rfl)); simp only [Act.put, sta_, scz_, scs_]); (refine take_op (i := 1) (v := ?_) rfl (by kernel_rfl) (by kernel_rfl) (by kernel_rfl) (fun _ _ _ h => h) (by rfl) ?_ hHeld ?_; rotate_left; (· (intro wS hSw; (try dsimp only at hSw); go_simp; first | done | with_reducible rfl)); simp only [Act.put, sta_, scz_, scs_]); (refine take_op (i := 2) (v := ?_) rfl (by kernel_rfl) (by kernel_rfl) (by kernel_rfl) (fun _ _ _ h => h) (by rfl) ?_ hHeld ?_; rotate_left; (· (intro wS hSw; (try dsimp only at hSw); go_simp; first | done | with_reducible rfl)); simp only [Act.put, sta_, scz_, scs_])
  (refine skip_op (i := 3) rfl (by kernel_rfl) (by kernel_rfl) (by kernel_rfl) (fun _ _ _ h => h) (by rfl) hHeld ?_; simp only [Act.put, sta_, scz_, scs_]); (refine skip_op (i := 4) rfl (by kernel_rfl) (by kernel_rfl) (by kernel_rfl) (fun _ _ _ h => h) (by rfl) hHeld ?_; simp only [Act.put, sta_, scz_, scs_])
  (refine take_op (i := 5) (v := ?_) rfl (by kernel_rfl) (by kernel_rfl) (by kernel_rfl) (fun _ _ _ h => h) (by rfl) ?_ hHeld ?_; rotate_left; (· (intro wS hSw; (try dsimp only at hSw); go_simp; first | done | with_reducible rfl)); simp only [Act.put, sta_, scz_, scs_]); (refine take_op (i := 6) (v := ?_) rfl (by kernel_rfl) (by kernel_rfl) (by kernel_rfl) (fun _ _ _ h => h) (by rfl) ?_ hHeld ?_; rotate_left; (· (intro wS hSw; (try dsimp only at hSw); go_simp; first | done | with_reducible rfl)); simp only [Act.put, sta_, scz_, scs_])
  (refine skip_op (i := 7) rfl (by kernel_rfl) (by kernel_rfl) (by kernel_rfl) (fun _ _ _ h => h) (by rfl) hHeld ?_; simp only [Act.put, sta_, scz_, scs_]); (refine skip_op (i := 8) rfl (by kernel_rfl) (by kernel_rfl) (by kernel_rfl) (fun _ _ _ h => h) (by rfl) hHeld ?_; simp only [Act.put, sta_, scz_, scs_]); (refine skip_op (i := 9) rfl (by kernel_rfl) (by kernel_rfl) (by kernel_rfl) (fun _ _ _ h => h) (by rfl) hHeld ?_; simp only [Act.put, sta_, scz_, scs_]); (refine skip_op (i := 10) rfl (by kernel_rfl) (by kernel_rfl) (by kernel_rfl) (fun _ _ _ h => h) (by rfl) hHeld ?_; simp only [Act.put, sta_, scz_, scs_]); (refine skip_op (i := 11) rfl (by kernel_rfl) (by kernel_rfl) (by kernel_rfl) (fun _ _ _ h => h) (by rfl) hHeld ?_; simp only [Act.put, sta_, scz_, scs_]); (refine skip_op (i := 12) rfl (by kernel_rfl) (by kernel_rfl) (by kernel_rfl) (fun _ _ _ h => h) (by rfl) hHeld ?_; simp only [Act.put, sta_, scz_, scs_]); (refine skip_op (i := 13) rfl (by kernel_rfl) (by kernel_rfl) (by kernel_rfl) (fun _ _ _ h => h) (by rfl) hHeld ?_; simp only [Act.put, sta_, scz_, scs_])
  (refine take_op (i := 14) (v := ?_) rfl (by kernel_rfl) (by kernel_rfl) (by kernel_rfl) (fun _ _ _ h => h) (by rfl) ?_ hHeld ?_; rotate_left; (· (intro wS hSw; (try dsimp only at hSw); go_simp; first | done | with_reducible rfl)); simp only [Act.put, sta_, scz_, scs_]); (refine take_op (i := 15) (v := ?_) rfl (by kernel_rfl) (by kernel_rfl) (by kernel_rfl) (fun _ _ _ h => h) (by rfl) ?_ hHeld ?_; rotate_left; (· (intro wS hSw; (try dsimp only at hSw); go_simp; first | done | with_reducible rfl)); simp only [Act.put, sta_, scz_, scs_]); (refine take_op (i := 16) (v := ?_) rfl (by kernel_rfl) (by kernel_rfl) (by kernel_rfl) (fun _ _ _ h => h) (by rfl) ?_ hHeld ?_; rotate_left; (· (intro wS hSw; (try dsimp only at hSw); go_simp; first | done | with_reducible rfl)); simp only [Act.put, sta_, scz_, scs_]); (refine take_op (i := 17) (v := ?_) rfl (by kernel_rfl) (by kernel_rfl) (by kernel_rfl) (fun _ _ _ h => h) (by rfl) ?_ hHeld ?_; rotate_left; (· (intro wS hSw; (try dsimp only at hSw); go_simp; first | done | with_reducible rfl)); simp only [Act.put, sta_, scz_, scs_])
  (refine call_op (i := 18) rfl (by kernel_rfl) (by rfl) (fun K hK => ?_); go_simp; (go_at_call 20; (with_reducible refine (Hmm.out _ S.kk).mono ?_); rintro e w3 ⟨rfl, hb⟩; replace S := S.keep hb; clear hb); refine hK.out _ _ ⟨S.X.sm, S.Y.sm⟩ (fun hHeld2 => ?_); clear hK K hHeld; have hHeld := hHeld2; clear hHeld2; (try simp only [Act.put, sta_, scz_, scs_]))
  (refine take_op (i := 19) (v := ?_) rfl (by kernel_rfl) (by kernel_rfl) (by kernel_rfl) (fun _ _ _ h => h) (by rfl) ?_ hHeld ?_; rotate_left; (· (intro wS hSw; (try dsimp only at hSw); go_simp; first | done | with_reducible rfl)); simp only [Act.put, sta_, scz_, scs_]); (refine take_op (i := 20) (v := ?_) rfl (by kernel_rfl) (by kernel_rfl) (by kernel_rfl) (fun _ _ _ h => h) (by rfl) ?_ hHeld ?_; rotate_left; (· (intro wS hSw; (try dsimp only at hSw); go_simp; first | done | with_reducible rfl)); simp only [Act.put, sta_, scz_, scs_])
  (refine call_op (i := 21) rfl (by kernel_rfl) (by rfl) (fun K hK => ?_); go_simp; (go_at_call 9; (with_reducible refine (Haw.out _ S.kk).mono ?_); rintro e w4 ⟨rfl, hb⟩; replace S := S.keep hb; clear hb); refine hK.out _ _ ⟨S.X.sm, S.Y.sm⟩ (fun hHeld2 => ?_); clear hK K hHeld; have hHeld := hHeld2; clear hHeld2; (try simp only [Act.put, sta_, scz_, scs_]))
  (refine take_op (i := 22) (v := ?_) rfl (by kernel_rfl) (by kernel_rfl) (by kernel_rfl) (fun _ _ _ h => h) (by rfl) ?_ hHeld ?_; rotate_left; (· (intro wS hSw; (try dsimp only at hSw); go_simp; first | done | with_reducible rfl)); simp only [Act.put, sta_, scz_, scs_]); (refine take_op (i := 23) (v := ?_) rfl (by kernel_rfl) (by kernel_rfl) (by kernel_rfl) (fun _ _ _ h => h) (by rfl) ?_ hHeld ?_; rotate_left; (· (intro wS hSw; (try dsimp only at hSw); go_simp; first | done | with_reducible rfl)); simp only [Act.put, sta_, scz_, scs_])
  (refine wpAnyH_done (by kernel_rfl) ?_ _)
  clear hHeld
  have kk := S.kk
  go_wp2_with fail
  go_ret
  exact ⟨rfl, kk⟩
end Go.Proofs.YtlolnakeancenaaDoor
