/- The walks of an item's parts: next, number. The walk of ballot.Take at any item. attr.Take, TakeOld and the document's at any item, in one word each; a right one's item is taken as it. What an item's parts are read as: plain. What msg.item holds from stage to stage; orders that come to the same are joined. What msg.item is walked with: its closure, its parts, the code behind its first region. -/
import Derived.Test.YtlolnakeancenaaDoorMsgFramesQ26
import Derived.Test.YtlolnakeancenaaDoorMsgFramesQ11
import Derived.Test.YtlolnakeancenaaDoorMsgFramesQ0
import Derived.Test.YtlolnakeancenaaDoorMsgFramesQ15
import Derived.Test.YtlolnakeancenaaDoorMsgFramesQ10
import Derived.Test.YtlolnakeancenaaDoorMsgFramesQ27
import Derived.Test.YtlolnakeancenaaDoorMsgFramesQ25
import Derived.Test.YtlolnakeancenaaDoorMsgFramesQ20
import Derived.Test.YtlolnakeancenaaDoorMsgFramesQ19
import Derived.Test.YtlolnakeancenaaDoorMsgFramesQ28
import Derived.WalkKit
import Derived.WalkSpells
import Derived.WalkLawsBesides
import Derived.Deep.RegionHeld3
import Derived.Deep.DrawnRows
import Derived.Deep.DeepCutAuto
import Derived.Deep.DeepFit
import Derived.Lib.Hide
import Derived.BigQuiet
import Derived.Deep.QuietTactic
namespace Go.Proofs.YtlolnakeancenaaDoor
open Go.RowKit
set_option linter.unusedVariables false
set_option linter.unusedSimpArgs false
set_option maxRecDepth 20000
attribute [local go_sem ↓] Go.wp_at_zero Go.wp_at_succ
attribute [local go_sem] World.cell?_alloc_some frozen_alloc_some
attribute [local go_sem] lt2 lt3 lt4 lt5
attribute [local simp] lt2 lt3 lt4 lt5

/-- What an item's parts are read as. -/
def tEnd : Tree := .mk (-1) 0 ByteArray.empty []
def pt (L : List Tree) (i : Nat) : Tree := L[i]?.getD tEnd
def pnum (L : List Tree) (i : Nat) : Int := ((clamp (tN (pt L i)) : Nat) : Int)
/-- What lies beside block g is as it was. -/
def Beside (g : Nat) (w w' : World) : Prop := ∀ (k : Nat) (t : TypeId) (cs : Array Value), k ≠ g → Blk w k t cs → Blk w' k t cs
/-- The parts that are left lie at block g. -/
def PartsAt (w0 w : World) (g : Nat) (L : List Tree) : Prop := ∃ A c, Blk w g 105 #[.slice A L.length c] ∧ Items w0 A L.length c L
theorem PartsAt.keep {w0 w w' : World} {g : Nat} {L : List Tree} (h : PartsAt w0 w g L) (hb : Below w.heap.size w w') : PartsAt w0 w' g L := by
 obtain ⟨A, c, h1, h2⟩ := h
 exact ⟨A, c, h1.keep hb, h2⟩
theorem PartsAt.far {w0 w : World} {g : Nat} {L : List Tree} (h : PartsAt w0 w g L) {p : Addr} (hp : g ≠ p.block) (u : Value) : PartsAt w0 (w.setCell p u) g L := by
 obtain ⟨A, c, h1, h2⟩ := h
 exact ⟨A, c, h1.far hp u, h2⟩
theorem Items.tail {w : World} {A : Option Addr} {m c : Nat} {L : List Tree} (h : Items w A (m + 1) c L) : Items w (if c = 1 then A else A.map (·.add 4)) m (c - 1) L.tail := by
 obtain ⟨h1, h2, h3, vs, h4, h5⟩ := h
 refine ⟨by rw [List.length_tail]; omega, by omega, by omega, fun i => vs (i + 1), fun i hi => ?_, fun i t hi => ?_⟩
 ·obtain ⟨ad, e, hc⟩ := h4 (i + 1) (by omega)
  refine ⟨ad.add 4, ?_, fun j u hu => ?_⟩
  ·rw [if_neg (by omega), e]; rfl
  ·rw [add_of_add, show 4 + (4 * i + j) = 4 * (i + 1) + j by omega]; exact hc j u hu
 ·rw [List.getElem?_tail] at hi
  exact h5 (i + 1) t hi
theorem holds_end (w : World) : Holds w tEnd (.agg #[.int .i64 (-1), .int .u64 0, .string ByteArray.empty, .slice none 0 0]) :=
 .mk (-1) 0 ByteArray.empty [] none 0 0 (fun _ => .int .i64 0) (by decide) (by decide) (by decide) rfl (Nat.le_refl _) (Nat.zero_le _) (fun i hi => absurd hi (by omega)) (fun i t hi => by simp at hi)
theorem below_btw {B : Nat} {a b c : World} (h : Below B a b) (hb : Below b.heap.size b c) (hB : B ≤ b.heap.size) : Below B a c := below_call h hb hB
set_option maxHeartbeats 2000000 in
theorem partnext_any (w0 w : World) (g : Nat) (L : List Tree) (kk : Below w0.heap.size w0 w) (hg : w0.heap.size ≤ g) (hP : PartsAt w0 w g L) :
  Calls Tryd.prog 61 #[.pointer (some ⟨g, 0, none⟩)] w (fun e w' => ∃ v, e = .returned v ∧ Holds w0 (L.headD tEnd) v ∧ PartsAt w0 w' g L.tail ∧ Beside g w w' ∧ Below w0.heap.size w0 w') := by
 obtain ⟨A, c, hb, hI⟩ := hP
 have hlt := hb.lt
 have hne : g ≠ w.heap.size := by omega
 have hne1 : g ≠ w.heap.size + 1 := by omega
 have pc := hb.cell
 have pf := hb.frozen
 have hkz := kk.size
 cases L with
 | nil =>
  simp only [List.length_nil] at pc
  go_enter Tryd.func61, Tryd.ntmps61
  go_wp2_with fail
  refine bodyPost_ret (v := .agg #[.int .i64 (-1), .int .u64 0, .string ByteArray.empty, .slice none 0 0]) (by simp [results, Tryd.results61, go_sem, *] <;> rfl) rfl ?_
  refine (fun (h1 : Below w.heap.size w _) => ⟨_, rfl, holds_end _, ⟨A, c, hb.keep h1, hI⟩, fun k t cs _ h => h.keep h1, below_btw kk h1 hkz⟩) ?_
  exact blw
 | cons t L =>
  obtain ⟨eb, eo, rfl, hrow⟩ := hI.rows (by simp)
  obtain ⟨k, n, s, A0, m0, c0, hv, q0, q1, q2, q3, -⟩ := hrow 0 t rfl
  simp only [Nat.mul_zero, Nat.zero_add, Nat.add_zero] at q0 q1 q2 q3
  replace q0 := cell_keep kk q0
  replace q1 := cell_keep kk q1
  replace q2 := cell_keep kk q2
  replace q3 := cell_keep kk q3
  have hc1 := hI.2.1
  have hcm := hI.2.2.1
  unfold maxLen at hcm
  simp only [List.length_cons] at pc hI hc1
  have ht : Items w0 (if c = 1 then some ⟨eb, eo, none⟩ else some ⟨eb, eo + 4, none⟩) L.length (c - 1) L := hI.tail
  have hz : (((L.length + 1 : Nat) : Int) == 0) = false := by simp; omega
  have hz1 : (0 : Int) < ((L.length + 1 : Nat) : Int) := by omega
  have hz2 : (1 : Int) ≤ ((L.length + 1 : Nat) : Int) := by omega
  have hz3 : (1 : Int) ≤ (c : Int) := by omega
  have hz4 : ((L.length + 1 : Nat) : Int) ≤ (c : Int) := by omega
  clear hrow hI
  have HT := Lib.hid ht
  have HV := Lib.hid hv
  clear ht hv
  go_enter Tryd.func61, Tryd.ntmps61
  go_upto_region 4 with fail
  have h1 : Below w.heap.size w ((w.alloc (.cells #[.int .i64 0, .int .u64 0, .string ⟨#[]⟩, .slice none 0 0] 25)).alloc (.cells #[.int .i64 k, .int .u64 (n : Int), .string s, .slice A0 m0 c0] 25)) := blw
  have X0 : Blk ((w.alloc (.cells #[.int .i64 0, .int .u64 0, .string ⟨#[]⟩, .slice none 0 0] 25)).alloc (.cells #[.int .i64 k, .int .u64 (n : Int), .string s, .slice A0 m0 c0] 25)) w.heap.size 25 #[.int .i64 0, .int .u64 0, .string ⟨#[]⟩, .slice none 0 0] := (Blk.new w _ _).alloc _
  have X1 : Blk ((w.alloc (.cells #[.int .i64 0, .int .u64 0, .string ⟨#[]⟩, .slice none 0 0] 25)).alloc (.cells #[.int .i64 k, .int .u64 (n : Int), .string s, .slice A0 m0 c0] 25)) (w.heap.size + 1) 25 #[.int .i64 k, .int .u64 (n : Int), .string s, .slice A0 m0 c0] := by
   have h := Blk.new (w.alloc (.cells #[.int .i64 0, .int .u64 0, .string ⟨#[]⟩, .slice none 0 0] 25)) 25 #[.int .i64 k, .int .u64 (n : Int), .string s, .slice A0 m0 c0]
   simpa using h
  have G := hb.keep h1
  simp only [List.length_cons] at G
  clear q0 q1 q2 q3 pc pf
  have HB := Lib.hid hb
  clear hb
  revert h1 X0 X1 G
  generalize World.alloc (World.alloc w _) _ = W
  intro h1 X0 X1 G
  have pc := G.cell
  have pf := G.frozen
  go_upto_region 5 with fail
  generalize (if c = 1 then some (⟨eb, eo, none⟩ : Addr) else some ⟨eb, eo + 4, none⟩) = B2 at *
  have G2 := G.set_ 0 (.slice B2 L.length (c - 1))
  have Y0 := X0.far (p := ⟨g, 0, none⟩) (Ne.symm hne) (.slice B2 L.length (c - 1))
  have Y1 := X1.far (p := ⟨g, 0, none⟩) (Ne.symm hne1) (.slice B2 L.length (c - 1))
  have k2 : Below w0.heap.size w0 (W.setCell ⟨g, 0, none⟩ (.slice B2 L.length (c - 1))) := (below_call kk h1 hkz).setCell (p := ⟨g, 0, none⟩) hg _
  have hB : Beside g w (W.setCell ⟨g, 0, none⟩ (.slice B2 L.length (c - 1))) := fun b t cs hb h => (h.keep h1).far (p := ⟨g, 0, none⟩) hb _
  clear G X0 X1 pc pf h1
  revert G2 Y0 Y1 k2 hB
  generalize World.setCell W _ _ = V
  intro G2 Y0 Y1 k2 hB
  have c1 := Y1.cell
  have c0' := Y0.cell
  have f0 := Y0.frozen
  go_wp2_with fail
  refine bodyPost_ret (v := .agg #[.int .i64 k, .int .u64 (n : Int), .string s, .slice A0 m0 c0]) (by simp [results, Tryd.results61, go_sem, *] <;> rfl) rfl ?_
  refine ⟨_, rfl, HV.out, ⟨_, _, G2.far4 hne _ _ _ _, HT.out⟩, fun b t cs hb h => (hB b t cs hb h).far4 (by have := h.lt; omega) _ _ _ _, ?_⟩
  exact (((k2.setCell (p := ⟨w.heap.size, 0, none⟩) hkz _).setCell (p := ⟨w.heap.size, 1, none⟩) hkz _).setCell (p := ⟨w.heap.size, 2, none⟩) hkz _).setCell (p := ⟨w.heap.size, 3, none⟩) hkz _
theorem head_drop (L : List Tree) (j : Nat) : (L.drop j).headD tEnd = pt L j := by
 unfold pt
 rw [List.headD_eq_head?_getD, List.head?_drop]
theorem tail_drop (L : List Tree) (j : Nat) : (L.drop j).tail = L.drop (j + 1) := by rw [List.tail_drop]
theorem partsnext_any (w0 w : World) (g : Nat) (L : List Tree) (j : Nat) (kk : Below w0.heap.size w0 w) (hg : w0.heap.size ≤ g) (hP : PartsAt w0 w g (L.drop j)) :
  Calls Tryd.prog 61 #[.pointer (some ⟨g, 0, none⟩)] w (fun e w' => ∃ v, e = .returned v ∧ Holds w0 (pt L j) v ∧ PartsAt w0 w' g (L.drop (j + 1)) ∧ Beside g w w' ∧ Below w0.heap.size w0 w') := by
 have h := partnext_any w0 w g (L.drop j) kk hg hP
 rw [head_drop, tail_drop] at h
 exact h
theorem field_item1 (k n : Int) (s : ByteArray) (A : Option Addr) (m c : Nat) (w : World) : (Go.Instr.field 25 (.agg #[.int .i64 k, .int .u64 n, .string s, .slice A m c]) 1).run Tryd.prog w = .ok (.int .u64 n) w := by kernel_rfl
attribute [local go_sem] field_item1
set_option maxHeartbeats 2000000 in
theorem partnum_any (w0 w : World) (g : Nat) (L : List Tree) (j : Nat) (kk : Below w0.heap.size w0 w) (hg : w0.heap.size ≤ g) (hP : PartsAt w0 w g (L.drop j)) :
  Calls Tryd.prog 59 #[.pointer (some ⟨g, 0, none⟩)] w (fun e w' => e = .returned (.int .i64 (pnum L j)) ∧ PartsAt w0 w' g (L.drop (j + 1)) ∧ Beside g w w' ∧ Below w0.heap.size w0 w') := by
 have hn := partsnext_any w0 w g L j kk hg hP
 obtain ⟨k, n, s, l, hp⟩ : ∃ k n s l, pt L j = .mk k n s l := by
  cases h : pt L j with | mk k n s l => exact ⟨k, n, s, l, rfl⟩
 unfold pnum
 rw [hp] at hn ⊢
 have hw : IntKind.i64.wrap (min (n : Int) 4611686018427387904) = (clamp n : Int) := by rw [clamp_int, clamp_wrap]
 have HW := Lib.hid hw
 clear hw hp hP kk hg
 go_enter Tryd.func59, Tryd.ntmps59
 go_wp2_with (go_at_call 61; (with_reducible refine hn.mono ?_); rintro e w1 ⟨v, rfl, hv, hP1, hB1, hk1⟩; obtain ⟨A, m, c, rfl, -, -, -, -, -, -, -⟩ := hv.open_)
 go_ret
 exact ⟨by show Ending.returned (Value.int .i64 (min (n : Int) 4611686018427387904)) = _; rw [clamp_int]; rfl, hP1, hB1, hk1⟩
end Go.Proofs.YtlolnakeancenaaDoor

namespace Go.Proofs.YtlolnakeancenaaDoor
open Go.RowKit
set_option linter.unusedVariables false
set_option linter.unusedSimpArgs false
set_option maxRecDepth 20000
attribute [local go_sem ↓] Go.wp_at_zero Go.wp_at_succ
attribute [local go_sem] World.cell?_alloc_some frozen_alloc_some
attribute [local go_sem] lt2 lt3 lt4 lt5
attribute [local simp] lt2 lt3 lt4 lt5

/-- A ballot that was taken, none as the zero one. -/
noncomputable def btake : Tree → Int × Int × Bool
 | .mk k n s [t0, t1] => if (rightB (clamp (tN t0)) (clamp (tN t1)) && tsame (.mk k n s [t0, t1]) (btree (clamp (tN t0)) (clamp (tN t1)))) = true then (clamp (tN t0), clamp (tN t1), true) else (0, 0, false)
 | _ => (0, 0, false)
theorem btake_none {k : Int} {n : Nat} {s : ByteArray} {l : List Tree} (h : l.length ≠ 2) : btake (.mk k n s l) = (0, 0, false) := by
 match l, h with
 | [], _ => rfl
 | [_], _ => rfl
 | [_, _], h => exact absurd rfl h
 | _ :: _ :: _ :: _, _ => rfl
set_option maxHeartbeats 4000000 in
theorem baltake_many (k : Int) (n : Nat) (s : ByteArray) (A : Option Addr) (m c : Nat) (w : World) (hm : m ≠ 2) :
  Calls Tryd.prog 60 #[.agg #[.int .i64 k, .int .u64 (n : Int), .string s, .slice A m c]] w (Gives w (.tuple #[.agg #[.int .i64 0, .int .i64 0], .bool false])) := by
 have g1 : ((m : Int) != 2) = true := by simp; omega
 go_enter Tryd.func60, Tryd.ntmps60
 go_wp2_with fail
 refine bodyPost_ret (v := .tuple #[.agg #[.int .i64 0, .int .i64 0], .bool false]) (by simp [results, Tryd.results60, go_sem, *] <;> rfl) rfl ?_
 exact ⟨rfl, blw⟩
set_option maxHeartbeats 4000000 in
theorem baltake_good (k : Int) (n : Nat) (s : ByteArray) (A : Option Addr) (c : Nat) (t0 t1 : Tree) (w : World) (hv : Holds w (.mk k n s [t0, t1]) (.agg #[.int .i64 k, .int .u64 (n : Int), .string s, .slice A 2 c])) :
  Calls Tryd.prog 60 #[.agg #[.int .i64 k, .int .u64 (n : Int), .string s, .slice A 2 c]] w (Gives w (.tuple #[.agg #[.int .i64 (btake (.mk k n s [t0, t1])).1, .int .i64 (btake (.mk k n s [t0, t1])).2.1], .bool (btake (.mk k n s [t0, t1])).2.2])) := by
 obtain ⟨eb, eo, rfl, hrow⟩ := hv.items.rows (by simp)
 obtain ⟨k0, n0, s0, A0, m0, c0, h0, -, p0, -, -, hn0⟩ := hrow 0 t0 rfl
 obtain ⟨k1, n1, s1, A1, m1, c1, h1, -, p1, -, -, hn1⟩ := hrow 1 t1 rfl
 simp only [Nat.reduceMul, Nat.add_zero, Nat.add_assoc, Nat.reduceAdd] at p0 p1
 have hplain : btake (.mk k n s [t0, t1]) = if (rightB (clamp n0) (clamp n1) && tsame (.mk k n s [t0, t1]) (btree (clamp n0) (clamp n1))) = true then ((clamp n0 : Int), (clamp n1 : Int), true) else (0, 0, false) := by rw [← hn0, ← hn1]; rfl
 rw [hplain]
 have hri := fun W => right_any (clamp n0) (clamp n1) W
 have hbi := fun W => balitem_any (clamp n0) (clamp n1) W
 have hsm := fun x W (hb : Below w.heap.size w W) (hx : Holds W (btree (clamp n0) (clamp n1)) x) => codecsame_any (.mk k n s [t0, t1]) (btree (clamp n0) (clamp n1)) _ x W (hv.keep hb) hx
 obtain ⟨R, hR⟩ : ∃ R, tsame (.mk k n s [t0, t1]) (btree (clamp n0) (clamp n1)) = R := ⟨_, rfl⟩
 rw [hR] at hsm ⊢
 obtain ⟨r, hr⟩ : ∃ r, rightB (clamp n0) (clamp n1) = r := ⟨_, rfl⟩
 rw [hr] at hri ⊢
 unfold listV at hbi
 obtain ⟨RES, hRES⟩ : ∃ x, (if (r && R) = true then ((clamp n0 : Int), (clamp n1 : Int), true) else (0, 0, false)) = x := ⟨_, rfl⟩
 rw [hRES]
 have HRES := Lib.hid hRES
 have Hri := Lib.hid hri
 have Hbi := Lib.hid hbi
 have Hsm := Lib.hid hsm
 clear hri hbi hsm hR hr hplain hrow hv h0 h1 hRES hn0 hn1
 have X0 : Blk ((w.alloc (.cells #[.int .i64 k, .int .u64 (n : Int), .string s, .slice (some ⟨eb, eo, none⟩) 2 c] 25)).alloc (.cells #[.int .i64 0, .int .i64 0] 43)) w.heap.size 25 #[.int .i64 k, .int .u64 (n : Int), .string s, .slice (some ⟨eb, eo, none⟩) 2 c] := (Blk.new w _ _).alloc _
 have R0 : Blk ((w.alloc (.cells #[.int .i64 k, .int .u64 (n : Int), .string s, .slice (some ⟨eb, eo, none⟩) 2 c] 25)).alloc (.cells #[.int .i64 0, .int .i64 0] 43)) (w.heap.size + 1) 43 #[.int .i64 0, .int .i64 0] := Blk.newAt (by simp)
 have kk : Below w.heap.size w ((w.alloc (.cells #[.int .i64 k, .int .u64 (n : Int), .string s, .slice (some ⟨eb, eo, none⟩) 2 c] 25)).alloc (.cells #[.int .i64 0, .int .i64 0] 43)) := blw
 have x0 := X0.cell
 go_enter Tryd.func60, Tryd.ntmps60
 go_upto_region 3 with fail
 replace X0 := X0.drew
 replace R0 := R0.drew
 replace kk := kk.drew
 clear x0
 (refine wp_region_held_drew (S := (S12 w.heap.size #[.int .i64 k, .int .u64 (n : Int), .string s, .slice (some ⟨eb, eo, none⟩) 2 c] ⟨eb, eo + 1, none⟩ ⟨eb, eo + 5, none⟩ (.int .u64 (n0 : Int)) (.int .u64 (n1 : Int)))) (by kernel_rfl) ?_ (fun hHeld => ?_); (· exact ⟨X0.cell, cell_keep kk p0, cell_keep kk p1⟩))
 revert hHeld X0 R0 kk
 generalize World.drew _ = w0
 intro X0 R0 kk hHeld
 (refine take_op (i := 0) (v := ?_) rfl (by kernel_rfl) (by kernel_rfl) (by kernel_rfl) (fun _ _ _ h => h) (by rfl) ?_ hHeld ?_; rotate_left; (· (intro wS hSw; (try dsimp only at hSw); go_simp; first | done | with_reducible rfl)); simp only [Act.put, sta_, scz_, scs_]); (refine take_op (i := 1) (v := ?_) rfl (by kernel_rfl) (by kernel_rfl) (by kernel_rfl) (fun _ _ _ h => h) (by rfl) ?_ hHeld ?_; rotate_left; (· (intro wS hSw; (try dsimp only at hSw); go_simp; first | done | with_reducible rfl)); simp only [Act.put, sta_, scz_, scs_]); (refine take_op (i := 2) (v := ?_) rfl (by kernel_rfl) (by kernel_rfl) (by kernel_rfl) (fun _ _ _ h => h) (by rfl) ?_ hHeld ?_; rotate_left; (· (intro wS hSw; (try dsimp only at hSw); go_simp; first | done | with_reducible rfl)); simp only [Act.put, sta_, scz_, scs_]); (refine take_op (i := 3) (v := ?_) rfl (by kernel_rfl) (by kernel_rfl) (by kernel_rfl) (fun _ _ _ h => h) (by rfl) ?_ hHeld ?_; rotate_left; (· (intro wS hSw; (try dsimp only at hSw); go_simp; first | done | with_reducible rfl)); simp only [Act.put, sta_, scz_, scs_]); (refine take_op (i := 4) (v := ?_) rfl (by kernel_rfl) (by kernel_rfl) (by kernel_rfl) (fun _ _ _ h => h) (by rfl) ?_ hHeld ?_; rotate_left; (· (intro wS hSw; (try dsimp only at hSw); go_simp; first | done | with_reducible rfl)); simp only [Act.put, sta_, scz_, scs_]); (refine take_op (i := 5) (v := ?_) rfl (by kernel_rfl) (by kernel_rfl) (by kernel_rfl) (fun _ _ _ h => h) (by rfl) ?_ hHeld ?_; rotate_left; (· (intro wS hSw; (try dsimp only at hSw); go_simp; first | done | with_reducible rfl)); simp only [Act.put, sta_, scz_, scs_]); (refine take_op (i := 6) (v := ?_) rfl (by kernel_rfl) (by kernel_rfl) (by kernel_rfl) (fun _ _ _ h => h) (by rfl) ?_ hHeld ?_; rotate_left; (· (intro wS hSw; (try dsimp only at hSw); go_simp; first | done | with_reducible rfl)); simp only [Act.put, sta_, scz_, scs_]); (refine take_op (i := 7) (v := ?_) rfl (by kernel_rfl) (by kernel_rfl) (by kernel_rfl) (fun _ _ _ h => h) (by rfl) ?_ hHeld ?_; rotate_left; (· (intro wS hSw; (try dsimp only at hSw); go_simp; first | done | with_reducible rfl)); simp only [Act.put, sta_, scz_, scs_]); (refine take_op (i := 8) (v := ?_) rfl (by kernel_rfl) (by kernel_rfl) (by kernel_rfl) (fun _ _ _ h => h) (by rfl) ?_ hHeld ?_; rotate_left; (· (intro wS hSw; (try dsimp only at hSw); go_simp; first | done | with_reducible rfl)); simp only [Act.put, sta_, scz_, scs_]); (refine take_op (i := 9) (v := ?_) rfl (by kernel_rfl) (by kernel_rfl) (by kernel_rfl) (fun _ _ _ h => h) (by rfl) ?_ hHeld ?_; rotate_left; (· (intro wS hSw; (try dsimp only at hSw); go_simp; first | done | with_reducible rfl)); simp only [Act.put, sta_, scz_, scs_]); (refine take_op (i := 10) (v := ?_) rfl (by kernel_rfl) (by kernel_rfl) (by kernel_rfl) (fun _ _ _ h => h) (by rfl) ?_ hHeld ?_; rotate_left; (· (intro wS hSw; (try dsimp only at hSw); go_simp; first | done | with_reducible rfl)); simp only [Act.put, sta_, scz_, scs_]); (refine take_op (i := 11) (v := ?_) rfl (by kernel_rfl) (by kernel_rfl) (by kernel_rfl) (fun _ _ _ h => h) (by rfl) ?_ hHeld ?_; rotate_left; (· (intro wS hSw; (try dsimp only at hSw); go_simp; first | done | with_reducible rfl)); simp only [Act.put, sta_, scz_, scs_]); (refine take_op (i := 12) (v := ?_) rfl (by kernel_rfl) (by kernel_rfl) (by kernel_rfl) (fun _ _ _ h => h) (by rfl) ?_ hHeld ?_; rotate_left; (· (intro wS hSw; (try dsimp only at hSw); go_simp; first | done | with_reducible rfl)); simp only [Act.put, sta_, scz_, scs_]); (refine take_op (i := 13) (v := ?_) rfl (by kernel_rfl) (by kernel_rfl) (by kernel_rfl) (fun _ _ _ h => h) (by rfl) ?_ hHeld ?_; rotate_left; (· (intro wS hSw; (try dsimp only at hSw); go_simp; first | done | with_reducible rfl)); simp only [Act.put, sta_, scz_, scs_]); (refine take_op (i := 14) (v := ?_) rfl (by kernel_rfl) (by kernel_rfl) (by kernel_rfl) (fun _ _ _ h => h) (by rfl) ?_ hHeld ?_; rotate_left; (· (intro wS hSw; (try dsimp only at hSw); go_simp; first | done | with_reducible rfl)); simp only [Act.put, sta_, scz_, scs_])
 simp only [clamp_int, clamp_wrap] at *
 have B0 : Blk (w0.alloc (.cells #[.int .i64 0, .int .i64 0] 43)) w0.heap.size 43 #[.int .i64 0, .int .i64 0] := Blk.new w0 _ _
 have zb : w.heap.size + 2 ≤ w0.heap.size := R0.lt
 replace X0 := X0.alloc (.cells #[.int .i64 0, .int .i64 0] 43)
 replace R0 := R0.alloc (.cells #[.int .i64 0, .int .i64 0] 43)
 replace kk := kk.alloc kk.size (.cells #[.int .i64 0, .int .i64 0] 43)
 (refine call_op (i := 15) rfl (by kernel_rfl) (by rfl) (fun K hK => ?_); go_simp; skip; refine hK.out _ _ ⟨X0.cell, cell_keep kk p0, cell_keep kk p1⟩ (fun hHeld2 => ?_); clear hK K hHeld; have hHeld := hHeld2; clear hHeld2; (try simp only [Act.put, sta_, scz_, scs_]))
 revert hHeld B0 zb X0 R0 kk
 generalize World.alloc w0 _ = w1
 generalize w0.heap.size = gb
 intro B0 zb X0 R0 kk hHeld
 have b0 := B0.cell
 have bf := B0.frozen
 have B1 : Blk ((w1.setCell ⟨gb, 0, none⟩ (.int .i64 (clamp n0 : Int))).setCell ⟨gb, 1, none⟩ (.int .i64 (clamp n1 : Int))) gb 43 #[.int .i64 (clamp n0 : Int), .int .i64 (clamp n1 : Int)] := by
  have := (B0.set_ 0 (.int .i64 (clamp n0 : Int))).set_ 1 (.int .i64 (clamp n1 : Int))
  simpa using this
 replace X0 := (X0.far (p := ⟨gb, 0, none⟩) (by simp; omega) (.int .i64 (clamp n0 : Int))).far (p := ⟨gb, 1, none⟩) (by simp; omega) (.int .i64 (clamp n1 : Int))
 replace R0 := (R0.far (p := ⟨gb, 0, none⟩) (by simp; omega) (.int .i64 (clamp n0 : Int))).far (p := ⟨gb, 1, none⟩) (by simp; omega) (.int .i64 (clamp n1 : Int))
 replace kk := (kk.setCell (p := ⟨gb, 0, none⟩) (by simp; omega) (.int .i64 (clamp n0 : Int))).setCell (p := ⟨gb, 1, none⟩) (by simp; omega) (.int .i64 (clamp n1 : Int))
 (refine call_op (i := 16) rfl (by kernel_rfl) (by rfl) (fun K hK => ?_); go_simp; skip; refine hK.out _ _ ⟨X0.cell, cell_keep kk p0, cell_keep kk p1⟩ (fun hHeld2 => ?_); clear hK K hHeld; have hHeld := hHeld2; clear hHeld2; (try simp only [Act.put, sta_, scz_, scs_]))
 clear b0 bf B0
 (refine wpAnyH_done (by kernel_rfl) ?_ _)
 revert X0 R0 kk B1
 generalize World.setCell (World.setCell _ ⟨gb, 0, none⟩ _) ⟨gb, 1, none⟩ _ = w2
 intro B1 X0 R0 kk
 clear hHeld p0 p1
 generalize (clamp n0 : Int) = x0 at *
 generalize (clamp n1 : Int) = x1 at *
 go_upto_region 4 with fail
 replace X0 := X0.drew
 replace R0 := R0.drew
 replace B1 := B1.drew
 replace kk := kk.drew
 (refine wp_region_held_drew (S := (S11 w.heap.size gb #[.int .i64 k, .int .u64 (n : Int), .string s, .slice (some ⟨eb, eo, none⟩) 2 c] #[.int .i64 x0, .int .i64 x1])) (by kernel_rfl) ?_ (fun hHeld => ?_); (· exact ⟨X0.cell, B1.cell⟩))
 revert hHeld X0 R0 kk B1
 generalize World.drew _ = w3
 intro X0 R0 B1 kk hHeld
 (refine take_op (i := 0) (v := ?_) rfl (by kernel_rfl) (by kernel_rfl) (by kernel_rfl) (fun _ _ _ h => h) (by rfl) ?_ hHeld ?_; rotate_left; (· (intro wS hSw; (try dsimp only at hSw); go_simp; first | done | with_reducible rfl)); simp only [Act.put, sta_, scz_, scs_])
 (refine call_op (i := 1) rfl (by kernel_rfl) (by rfl) (fun K hK => ?_); go_simp; (go_at_call 68; (with_reducible refine (Hri.out _).mono ?_); rintro e w4 ⟨rfl, hb4⟩; replace X0 := X0.keep hb4; replace R0 := R0.keep hb4; replace B1 := B1.keep hb4; replace kk := below_call kk hb4 kk.size); refine hK.out _ _ ⟨X0.cell, B1.cell⟩ (fun hHeld2 => ?_); clear hK K hHeld; have hHeld := hHeld2; clear hHeld2; (try simp only [Act.put, sta_, scz_, scs_]))
 cases r
 ·(refine take_op (i := 2) (v := ?_) rfl (by kernel_rfl) (by kernel_rfl) (by kernel_rfl) (fun _ _ _ h => h) (by rfl) ?_ hHeld ?_; rotate_left; (· (intro wS hSw; (try dsimp only at hSw); go_simp; first | done | with_reducible rfl)); simp only [Act.put, sta_, scz_, scs_]); (refine take_op (i := 3) (v := ?_) rfl (by kernel_rfl) (by kernel_rfl) (by kernel_rfl) (fun _ _ _ h => h) (by rfl) ?_ hHeld ?_; rotate_left; (· (intro wS hSw; (try dsimp only at hSw); go_simp; first | done | with_reducible rfl)); simp only [Act.put, sta_, scz_, scs_])
  (refine skip_op (i := 4) rfl (by kernel_rfl) (by kernel_rfl) (by kernel_rfl) (fun _ _ _ h => h) (by rfl) hHeld ?_; simp only [Act.put, sta_, scz_, scs_]); (refine skip_op (i := 5) rfl (by kernel_rfl) (by kernel_rfl) (by kernel_rfl) (fun _ _ _ h => h) (by rfl) hHeld ?_; simp only [Act.put, sta_, scz_, scs_]); (refine skip_op (i := 6) rfl (by kernel_rfl) (by kernel_rfl) (by kernel_rfl) (fun _ _ _ h => h) (by rfl) hHeld ?_; simp only [Act.put, sta_, scz_, scs_]); (refine skip_op (i := 7) rfl (by kernel_rfl) (by kernel_rfl) (by kernel_rfl) (fun _ _ _ h => h) (by rfl) hHeld ?_; simp only [Act.put, sta_, scz_, scs_]); (refine skip_op (i := 8) rfl (by kernel_rfl) (by kernel_rfl) (by kernel_rfl) (fun _ _ _ h => h) (by rfl) hHeld ?_; simp only [Act.put, sta_, scz_, scs_])
  (refine take_op (i := 9) (v := ?_) rfl (by kernel_rfl) (by kernel_rfl) (by kernel_rfl) (fun _ _ _ h => h) (by rfl) ?_ hHeld ?_; rotate_left; (· (intro wS hSw; (try dsimp only at hSw); go_simp; first | done | with_reducible rfl)); simp only [Act.put, sta_, scz_, scs_])
  (refine wpAnyH_done (by kernel_rfl) ?_ _)
  have Rc := R0.cell
  have Rf := R0.frozen
  clear hHeld
  go_wp2_with fail
  refine bodyPost_ret (v := .tuple #[.agg #[.int .i64 0, .int .i64 0], .bool false]) (by simp [results, Tryd.results60, go_sem, *] <;> rfl) rfl ?_
  obtain rfl := HRES.out
  exact ⟨rfl, blw⟩
 (refine take_op (i := 2) (v := ?_) rfl (by kernel_rfl) (by kernel_rfl) (by kernel_rfl) (fun _ _ _ h => h) (by rfl) ?_ hHeld ?_; rotate_left; (· (intro wS hSw; (try dsimp only at hSw); go_simp; first | done | with_reducible rfl)); simp only [Act.put, sta_, scz_, scs_]); (refine take_op (i := 3) (v := ?_) rfl (by kernel_rfl) (by kernel_rfl) (by kernel_rfl) (fun _ _ _ h => h) (by rfl) ?_ hHeld ?_; rotate_left; (· (intro wS hSw; (try dsimp only at hSw); go_simp; first | done | with_reducible rfl)); simp only [Act.put, sta_, scz_, scs_]); (refine take_op (i := 4) (v := ?_) rfl (by kernel_rfl) (by kernel_rfl) (by kernel_rfl) (fun _ _ _ h => h) (by rfl) ?_ hHeld ?_; rotate_left; (· (intro wS hSw; (try dsimp only at hSw); go_simp; first | done | with_reducible rfl)); simp only [Act.put, sta_, scz_, scs_]); (refine take_op (i := 5) (v := ?_) rfl (by kernel_rfl) (by kernel_rfl) (by kernel_rfl) (fun _ _ _ h => h) (by rfl) ?_ hHeld ?_; rotate_left; (· (intro wS hSw; (try dsimp only at hSw); go_simp; first | done | with_reducible rfl)); simp only [Act.put, sta_, scz_, scs_])
 (refine call_op (i := 6) rfl (by kernel_rfl) (by rfl) (fun K hK => ?_); go_simp; (go_at_call 56; (with_reducible refine (Hbi.out _).mono ?_); rintro e w5 ⟨A5, c5, rfl, hi5, hb5⟩; replace X0 := X0.keep hb5; replace R0 := R0.keep hb5; replace B1 := B1.keep hb5; replace kk := below_call kk hb5 kk.size); refine hK.out _ _ ⟨X0.cell, B1.cell⟩ (fun hHeld2 => ?_); clear hK K hHeld; have hHeld := hHeld2; clear hHeld2; (try simp only [Act.put, sta_, scz_, scs_]))
 (refine call_op (i := 7) rfl (by kernel_rfl) (by rfl) (fun K hK => ?_); go_simp; (go_at_call 15; (with_reducible refine (Hsm.out _ _ kk hi5.holds).mono ?_); rintro e w6 ⟨rfl, hb6⟩; replace X0 := X0.keep hb6; replace R0 := R0.keep hb6; replace B1 := B1.keep hb6; replace kk := below_call kk hb6 kk.size); refine hK.out _ _ ⟨X0.cell, B1.cell⟩ (fun hHeld2 => ?_); clear hK K hHeld; have hHeld := hHeld2; clear hHeld2; (try simp only [Act.put, sta_, scz_, scs_]))
 (refine take_op (i := 8) (v := ?_) rfl (by kernel_rfl) (by kernel_rfl) (by kernel_rfl) (fun _ _ _ h => h) (by rfl) ?_ hHeld ?_; rotate_left; (· (intro wS hSw; (try dsimp only at hSw); go_simp; first | done | with_reducible rfl)); simp only [Act.put, sta_, scz_, scs_]); (refine take_op (i := 9) (v := ?_) rfl (by kernel_rfl) (by kernel_rfl) (by kernel_rfl) (fun _ _ _ h => h) (by rfl) ?_ hHeld ?_; rotate_left; (· (intro wS hSw; (try dsimp only at hSw); go_simp; first | done | with_reducible rfl)); simp only [Act.put, sta_, scz_, scs_])
 (refine wpAnyH_done (by kernel_rfl) ?_ _)
 have Rc := R0.cell
 have Rf := R0.frozen
 have Bc := B1.cell
 clear hHeld
 cases R
 ·go_wp2_with fail
  refine bodyPost_ret (v := .tuple #[.agg #[.int .i64 0, .int .i64 0], .bool false]) (by simp [results, Tryd.results60, go_sem, *] <;> rfl) rfl ?_
  obtain rfl := HRES.out
  exact ⟨rfl, blw⟩
 ·go_wp2_with fail
  refine bodyPost_ret (v := .tuple #[.agg #[.int .i64 x0, .int .i64 x1], .bool true]) (by simp [results, Tryd.results60, go_sem, *] <;> rfl) rfl ?_
  obtain rfl := HRES.out
  exact ⟨rfl, blw⟩
theorem baltake_any (t : Tree) (v : Value) (w : World) (hv : Holds w t v) : Calls Tryd.prog 60 #[v] w (Gives w (.tuple #[.agg #[.int .i64 (btake t).1, .int .i64 (btake t).2.1], .bool (btake t).2.2])) := by
 obtain ⟨k, n, s, l⟩ := t
 obtain ⟨A, m, c, rfl, -, -, -, hm, -, -, -⟩ := hv.open_
 by_cases h : l.length = 2
 ·match l, h with
  | [t0, t1], _ => subst hm; exact baltake_good k n s A c t0 t1 w hv
 ·rw [btake_none h]
  exact baltake_many k n s A m c w (by omega)
end Go.Proofs.YtlolnakeancenaaDoor

namespace Go.Proofs.YtlolnakeancenaaDoor
open Go.RowKit
set_option linter.unusedVariables false
set_option linter.unusedSimpArgs false
set_option maxRecDepth 20000
attribute [local go_sem ↓] Go.wp_at_zero Go.wp_at_succ
attribute [local go_sem] World.cell?_alloc_some frozen_alloc_some

theorem atake_none {k : Int} {n : Nat} {s : ByteArray} {l : List Tree} (h : l.length ≠ 3) : atake (.mk k n s l) = none := by
 match l, h with
 | [], _ => rfl
 | [_], _ => rfl
 | [_, _], _ => rfl
 | [_, _, _], h => exact absurd rfl h
 | _ :: _ :: _ :: _ :: _, _ => rfl
theorem tkA_none {w : World} {e : Ending} {w' : World} (h : Gives w (.tuple #[.agg #[.slice none 0 0, .int .i64 0, .int .i64 0], .bool false]) e w') : TkA w none e w' :=
 ⟨none, 0, h.1, IdsAt.nil, ⟨Nat.le_refl _, fun ad h => by cases h⟩, h.2⟩
theorem attrtake_any (t : Tree) (v : Value) (w : World) (hv : Holds w t v) : Calls Tryd.prog 63 #[v] w (TkA w (atake t)) := by
 obtain ⟨k, n, s, l⟩ := t
 obtain ⟨A, m, c, rfl, -, -, -, hm, -, -, -⟩ := hv.open_
 by_cases h : l.length = 3
 ·match l, h with
  | [t0, t1, t2], _ => subst hm; exact attrtake_good k n s A c t0 t1 t2 w hv
 ·rw [atake_none h]
  exact (attrtake_many k n s A m c w (by omega)).mono fun e w' h => tkA_none h
theorem clampZ {a : Int} (h0 : 0 ≤ a) (h1 : a ≤ 1099511627776) : ((clamp (tN (ntree a)) : Nat) : Int) = a := by
 show ((clamp (u64n a) : Nat) : Int) = a
 rw [u64n_of h0 (by omega)]; unfold clamp; omega
theorem acheck_bounds {l : List IdP} {q t : Int} (h : acheck ⟨l, q, t⟩ = 0) : idsOk l = true ∧ 0 ≤ q ∧ q ≤ 1099511627776 ∧ 0 ≤ t ∧ t ≤ 1099511627776 := by
 obtain ⟨h1, h2⟩ := acheck_iff.1 h
 simp only at h1 h2
 refine ⟨h2, ?_⟩
 rcases h1 with ⟨a, b, c⟩ | ⟨a, b⟩ <;> omega
theorem atake_item {l : List IdP} {q t : Int} (h : acheck ⟨l, q, t⟩ = 0) : atake (atree l q t) = some ⟨l, q, t⟩ := by
 obtain ⟨h2, h3, h4, h5, h6⟩ := acheck_bounds h
 show aTk (itake (ltree (itrees l))).isSome ((itake (ltree (itrees l))).getD []) (clamp (tN (ntree q))) (clamp (tN (ntree t))) (atree l q t) (atree ((itake (ltree (itrees l))).getD []) (clamp (tN (ntree q))) (clamp (tN (ntree t)))) = _
 rw [itake_item l h2, clampZ h3 h4, clampZ h5 h6]
 unfold aTk
 rw [if_pos]
 ·rfl
 ·simp only [Option.getD_some, Option.isSome_some, tsame_self, h]; rfl
end Go.Proofs.YtlolnakeancenaaDoor

namespace Go.Proofs.YtlolnakeancenaaDoor
open Go.RowKit
set_option linter.unusedVariables false
set_option linter.unusedSimpArgs false
set_option maxRecDepth 20000
attribute [local go_sem ↓] Go.wp_at_zero Go.wp_at_succ
attribute [local go_sem] World.cell?_alloc_some frozen_alloc_some

/-- A message without its pointers. -/
def MsgT.at (M : MsgT) (A : Option Addr) (m c : Nat) : MsgT := { M with A := A, m := m, cap := c }
def MsgT.norm (M : MsgT) : MsgT := M.at none 0 0
noncomputable def mreadF (f0 f1 f2 f3 f4 f5 : Bool) (k st : Int) (L : List Tree) (jc : Nat) : MsgT :=
 ⟨k, if f0 then pnum L 1 else 0, if f0 then pnum L 2 else 0, if f1 then (btake (pt L 3)).1 else 0, if f1 then (btake (pt L 3)).2.1 else 0, if f2 then (btake (pt L 5)).1 else 0, if f2 then (btake (pt L 5)).2.1 else 0, st,
  if f3 then (ctake (pt L jc)).k else 0, if f3 then (ctake (pt L jc)).c else 0, if f3 then (ctake (pt L jc)).q else 0, if f3 then (ctake (pt L jc)).y else ⟨#[]⟩, if f3 then (ctake (pt L jc)).x else ⟨#[]⟩, if f3 then (ctake (pt L jc)).r else 0,
  none, 0, 0, if f4 then ((atake (pt L (if f3 then jc + 1 else jc))).getD azero).q else 0, if f4 then ((atake (pt L (if f3 then jc + 1 else jc))).getD azero).t else 0, if f5 then pnum L 1 else 0, if f4 then ((atake (pt L (if f3 then jc + 1 else jc))).getD azero).l else []⟩
def mzero (k : Int) : MsgT := ⟨k, 0, 0, 0, 0, 0, 0, 0, 0, 0, 0, ⟨#[]⟩, ⟨#[]⟩, 0, none, 0, 0, 0, 0, 0, []⟩
noncomputable def mreadK (k st : Int) (L : List Tree) : MsgT := mreadF (kId k) (kBal k) (kSt k) (kCmd k st) (kAt k st) (kVer k) k st L (if kSt k then 6 else if kBal k then 4 else 3)
noncomputable def mread (L : List Tree) : MsgT :=
 if 1 ≤ pnum L 0 ∧ pnum L 0 < 10 then mreadK (pnum L 0) (if kSt (pnum L 0) then pnum L 4 else 0) L else mzero (pnum L 0)
end Go.Proofs.YtlolnakeancenaaDoor

namespace Go.Proofs.YtlolnakeancenaaDoor
open Go.RowKit
set_option linter.unusedVariables false
set_option linter.unusedSimpArgs false
set_option maxRecDepth 20000
attribute [local go_sem ↓] Go.wp_at_zero Go.wp_at_succ
attribute [local go_sem] World.cell?_alloc_some frozen_alloc_some

theorem join {J A : Prop} (h : J → A) (j : J) : A := h j
theorem anyH_listed {P : Program} {md : Region.Mode} {ops : Array Oper} {Q : Exit → Act → World → Prop} {S : World → Prop} {fuel : Nat} {L L' : Array Bool} {a : Act} {w : World} (h : L = L') (hh : wpAnyH P md ops Q S fuel L' a w) : wpAnyH P md ops Q S fuel L a w := h ▸ hh
theorem RowX.fresh {w0 : World} {base gx : Nat} {v : Value} {n : Nat} {l : List Tree} {us : List Value} (h : RowX w0 base gx v n l us) (hgx : gx < w0.heap.size) (hb : base ≤ w0.heap.size) (W : World) (B : Nat) (t : Tree) (u : Value) (hB : w0.heap.size ≤ B)
  (hh : HoldsIn W (fun b => B ≤ b) t u) : HoldsIn W (fun b => base ≤ b ∧ b ≠ gx ∧ some b ≠ v.ownBlock) t u :=
 hh.mono fun b hb' => ⟨by omega, by omega, fun e => by have := (h.own.lt _ e.symm).2; omega⟩
structure St (w : World) (W : World) (gh gx : Nat) (MC HB : Array Value) (v : Value) (n : Nat) (l : List Tree) (us : List Value) : Prop where
 kk : Below w.heap.size w W
 X : Blk W w.heap.size 50 MC
 R : Blk W (w.heap.size + 1) 25 #[.int .i64 0, .int .u64 0, .string ⟨#[]⟩, .slice none 0 0]
 Hh : Blk W gh 99 HB
 G : Blk W gx 25 #[.int .i64 2, .int .u64 0, .string ByteArray.empty, v]
 P : RowX W (w.heap.size + 2) gx v n l us
 hz : w.heap.size + 2 ≤ W.heap.size
 hgh : w.heap.size + 2 ≤ gh
 hgx : w.heap.size + 2 ≤ gx
 hne : gh ≠ gx
 nh : v.ownBlock ≠ some gh
theorem St.keep {w W W' : World} {gh gx : Nat} {MC HB : Array Value} {v : Value} {n : Nat} {l : List Tree} {us : List Value} (h : St w W gh gx MC HB v n l us) (hb : Below W.heap.size W W') : St w W' gh gx MC HB v n l us :=
 ⟨below_call h.kk hb h.kk.size, h.X.keep hb, h.R.keep hb, h.Hh.keep hb, h.G.keep hb, h.P.keep hb, Nat.le_trans h.hz hb.size, h.hgh, h.hgx, h.hne, h.nh⟩
theorem St.app {w W w4 : World} {gh gx : Nat} {MC HB : Array Value} {v v4 : Value} {n n' : Nat} {l ts : List Tree} {us us' : List Value} (h : St w W gh gx MC HB v n l us) (hl : us'.length = ts.length) (hn : n' = n + us'.length)
  (hu : ∀ (i : Nat) (t : Tree) (u : Value), ts[i]? = some t → us'[i]? = some u → HoldsIn W (fun b => w.heap.size + 2 ≤ b ∧ b ≠ gx ∧ some b ≠ v.ownBlock) t u)
  (hown : w4.ownsRow (w.heap.size + 2) 25 4 v4 (n + us'.length) (flatL us ++ flatL us')) (hgr : W.grownBy w4 v.ownBlock) (hat : v4.ownBlock = v.ownBlock ∨ v4.ownBlock = some W.heap.size) :
  Blk w4 w.heap.size 50 MC ∧ Blk w4 gx 25 #[.int .i64 2, .int .u64 0, .string ByteArray.empty, v] ∧
   St w (w4.setCell ⟨gx, 3, none⟩ v4) gh gx MC HB v4 n' (l ++ ts) (us ++ us') := by
 have hPl := h.P.own.lt
 have h1 := h.hgh
 have h2 := h.hgx
 have h3 := h.hne
 have hz := h.hz
 have P4 := h.P.app hl hn hu hown hgr hat h.G.lt
 have X4 : Blk w4 w.heap.size 50 MC := (hgr.block _ h.X.lt (fun e => by have := (hPl _ e.symm).1; omega)).trans h.X
 have R4 := (hgr.block _ h.R.lt (fun e => by have := (hPl _ e.symm).1; omega)).trans h.R
 have H4 := (hgr.block _ h.Hh.lt (fun e => h.nh e.symm)).trans h.Hh
 have G4 : Blk w4 gx 25 _ := (hgr.block _ h.G.lt (fun e => h.P.ne e.symm)).trans h.G
 have k4 := below_app (B := w.heap.size) h.kk h.P.own hgr (by omega) (by omega)
 have hs := hgr.size
 refine ⟨X4, G4, ⟨k4.setCell (p := ⟨gx, 3, none⟩) (by simp; omega) _, Blk.far X4 (p := ⟨gx, 3, none⟩) (by simp; omega) _, Blk.far R4 (p := ⟨gx, 3, none⟩) (by simp; omega) _, Blk.far H4 (p := ⟨gx, 3, none⟩) (by simpa using h3) _, ?_, P4.set (p := ⟨gx, 3, none⟩) rfl _, by simp; omega, h1, h2, h3, ?_⟩⟩
 ·have := G4.set_ 3 v4
  simpa using this
 ·rcases hat with e | e
  ·rw [e]; exact h.nh
  ·rw [e]
   intro e2
   injection e2 with e2
   have := h.Hh.lt
   omega
end Go.Proofs.YtlolnakeancenaaDoor

namespace Go.Proofs.YtlolnakeancenaaDoor
open Go.RowKit
set_option linter.unusedVariables false
set_option linter.unusedSimpArgs false
set_option maxRecDepth 20000
attribute [local go_sem ↓] Go.wp_at_zero Go.wp_at_succ
attribute [local go_sem] World.cell?_alloc_some frozen_alloc_some
attribute [local go_sem] lt2 lt3 lt4 lt5
attribute [local simp] lt2 lt3 lt4 lt5

theorem item101_any (v : Int) (w : World) : Calls Tryd.prog 52 #[.int .i64 v] w (Gives w (numV (u64n v))) := by
 have hw := u64n_cast v
 have hn := fun W => num_any (u64n v) W
 go_enter Tryd.func52, Tryd.ntmps52
 go_wp2_with fail
 refine (hn _).mono ?_
 rintro e w1 ⟨rfl, hb1⟩
 have hz1 := hb1.size
 simp at hz1
 obtain ⟨q0, r0⟩ := new_keep hb1 0 rfl
 obtain ⟨q1, r1⟩ := new_keep hb1 1 rfl
 obtain ⟨q2, r2⟩ := new_keep hb1 2 rfl
 obtain ⟨q3, r3⟩ := new_keep hb1 3 rfl
 have hbw : Below w.heap.size w w1 := blw
 unfold numV
 go_wp2_with fail
 refine bodyPost_ret (v := numV (u64n v)) (by simp [results, Tryd.results52, go_sem, *, numV] <;> rfl) rfl ?_
 exact ⟨rfl, blw⟩
/-- A message as a tree's list. -/
def mpartsF (f0 f1 f2 f3 f4 f5 : Bool) (a : MsgT) : List Tree :=
 [ntree a.k] ++ (if f0 then [ntree a.i, ntree a.n] else []) ++ (if f1 then [btree a.br a.bb] else []) ++ (if f2 then [ntree a.st, btree a.tr a.tb] else []) ++ (if f3 then [ctree a.ck.toNat a.cc.toNat a.cq.toNat a.cy a.cx a.cr.toNat] else []) ++ (if f4 then [atree a.l a.sq a.tg] else []) ++ (if f5 then [ntree a.ver] else [])
def mparts (a : MsgT) : List Tree := mpartsF (kId a.k) (kBal a.k) (kSt a.k) (kCmd a.k a.st) (kAt a.k a.st) (kVer a.k) a
/-- The code behind the regions 0 to 2. -/
noncomputable def itemRest : Code := match Tryd.f35.body with | some (.seq _ (.seq _ (.seq _ c))) => c | _ => .skip
def ItemPost (w : World) (l : List Tree) (e : Ending) (w' : World) : Prop := ∃ A m c, e = .returned (listV A m c) ∧ HoldsIn w' (fun b => w.heap.size ≤ b) (ltree l) (listV A m c) ∧ Below w.heap.size w w'
end Go.Proofs.YtlolnakeancenaaDoor
