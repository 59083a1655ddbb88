/- The parts of an item, one by one: rec's parts.next, parts.number. -/
import Derived.Test.YtmgiholmhhjpaaaDoorRecChecksQ12
import Derived.Test.YtmgiholmhhjpaaaDoorRecChecksQ17
import Derived.WalkKit
import Derived.WalkSpells
import Derived.WalkLawsBesides
import Derived.Deep.RegionHeld3
import Derived.Deep.DrawnRows
import Derived.Deep.DeepCutAuto
import Derived.Deep.DeepFit
import Derived.Lib.Hide
import Derived.BigQuiet
import Derived.Deep.QuietTactic
namespace Go.Proofs.YtmgiholmhhjpaaaDoor
open Go.RowKit
set_option linter.unusedVariables false
set_option linter.unusedSimpArgs false
set_option maxRecDepth 20000
attribute [local go_sem ↓] Go.wp_at_zero Go.wp_at_succ
attribute [local go_sem] World.cell?_alloc_some frozen_alloc_some
attribute [local go_sem] lt2 lt3 lt4 lt5
attribute [local simp] lt2 lt3 lt4 lt5

/-- All but the block B lies as it lay. -/
structure But (B : Nat) (w w' : World) : Prop where
  below : Below B w w'
  rest : ∀ g, g < w.heap.size → g ≠ B → w'.heap[g]? = w.heap[g]?
theorem But.refl (B : Nat) (w : World) : But B w w := ⟨Below.refl _ _, fun _ _ _ => rfl⟩
theorem But.of {B : Nat} {w w' : World} (h : Below w.heap.size w w') (hB : B ≤ w.heap.size) : But B w w' := ⟨h.mono hB, fun g hg _ => h.block g hg⟩
theorem But.trans {B : Nat} {a b c : World} (h : But B a b) (h' : But B b c) : But B a c :=
  ⟨h.below.trans h'.below, fun g hg hn => by have := h.below.size; rw [h'.rest g (by omega) hn, h.rest g hg hn]⟩
theorem But.blk {B : Nat} {w w' : World} (h : But B w w') {g : Nat} {t : TypeId} {cs : Array Value} (hb : Blk w g t cs) (hg : g ≠ B) : Blk w' g t cs := (h.rest g hb.lt hg).trans hb
theorem But.hin {B : Nat} {w w' : World} (h : But B w w') {S : Nat → Prop} {t : Tree} {v : Value} (hv : HoldsIn w S t v) (hS : ¬ S B) : HoldsIn w' S t v := hv.keep fun b hb hl => h.rest b hl fun e => hS (e ▸ hb)
theorem But.set {B : Nat} {w w' : World} (h : But B w w') (i : Nat) (u : Value) (hB : B ≤ w.heap.size) : But B w (w'.setCell ⟨B, i, none⟩ u) :=
  ⟨h.below.setCell (Nat.le_refl _) _, fun g hg hn => by
    rw [Below.heap_setCell w' ⟨B, i, none⟩ u g hn]; exact h.rest g hg hn⟩
theorem But.new {B : Nat} {w w' : World} (h : But B w w') {p : Addr} (hp : w.heap.size ≤ p.block) (hB : B ≤ w.heap.size) (u : Value) : But B w (w'.setCell p u) :=
  ⟨h.below.setCell (by omega) _, fun g hg hn => by rw [Below.heap_setCell w' p u g (by omega)]; exact h.rest g hg hn⟩
theorem But.alloc {B : Nat} {w w' : World} (h : But B w w') (hB : B ≤ w.heap.size) (o : Obj) : But B w (w'.alloc o) := h.trans (But.of (below_one o) (by have := h.below.size; omega))
/-- The parts that are left, and whether each was one. -/
def PT (B : Nat) (gd : Bool) (l : List Tree) (w : World) : Prop := ∃ A m c, Blk w B 103 #[.slice A m c, .bool gd] ∧ HoldsIn w (fun b => b < B) (ltree l) (listV A m c)
theorem PT.under {B : Nat} {gd : Bool} {l : List Tree} {w w' : World} (h : PT B gd l w) (hb : Below w.heap.size w w') : PT B gd l w' := by
  obtain ⟨A, m, c, h1, h2⟩ := h
  exact ⟨A, m, c, h1.keep hb, h2.under hb⟩
theorem hin_cons {w : World} {S : Nat → Prop} {t : Tree} {l : List Tree} {A : Option Addr} {m c : Nat} (h : HoldsIn w S (ltree (t :: l)) (listV A m c)) :
    ∃ b o m' c' k n s A2 m2 c2, A = some ⟨b, o, none⟩ ∧ m = m' + 1 ∧ c = c' + 1 ∧ m' ≤ c' ∧ c' + 1 ≤ maxLen ∧ S b ∧ b < w.heap.size ∧ HoldsIn w S t (.agg #[.int .i64 k, .int .u64 n, .string s, .slice A2 m2 c2]) ∧
      w.cell? ⟨b, o, none⟩ = some (.int .i64 k) ∧ w.cell? ⟨b, o + 1, none⟩ = some (.int .u64 n) ∧ w.cell? ⟨b, o + 2, none⟩ = some (.string s) ∧ w.cell? ⟨b, o + 3, none⟩ = some (.slice A2 m2 c2) ∧
      ∀ A', (0 < m' → A' = some ⟨b, o + 4, none⟩) → HoldsIn w S (ltree l) (listV A' m' c') := by
  unfold ltree listV at h
  cases h with
  | mk k n s l A m c vs hk hn hs hm hmc hc hcell hsub =>
    simp only [List.length_cons] at hm
    obtain ⟨b, o, rfl, hb, hcl⟩ := hcell 0 (by omega)
    have h0 := hsub 0 t (by simp)
    obtain ⟨k0, n0, s0, A0, m0, c0, e0⟩ := h0.form
    rw [e0] at hcl h0
    have q0 := hcl 0 (.int .i64 k0) rfl
    have q1 := hcl 1 (.int .u64 n0) rfl
    have q2 := hcl 2 (.string s0) rfl
    have q3 := hcl 3 (.slice A0 m0 c0) rfl
    simp only [Nat.mul_zero, Nat.zero_add, Nat.add_zero] at q0 q1 q2 q3
    have hlt : b < w.heap.size := World.block_lt_of_cell? _ _ q0
    refine ⟨b, o, l.length, c - 1, k0, n0, s0, A0, m0, c0, rfl, hm, by omega, by omega, by omega, hb, hlt, h0, q0, q1, q2, q3, fun A' hA' => ?_⟩
    refine .mk 2 0 _ l A' l.length (c - 1) (fun i => vs (i + 1)) (by decide) (by decide) (by decide) rfl (by omega) (by omega) (fun i hi => ?_) fun i t' ht => hsub (i + 1) t' (by simpa using ht)
    obtain ⟨b', o', e', hb', hcl'⟩ := hcell (i + 1) (by omega)
    injection e' with e'
    injection e' with e1 e2
    subst e1 e2
    refine ⟨b, o + 4, hA' (by omega), hb', fun j u hu => ?_⟩
    have := hcl' j u hu
    rw [show o + 4 + (4 * i + j) = o + (4 * (i + 1) + j) by omega]; exact this
set_option maxHeartbeats 4000000 in
theorem next_cons (B : Nat) (gd : Bool) (t : Tree) (l : List Tree) (w : World) (h : PT B gd (t :: l) w) :
    Calls Tryd.prog 94 #[.pointer (some ⟨B, 0, none⟩)] w (fun e w' => ∃ v, e = .returned v ∧ HoldsIn w' (fun b => b < B) t v ∧ PT B gd l w' ∧ But B w w') := by
  obtain ⟨A, m, c, hB, hI⟩ := h
  obtain ⟨b, o, m', c', k, n, s, A2, m2, c2, rfl, rfl, rfl, hmc, hcm, hbB, hbw, hv, q0, q1, q2, q3, htl⟩ := hin_cons hI
  have hBlt := hB.lt
  have hbne : b ≠ B := by omega
  have Hv := Lib.hid hv
  have Htl := Lib.hid htl
  have HB := Lib.hid hB
  clear hI hv htl
  have b0 := hB.cell
  have f0 := hB.frozen
  obtain ⟨g, hg⟩ : ∃ g, g = w.heap.size := ⟨_, rfl⟩
  have hgB : B ≠ g := by omega
  have hgB1 : B ≠ g + 1 := by omega
  have m0 : ¬ ((m' : Int) + 1 = 0) := by omega
  clear hB
  have hc0 : (0 : Int) < (m' : Int) + 1 := by omega
  go_enter Tryd.func94, Tryd.ntmps94
  go_wp2_with fail
  · obtain rfl : c' = 0 := by assumption
    refine bodyPost_ret (v := .agg #[.int .i64 k, .int .u64 n, .string s, .slice A2 m2 c2]) (by simp [results, Tryd.results94, go_sem, *] <;> rfl) rfl ?_
    have hbut := (((But.refl B w).set 0 (.slice (some ⟨b, o, none⟩) m' 0) (by omega)).alloc (by omega) (.cells #[.int .i64 k, .int .u64 n, .string s, .slice A2 m2 c2] 56)).alloc (by omega) (.cells #[.int .i64 k, .int .u64 n, .string s, .slice A2 m2 c2] 56)
    have hblk : Blk (w.setCell ⟨B, 0, none⟩ (.slice (some ⟨b, o, none⟩) m' 0)) B 103 #[.slice (some ⟨b, o, none⟩) m' 0, .bool gd] := by
      have := HB.out.set_ 0 (.slice (some ⟨b, o, none⟩) m' 0)
      simpa using this
    exact ⟨_, rfl, hbut.hin Hv.out (by simp), ⟨_, m', 0, (hblk.alloc _).alloc _, hbut.hin (Htl.out _ (by intro h; first | rfl | omega)) (by simp)⟩, hbut⟩
  · refine bodyPost_ret (v := .agg #[.int .i64 k, .int .u64 n, .string s, .slice A2 m2 c2]) (by simp [results, Tryd.results94, go_sem, *] <;> rfl) rfl ?_
    have hbut := (((But.refl B w).set 0 (.slice (some ⟨b, o + 4, none⟩) m' c') (by omega)).alloc (by omega) (.cells #[.int .i64 k, .int .u64 n, .string s, .slice A2 m2 c2] 56)).alloc (by omega) (.cells #[.int .i64 k, .int .u64 n, .string s, .slice A2 m2 c2] 56)
    have hblk : Blk (w.setCell ⟨B, 0, none⟩ (.slice (some ⟨b, o + 4, none⟩) m' c')) B 103 #[.slice (some ⟨b, o + 4, none⟩) m' c', .bool gd] := by
      have := HB.out.set_ 0 (.slice (some ⟨b, o + 4, none⟩) m' c')
      simpa using this
    exact ⟨_, rfl, hbut.hin Hv.out (by simp), ⟨_, m', c', (hblk.alloc _).alloc _, hbut.hin (Htl.out _ (by intro h; first | rfl | omega)) (by simp)⟩, hbut⟩

/-- A number's tree, in memory. -/
theorem hin_ntree {w : World} {S : Nat → Prop} {a : Int} {v : Value} (h : HoldsIn w S (ntree a) v) : ∃ A c, v = .agg #[.int .i64 0, .int .u64 (u64n a : Int), .string ByteArray.empty, .slice A 0 c] := by
  unfold ntree at h
  cases h with
  | mk k n s l A m c vs hk hn hs hm hmc hc hcell hsub =>
    obtain rfl : m = 0 := hm
    exact ⟨A, c, rfl⟩
theorem i64_u64 {a : Int} (h0 : 0 ≤ a) (h1 : a ≤ 4611686018427387904) : (u64n a : Int) = a ∧ ¬ (4611686018427387904 : Int) < (u64n a : Int) := by
  rw [u64n_of h0 (by omega)]; omega
set_option maxHeartbeats 4000000 in
theorem number_cons (B : Nat) (a : Int) (l : List Tree) (w : World) (h0 : 0 ≤ a) (h1 : a ≤ 4611686018427387904) (h : PT B true (ntree a :: l) w) :
    Calls Tryd.prog 77 #[.pointer (some ⟨B, 0, none⟩)] w (fun e w' => e = .returned (.int .i64 a) ∧ PT B true l w' ∧ But B w w') := by
  have hBlt : B < w.heap.size := by obtain ⟨A, m, c, h1, h2⟩ := h; exact h1.lt
  have hnx := next_cons B true (ntree a) l w h
  obtain ⟨e1, e2⟩ := i64_u64 h0 h1
  have hwr : IntKind.i64.wrap a = a := IntWalk.i64_in _ (by omega)
  have hnum := fun W => num_any (u64n a) W
  unfold numV at hnum
  rw [e1] at hnum
  have hsm : ∀ (W : World) (A : Option Addr) (c : Nat), HoldsIn W (fun b => b < B) (ntree a) (.agg #[.int .i64 0, .int .u64 a, .string ByteArray.empty, .slice A 0 c]) → Calls Tryd.prog 95 #[.agg #[.int .i64 0, .int .u64 a, .string ByteArray.empty, .slice A 0 c], .agg #[.int .i64 0, .int .u64 a, .string ByteArray.empty, .slice none 0 0]] W (Gives W (.bool true)) := fun W A c hv => by
    have := codecsame_any (ntree a) (ntree a) _ _ W hv.holds (by have := (hin_num W (fun b => b < B) (u64n_lt a)).holds; unfold numV at this; rw [e1] at this; exact this)
    rw [tsame_self] at this; exact this
  have Hnx := Lib.hid hnx
  have Hsm := Lib.hid hsm
  clear hnx hsm h
  have hmin : ¬ (4611686018427387904 : Int) < a := by omega
  go_enter Tryd.func77, Tryd.ntmps77
  go_wp2_with fail
  refine Hnx.out.mono ?_
  rintro e w1 ⟨v, rfl, hv, hp, hb⟩
  obtain ⟨A1, c1, rfl⟩ := hin_ntree hv
  rw [e1] at hv ⊢
  have hz1 := hb.below.size
  obtain ⟨A, m, c, hB1, hI1⟩ := hp
  have hBl1 := hB1.lt
  have hgB : w1.heap.size ≠ B := by omega
  have X0 : Blk (w1.alloc (.cells #[.int .i64 0, .int .u64 a, .string ByteArray.empty, .slice A1 0 c1] 56)).drew w1.heap.size 56 #[.int .i64 0, .int .u64 a, .string ByteArray.empty, .slice A1 0 c1] := (Blk.new w1 _ _).drew
  have R0 : Blk (w1.alloc (.cells #[.int .i64 0, .int .u64 a, .string ByteArray.empty, .slice A1 0 c1] 56)).drew B 103 #[.slice A m c, .bool true] := (hB1.alloc _).drew
  have k0 : Below w1.heap.size w1 (w1.alloc (.cells #[.int .i64 0, .int .u64 a, .string ByteArray.empty, .slice A1 0 c1] 56)).drew := by ((repeat' first | with_reducible exact Below.refl _ _ | with_reducible assumption | with_reducible refine Below.alloc ?_ ?_ _ | with_reducible refine Below.setCell ?_ ?_ _ | with_reducible apply Below.drew | with_reducible apply below_drewN | with_reducible refine below_call ?_ (by with_reducible assumption) ?_) <;> (first | omega | (simp; done) | (simp; omega) | (simp at *; omega)))
  go_upto_region 2 with fail
  (refine wp_region_held_drew (S := (S11 B w1.heap.size #[.slice A m c, .bool true] #[.int .i64 0, .int .u64 a, .string ByteArray.empty, .slice A1 0 c1])) (by kernel_rfl) ?_ (fun hHeld => ?_); (· exact ⟨R0.cell, X0.cell⟩))
  (refine take_op (i := 0) (v := ?_) rfl (by kernel_rfl) (by kernel_rfl) (by kernel_rfl) (fun _ _ _ h => h) (by rfl) ?_ hHeld ?_; rotate_left; (· (intro wS hSw; (try dsimp only at hSw); go_simp; first | done | with_reducible rfl)); simp only [Act.put, List.setIfInBounds_toArray, List.set_cons_zero, List.set_cons_succ]); (refine take_op (i := 1) (v := ?_) rfl (by kernel_rfl) (by kernel_rfl) (by kernel_rfl) (fun _ _ _ h => h) (by rfl) ?_ hHeld ?_; rotate_left; (· (intro wS hSw; (try dsimp only at hSw); go_simp; first | done | with_reducible rfl)); simp only [Act.put, List.setIfInBounds_toArray, List.set_cons_zero, List.set_cons_succ]); (refine take_op (i := 2) (v := ?_) rfl (by kernel_rfl) (by kernel_rfl) (by kernel_rfl) (fun _ _ _ h => h) (by rfl) ?_ hHeld ?_; rotate_left; (· (intro wS hSw; (try dsimp only at hSw); go_simp; first | done | with_reducible rfl)); simp only [Act.put, List.setIfInBounds_toArray, List.set_cons_zero, List.set_cons_succ]); (refine take_op (i := 3) (v := ?_) rfl (by kernel_rfl) (by kernel_rfl) (by kernel_rfl) (fun _ _ _ h => h) (by rfl) ?_ hHeld ?_; rotate_left; (· (intro wS hSw; (try dsimp only at hSw); go_simp; first | done | with_reducible rfl)); simp only [Act.put, List.setIfInBounds_toArray, List.set_cons_zero, List.set_cons_succ]); (refine take_op (i := 4) (v := ?_) rfl (by kernel_rfl) (by kernel_rfl) (by kernel_rfl) (fun _ _ _ h => h) (by rfl) ?_ hHeld ?_; rotate_left; (· (intro wS hSw; (try dsimp only at hSw); go_simp; first | done | with_reducible rfl)); simp only [Act.put, List.setIfInBounds_toArray, List.set_cons_zero, List.set_cons_succ]); (refine take_op (i := 5) (v := ?_) rfl (by kernel_rfl) (by kernel_rfl) (by kernel_rfl) (fun _ _ _ h => h) (by rfl) ?_ hHeld ?_; rotate_left; (· (intro wS hSw; (try dsimp only at hSw); go_simp; first | done | with_reducible rfl)); simp only [Act.put, List.setIfInBounds_toArray, List.set_cons_zero, List.set_cons_succ]); (refine take_op (i := 6) (v := ?_) rfl (by kernel_rfl) (by kernel_rfl) (by kernel_rfl) (fun _ _ _ h => h) (by rfl) ?_ hHeld ?_; rotate_left; (· (intro wS hSw; (try dsimp only at hSw); go_simp; first | done | with_reducible rfl)); simp only [Act.put, List.setIfInBounds_toArray, List.set_cons_zero, List.set_cons_succ]); (refine take_op (i := 7) (v := ?_) rfl (by kernel_rfl) (by kernel_rfl) (by kernel_rfl) (fun _ _ _ h => h) (by rfl) ?_ hHeld ?_; rotate_left; (· (intro wS hSw; (try dsimp only at hSw); go_simp; first | done | with_reducible rfl)); simp only [Act.put, List.setIfInBounds_toArray, List.set_cons_zero, List.set_cons_succ]); (refine take_op (i := 8) (v := ?_) rfl (by kernel_rfl) (by kernel_rfl) (by kernel_rfl) (fun _ _ _ h => h) (by rfl) ?_ hHeld ?_; rotate_left; (· (intro wS hSw; (try dsimp only at hSw); go_simp; first | done | with_reducible rfl)); simp only [Act.put, List.setIfInBounds_toArray, List.set_cons_zero, List.set_cons_succ])
  revert X0 R0 k0
  generalize World.drew _ = w0
  intro X0 R0 k0
  (refine call_op (i := 9) rfl (by kernel_rfl) (by rfl) (fun K hK => ?_); go_simp; (go_at_call 68; (with_reducible refine (hnum _).mono ?_); rintro e w2 ⟨rfl, hb2⟩; have X2 := X0.keep hb2; have R2 := R0.keep hb2; have k2 := below_call k0 hb2 k0.size); refine hK.out _ _ ⟨R2.cell, X2.cell⟩ (fun hHeld2 => ?_); clear hK K hHeld; have hHeld := hHeld2; clear hHeld2; (try simp only [Act.put, List.setIfInBounds_toArray, List.set_cons_zero, List.set_cons_succ]))
  (refine call_op (i := 10) rfl (by kernel_rfl) (by rfl) (fun K hK => ?_); go_simp; (go_at_call 95; (with_reducible refine (Hsm.out _ _ _ (hv.under k2)).mono ?_); rintro e w3 ⟨rfl, hb3⟩; have X3 := X2.keep hb3; have R3 := R2.keep hb3; have k3 := below_call k2 hb3 k2.size; have R3c := R3.cell; have R3f := R3.frozen); refine hK.out _ _ ⟨R3.cell, X3.cell⟩ (fun hHeld2 => ?_); clear hK K hHeld; have hHeld := hHeld2; clear hHeld2; (try simp only [Act.put, List.setIfInBounds_toArray, List.set_cons_zero, List.set_cons_succ]))
  (refine take_op (i := 11) (v := ?_) rfl (by kernel_rfl) (by kernel_rfl) (by kernel_rfl) (fun _ _ _ h => h) (by rfl) ?_ hHeld ?_; rotate_left; (· (intro wS hSw; (try dsimp only at hSw); go_simp; first | done | with_reducible rfl)); simp only [Act.put, List.setIfInBounds_toArray, List.set_cons_zero, List.set_cons_succ]); (refine take_op (i := 12) (v := ?_) rfl (by kernel_rfl) (by kernel_rfl) (by kernel_rfl) (fun _ _ _ h => h) (by rfl) ?_ hHeld ?_; rotate_left; (· (intro wS hSw; (try dsimp only at hSw); go_simp; first | done | with_reducible rfl)); simp only [Act.put, List.setIfInBounds_toArray, List.set_cons_zero, List.set_cons_succ]); (refine take_op (i := 13) (v := ?_) rfl (by kernel_rfl) (by kernel_rfl) (by kernel_rfl) (fun _ _ _ h => h) (by rfl) ?_ hHeld ?_; rotate_left; (· (intro wS hSw; (try dsimp only at hSw); go_simp; first | done | with_reducible rfl)); simp only [Act.put, List.setIfInBounds_toArray, List.set_cons_zero, List.set_cons_succ])
  have R4 : Blk (w3.setCell ⟨B, 1, none⟩ (.bool true)) B 103 #[.slice A m c, .bool true] := by
    have := R3.set_ 1 (.bool true)
    simpa using this
  have X4 : Blk (w3.setCell ⟨B, 1, none⟩ (.bool true)) w1.heap.size 56 #[.int .i64 0, .int .u64 a, .string ByteArray.empty, .slice A1 0 c1] := X3.far (p := ⟨B, 1, none⟩) hgB _
  (refine call_op (i := 14) rfl (by kernel_rfl) (by rfl) (fun K hK => ?_); go_simp; skip; refine hK.out _ _ ⟨R4.cell, X4.cell⟩ (fun hHeld2 => ?_); clear hK K hHeld; have hHeld := hHeld2; clear hHeld2; (try simp only [Act.put, List.setIfInBounds_toArray, List.set_cons_zero, List.set_cons_succ]))
  (refine wpAnyH_done (by kernel_rfl) ?_ _)
  have but := (hb.trans (But.of k3 (by omega))).set 1 (.bool true) (by omega)
  have hI4 : HoldsIn (w3.setCell ⟨B, 1, none⟩ (.bool true)) (fun b => b < B) (ltree l) (listV A m c) := (hI1.under k3).set (p := ⟨B, 1, none⟩) (by simp) _
  have X4c := X4.cell
  clear R3c R3f hHeld hnum e1 e2
  go_wp2_with fail
  go_ret
  have hmin2 : min a (4611686018427387904 : Int) = a := by omega
  exact ⟨by first | rfl | (simp [hmin2]; done), ⟨A, m, c, R4, hI4⟩, but⟩
end Go.Proofs.YtmgiholmhhjpaaaDoor
