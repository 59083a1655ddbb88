/- The walk of the document's Take of ids, at any item. -/
import Derived.Test.YtfdfcceleaodaaaAttrItemsQ29
import Derived.Test.YtfdfcceleaodaaaAttrItemsQ32
import Derived.Test.YtfdfcceleaodaaaAttrItemsQ23
import Derived.Test.YtfdfcceleaodaaaAttrItemsQ25
import Derived.WalkKit
import Derived.WalkSpells
import Derived.WalkLawsBesides
import Derived.Deep.RegionHeld3
import Derived.Deep.DrawnRows
import Derived.Deep.DeepCutAuto
import Derived.Deep.DeepFit
import Derived.Lib.Hide
import Derived.BigQuiet
import Derived.Deep.QuietTactic
namespace Go.Proofs.Ytfdfcceleaodaaa
open Go.RowKit
set_option linter.unusedVariables false
set_option linter.unusedSimpArgs false
set_option maxRecDepth 20000
attribute [local go_sem ↓] Go.wp_at_zero Go.wp_at_succ
attribute [local go_sem] World.cell?_alloc_some frozen_alloc_some
attribute [local go_sem] lt2 lt3 lt4 lt5
attribute [local simp] lt2 lt3 lt4 lt5

/-- What a round holds: the item's box, what was made of ids so far; blocks from z on are the round's. -/
structure TkP (w : World) (z : Nat) (cs : Array Value) (v : Value) (n : Nat) (xs : List Value) (W : World) : Prop where
  hb : Below w.heap.size w W
  hx : Blk W w.heap.size 28 cs
  ho : W.ownsRow (w.heap.size + 1) 42 2 v n xs
  hl : ∀ k, v.ownBlock = some k → k < z
  le : z ≤ W.heap.size
  z0 : w.heap.size < z
theorem TkP.al {w : World} {z : Nat} {cs : Array Value} {v : Value} {n : Nat} {xs : List Value} {W : World} (h : TkP w z cs v n xs W) (o : Obj) : TkP w z cs v n xs (W.alloc o) :=
  ⟨h.hb.alloc (by have := h.le; have := h.z0; omega) o, h.hx.alloc o, own_below h.ho (below_one o), h.hl, by have := h.le; simp; omega, h.z0⟩
theorem TkP.set {w : World} {z : Nat} {cs : Array Value} {v : Value} {n : Nat} {xs : List Value} {W : World} (h : TkP w z cs v n xs W) {p : Addr} (hp : z ≤ p.block) (u : Value) : TkP w z cs v n xs (W.setCell p u) :=
  ⟨h.hb.setCell (by have := h.z0; omega) u, h.hx.far (by have := h.z0; omega) u, own_far h.ho (fun e => by have := h.hl _ e; omega) u, h.hl, by simpa using h.le, h.z0⟩
/-- Are two items right numbers of an id? -/
def pk (k0 : Int) (n0 : Nat) (s0 : ByteArray) (m0 : Nat) (k1 : Int) (n1 : Nat) (s1 : ByteArray) (m1 : Nat) : Bool :=
  k0 == 0 && k1 == 0 && s0.size == 0 && s1.size == 0 && m0 == 0 && m1 == 0 && decide (n0 ≤ 6) && decide (n1 ≤ 1099511627776)
theorem pk_true {k0 k1 : Int} {n0 n1 m0 m1 : Nat} {s0 s1 : ByteArray} : pk k0 n0 s0 m0 k1 n1 s1 m1 = true ↔ k0 = 0 ∧ k1 = 0 ∧ s0.size = 0 ∧ s1.size = 0 ∧ m0 = 0 ∧ m1 = 0 ∧ n0 ≤ 6 ∧ n1 ≤ 1099511627776 := by
  unfold pk
  simp only [Bool.and_eq_true, beq_iff_eq, decide_eq_true_eq, and_assoc]
set_option maxHeartbeats 2000000 in
theorem reftake5_bad (k : Int) (n : Nat) (s : ByteArray) (A : Option Addr) (m c : Nat) (w : World) (h : tkHead k n s m = false) (hm : m ≤ 9223372036854775807) :
    Calls Try.prog 33 #[.agg #[.int .i64 k, .int .u64 (n : Int), .string s, .slice A m c]] w (Gives w (.tuple #[.slice none 0 0, .bool false])) := by
  have hmod : ((m : Int)).tmod 2 = ((m % 2 : Nat) : Int) := by rw [Int.tmod_eq_emod_of_nonneg (by omega)]; omega
  have fin : ∀ (a b c d e : Bool), (a && b && c && d && e) = false → a = false ∨ (a = true ∧ d = false) ∨ (a = true ∧ d = true ∧ e = false) ∨ (a = true ∧ d = true ∧ e = true ∧ b = false) ∨ (a = true ∧ b = true ∧ c = false ∧ d = true ∧ e = true) := by decide
  rcases fin _ _ _ _ _ h with h1 | ⟨h1, h4⟩ | ⟨h1, h4, h5⟩ | ⟨h1, h4, h5, h2⟩ | ⟨h1, h2, h3, h4, h5⟩
  · have g1 : (k != 2) = true := by simpa using h1
    clear h h1 fin
    go_enter Try.func33, Try.ntmps33
    go_wp2_with fail
    refine bodyPost_ret (v := .tuple #[.slice none 0 0, .bool false]) (by simp [results, Try.results33, go_sem, *] <;> rfl) rfl ?_
    exact ⟨rfl, by ((repeat' first | with_reducible exact Below.refl _ _ | with_reducible assumption | with_reducible refine Below.alloc ?_ ?_ _ | with_reducible refine Below.setCell ?_ ?_ _ | with_reducible apply Below.drew | with_reducible apply below_drewN | with_reducible refine below_call ?_ (by with_reducible assumption) ?_) <;> (first | omega | (simp; done) | (simp; omega) | (simp at *; omega)))⟩
  · obtain rfl : k = 2 := by simpa using h1
    have g4 : ((n : Int) != 0) = true := by simp at h4 ⊢; omega
    clear h h1 h4 fin
    go_enter Try.func33, Try.ntmps33
    go_wp2_with fail
    refine bodyPost_ret (v := .tuple #[.slice none 0 0, .bool false]) (by simp [results, Try.results33, go_sem, *] <;> rfl) rfl ?_
    exact ⟨rfl, by ((repeat' first | with_reducible exact Below.refl _ _ | with_reducible assumption | with_reducible refine Below.alloc ?_ ?_ _ | with_reducible refine Below.setCell ?_ ?_ _ | with_reducible apply Below.drew | with_reducible apply below_drewN | with_reducible refine below_call ?_ (by with_reducible assumption) ?_) <;> (first | omega | (simp; done) | (simp; omega) | (simp at *; omega)))⟩
  · obtain rfl : k = 2 := by simpa using h1
    obtain rfl : n = 0 := by simpa using h4
    obtain ⟨g5, g6⟩ := text_full (s := s) (by simpa using h5)
    clear h h1 h4 h5 fin
    go_enter Try.func33, Try.ntmps33
    go_wp2_with fail
    refine bodyPost_ret (v := .tuple #[.slice none 0 0, .bool false]) (by simp [results, Try.results33, go_sem, *] <;> rfl) rfl ?_
    exact ⟨rfl, by ((repeat' first | with_reducible exact Below.refl _ _ | with_reducible assumption | with_reducible refine Below.alloc ?_ ?_ _ | with_reducible refine Below.setCell ?_ ?_ _ | with_reducible apply Below.drew | with_reducible apply below_drewN | with_reducible refine below_call ?_ (by with_reducible assumption) ?_) <;> (first | omega | (simp; done) | (simp; omega) | (simp at *; omega)))⟩
  · obtain rfl : k = 2 := by simpa using h1
    obtain rfl : n = 0 := by simpa using h4
    obtain rfl := size0 (by simpa using h5)
    have g2 : ((m % 2 : Nat) : Int) = 1 := by simp at h2; omega
    rw [g2] at hmod
    clear h h1 h2 h4 h5 fin
    go_enter Try.func33, Try.ntmps33
    go_wp2_with fail
    refine bodyPost_ret (v := .tuple #[.slice none 0 0, .bool false]) (by simp [results, Try.results33, go_sem, *] <;> rfl) rfl ?_
    exact ⟨rfl, by ((repeat' first | with_reducible exact Below.refl _ _ | with_reducible assumption | with_reducible refine Below.alloc ?_ ?_ _ | with_reducible refine Below.setCell ?_ ?_ _ | with_reducible apply Below.drew | with_reducible apply below_drewN | with_reducible refine below_call ?_ (by with_reducible assumption) ?_) <;> (first | omega | (simp; done) | (simp; omega) | (simp at *; omega)))⟩
  · obtain rfl : k = 2 := by simpa using h1
    obtain rfl : n = 0 := by simpa using h4
    obtain rfl := size0 (by simpa using h5)
    have g2 : ((m % 2 : Nat) : Int) = 0 := by simp at h2; omega
    rw [g2] at hmod
    have g3 : (8192 : Int) < (m : Int) := by simp at h3; omega
    clear h h1 h2 h3 h4 h5 fin
    go_enter Try.func33, Try.ntmps33
    go_wp2_with fail
    refine bodyPost_ret (v := .tuple #[.slice none 0 0, .bool false]) (by simp [results, Try.results33, go_sem, *] <;> rfl) rfl ?_
    exact ⟨rfl, by ((repeat' first | with_reducible exact Below.refl _ _ | with_reducible assumption | with_reducible refine Below.alloc ?_ ?_ _ | with_reducible refine Below.setCell ?_ ?_ _ | with_reducible apply Below.drew | with_reducible apply below_drewN | with_reducible refine below_call ?_ (by with_reducible assumption) ?_) <;> (first | omega | (simp; done) | (simp; omega) | (simp at *; omega)))⟩

theorem pk_no {k0 k1 : Int} {n0 n1 m0 m1 : Nat} {s0 s1 : ByteArray} (h : ¬ (k0 = 0 ∧ k1 = 0 ∧ s0.size = 0 ∧ s1.size = 0 ∧ m0 = 0 ∧ m1 = 0 ∧ n0 ≤ 6 ∧ n1 ≤ 1099511627776)) : pk k0 n0 s0 m0 k1 n1 s1 m1 = false := by
  rw [← Bool.not_eq_true, pk_true]; exact h
theorem pk_cases (k0 : Int) (n0 : Nat) (s0 : ByteArray) (m0 : Nat) (k1 : Int) (n1 : Nat) (s1 : ByteArray) (m1 : Nat) :
    ¬ k0 = 0 ∨ (k0 = 0 ∧ ¬ k1 = 0) ∨ (k0 = 0 ∧ k1 = 0 ∧ ¬ s0.size = 0) ∨ (k0 = 0 ∧ k1 = 0 ∧ s0.size = 0 ∧ ¬ s1.size = 0) ∨ (k0 = 0 ∧ k1 = 0 ∧ s0.size = 0 ∧ s1.size = 0 ∧ ¬ m0 = 0) ∨ (k0 = 0 ∧ k1 = 0 ∧ s0.size = 0 ∧ s1.size = 0 ∧ m0 = 0 ∧ ¬ m1 = 0) ∨
    (k0 = 0 ∧ k1 = 0 ∧ s0.size = 0 ∧ s1.size = 0 ∧ m0 = 0 ∧ m1 = 0 ∧ ¬ n0 ≤ 6) ∨ (k0 = 0 ∧ k1 = 0 ∧ s0.size = 0 ∧ s1.size = 0 ∧ m0 = 0 ∧ m1 = 0 ∧ n0 ≤ 6 ∧ ¬ n1 ≤ 1099511627776) ∨ (k0 = 0 ∧ k1 = 0 ∧ s0.size = 0 ∧ s1.size = 0 ∧ m0 = 0 ∧ m1 = 0 ∧ n0 ≤ 6 ∧ n1 ≤ 1099511627776) := by
  by_cases a : k0 = 0 <;> by_cases b : k1 = 0 <;> by_cases c : s0.size = 0 <;> by_cases d : s1.size = 0 <;> by_cases e : m0 = 0 <;> by_cases f : m1 = 0 <;> by_cases g : n0 ≤ 6 <;> by_cases h : n1 ≤ 1099511627776 <;> simp [a, b, c, d, e, f, g, h]
/-- The numbers of two items lie in a tree's list. -/
theorem Items.elemN {w : World} {A : Option Addr} {m c : Nat} {l : List Tree} (h : Items w A m c l) {i : Nat} (hi : i < l.length) :
    ∃ (ad : Addr) (eb eo : Nat) (k : Int) (n : Nat) (s : ByteArray) (A0 : Option Addr) (m0 c0 : Nat) (l0 : List Tree), A = some ad ∧ ad.add (i * 4) = ⟨eb, eo, none⟩ ∧ l[i] = .mk k n s l0 ∧ m0 = l0.length ∧ n < 2 ^ 64 ∧
      w.cell? ⟨eb, eo, none⟩ = some (.int .i64 k) ∧ w.cell? ⟨eb, eo + 1, none⟩ = some (.int .u64 (n : Int)) ∧ w.cell? ⟨eb, eo + 2, none⟩ = some (.string s) ∧ w.cell? ⟨eb, eo + 3, none⟩ = some (.slice A0 m0 c0) := by
  obtain ⟨ad, u, hA, hu, b, o, k2, n2, s2, A2, m2, c2, ea, rfl, q0, q1, q2, q3⟩ := h.elem (i := i) (List.getElem?_eq_getElem hi)
  generalize hT : l[i] = t at *
  obtain ⟨k, n, s, l0⟩ := t
  obtain ⟨A3, m3, c3, e3, _, hn, _, hm3, _⟩ := hu.open_
  injection e3 with e3
  simp at e3
  obtain ⟨rfl, rfl, rfl, rfl, rfl, rfl⟩ := e3
  exact ⟨ad, b, o, _, n, _, _, _, _, l0, hA, ea, rfl, hm3, hn, q0, q1, q2, q3⟩
set_option maxHeartbeats 4000000 in
theorem reftake5_good (A : Option Addr) (h c : Nat) (l : List Tree) (w : World) (hl : l.length = 2 * h) (hh : h ≤ 4096) (hI : Items w A (2 * h) c l) :
    Calls Try.prog 33 #[.agg #[.int .i64 2, .int .u64 0, .string ByteArray.empty, .slice A (2 * h) c]] w
      (TakesI w (if (∀ j, j < h → gd l j = true) ∧ idsOk ((List.range h).map (pa l)) = true then some ((List.range h).map (pa l)) else none)) := by
  obtain ⟨RES, hRES⟩ : ∃ r, (if (∀ j, j < h → gd l j = true) ∧ idsOk ((List.range h).map (pa l)) = true then some ((List.range h).map (pa l)) else none) = r := ⟨_, rfl⟩
  rw [hRES]
  have HRES := Lib.hid hRES
  clear hRES
  obtain ⟨m, hmE⟩ : ∃ m, m = 2 * h := ⟨_, rfl⟩
  have hmod : ((m : Int)).tmod 2 = 0 := by rw [Int.tmod_eq_emod_of_nonneg (by omega)]; omega
  have g3 : ¬ (8192 : Int) < (m : Int) := by omega
  rw [← hmE] at hI ⊢
  have HI := Lib.hid hI
  have HM := Lib.hid hmE
  have HL := Lib.hid hl
  have hmc : m ≤ c := hI.2.1
  have hm8 : m ≤ 8192 := by omega
  clear hI hmE
  obtain ⟨i0, hi, e0⟩ := Option.map_eq_some_iff.1 id_info
  simp only [Prod.mk.injEq] at e0
  obtain ⟨hz0, hz1, hz2⟩ := e0
  go_enter Try.func33, Try.ntmps33
  go_wp2_with fail
  go_loopw [4, 5] (fun s4 s5 wr => ∃ (i : Nat) (A' : Option Addr) (c' j : Nat), i ≤ m ∧ i = 2 * j ∧ s5 = .int .i64 i ∧ s4 = .slice A' j c' ∧ (∀ q, q < j → gd l q = true) ∧ Blk wr w.heap.size 28 #[.int .i64 2, .int .u64 0, .string ByteArray.empty, .slice A m c] ∧ wr.ownsRow (w.heap.size + 1) 42 2 (.slice A' j c') j (flat2 ((List.range j).map (pa l))) ∧ Below w.heap.size w wr) (fun _ s5 _ => m - (intOf s5).toNat)
  case atStart => exact ⟨0, none, 0, 0, by omega, rfl, rfl, rfl, fun q hq => absurd hq (by omega), Blk.new w _ _, World.ownsRow_nil _ _ _ _, by ((repeat' first | with_reducible exact Below.refl _ _ | with_reducible assumption | with_reducible refine Below.alloc ?_ ?_ _ | with_reducible refine Below.setCell ?_ ?_ _ | with_reducible apply Below.drew | with_reducible apply below_drewN | with_reducible refine below_call ?_ (by with_reducible assumption) ?_) <;> (first | omega | (simp; done) | (simp; omega) | (simp at *; omega)))⟩
  case round =>
    obtain ⟨i, A', c', j, hj, hij, rfl, rfl, hgd, hX, hown, hbr⟩ := hrel
    have HIJ := Lib.hid hij
    have HGD := Lib.hid hgd
    have hzr := hX.lt
    clear hgd
    by_cases hlt : i < m
    · have hml : l.length = m := by have := HM.out; have := HL.out; omega
      have hjh : j < h := by have := HM.out; omega
      have hjm : j < 4096 := by omega
      obtain ⟨ad, eb, eo, k0, n0, s0, A0, m0, c0, l0, rfl, ha0, ht0, hm0, hn0, p0, p1, p2, p3⟩ := HI.out.elemN (i := i) (by omega)
      obtain ⟨ad', eb1, eo1, k1, n1, s1, A1, m1, c1_, l1, hA', ha1, ht1, hm1, hn1, q0, q1, q2, q3⟩ := HI.out.elemN (i := i + 1) (by omega)
      injection hA' with hA'
      subst hA'
      have hgj : gd l j = (isN (.mk k0 n0 s0 l0) && isN (.mk k1 n1 s1 l1)) := by unfold gd; rw [getD_at l (by omega), getD_at l (by omega), ← ht0, ← ht1]; subst hij; rfl
      have hpj : pa l j = ((clamp n0 : Int), (clamp n1 : Int)) := by
        have e0 : tN l[i] = n0 := by rw [ht0]; rfl
        have e1 : tN l[i + 1] = n1 := by rw [ht1]; rfl
        unfold pa; rw [getD_at l (by omega), getD_at l (by omega), ← e0, ← e1]; subst hij; rfl
      have hbad : pk k0 n0 s0 m0 k1 n1 s1 m1 = false → RES = none := fun hp => by
        rw [← HRES.out]
        refine if_neg (fun hh => ?_)
        have h1 := hh.1 j hjh
        rw [hgj, Bool.and_eq_true, isN_mk, isN_mk] at h1
        obtain ⟨⟨x1, x2, x3⟩, y1, y2, y3⟩ := h1
        have h2 := (idsOk_iff.1 hh.2).1 (pa l j) (List.mem_map.2 ⟨j, by simpa using hjh, rfl⟩)
        rw [hpj, idRight_iff] at h2
        have hp2 : ¬ pk k0 n0 s0 m0 k1 n1 s1 m1 = true := by rw [hp]; simp
        apply hp2
        rw [pk_true]
        subst x3 y3
        refine ⟨x1, y1, x2, y2, hm0, hm1, ?_, ?_⟩
        · have := h2.2.1; unfold clamp at this; simp at this; omega
        · have := h2.2.2.2; unfold clamp at this; simp at this; omega
      have hgood : pk k0 n0 s0 m0 k1 n1 s1 m1 = true → gd l j = true ∧ pa l j = ((n0 : Int), (n1 : Int)) := fun hp => by
        obtain ⟨x1, y1, x2, y2, x3, y3, z1, z2⟩ := pk_true.1 hp
        refine ⟨?_, ?_⟩
        · rw [hgj, Bool.and_eq_true, isN_mk, isN_mk]
          exact ⟨⟨x1, x2, List.length_eq_zero_iff.1 (by omega)⟩, y1, y2, List.length_eq_zero_iff.1 (by omega)⟩
        · rw [hpj]; unfold clamp; simp; omega
      have HBAD := Lib.hid hbad
      have HGOOD := Lib.hid hgood
      have i0' : (0 : Int) ≤ (i : Int) := by omega
      have i1' : (i : Int) < (m : Int) := by omega
      have hwi : IntKind.i64.wrap ((i : Int) + 1) = ((i + 1 : Nat) : Int) := by rw [show (i : Int) + 1 = ((i + 1 : Nat) : Int) by omega]; exact IntWalk.i64_in _ (by omega)
      have hi1 : i + 1 < m := by have := HM.out; have := HIJ.out; omega
      have hi2 : (i : Int) + 1 < (m : Int) := by omega
      have hi3 : (0 : Int) ≤ (i : Int) + 1 := by omega
      clear hbad hgood hgj hpj ht0 ht1 hm0 hm1 hml hij
      have xc := hX.cell
      go_upto_region 7 with fail
      clear xc
      obtain ⟨z, hz⟩ : ∃ z, z = wr.heap.size := ⟨_, rfl⟩
      have P0 : TkP w z #[.int .i64 2, .int .u64 0, .string ByteArray.empty, .slice (some ad) m c] (.slice A' j c') j (flat2 ((List.range j).map (pa l))) wr.drew :=
        ⟨hbr.drew, hX.drew, own_below hown (Below.refl _ _).drew, fun k hk => by rw [hz]; exact (hown.lt k hk).2, by rw [hz]; simp, by omega⟩
      obtain ⟨SX, hSX⟩ : ∃ S : World → Prop, S = fun W => (W.cell? ⟨w.heap.size, 3, none⟩ = some (.slice (some ad) m c) ∧ W.cell? ⟨eb, eo, none⟩ = some (.int .i64 k0) ∧ W.cell? ⟨eb, eo + 1, none⟩ = some (.int .u64 (n0 : Int)) ∧ W.cell? ⟨eb, eo + 2, none⟩ = some (.string s0) ∧ W.cell? ⟨eb, eo + 3, none⟩ = some (.slice A0 m0 c0) ∧
        W.cell? ⟨eb1, eo1, none⟩ = some (.int .i64 k1) ∧ W.cell? ⟨eb1, eo1 + 1, none⟩ = some (.int .u64 (n1 : Int)) ∧ W.cell? ⟨eb1, eo1 + 2, none⟩ = some (.string s1) ∧ W.cell? ⟨eb1, eo1 + 3, none⟩ = some (.slice A1 m1 c1_)) := ⟨_, rfl⟩
      have mkS : ∀ W, TkP w z #[.int .i64 2, .int .u64 0, .string ByteArray.empty, .slice (some ad) m c] (.slice A' j c') j (flat2 ((List.range j).map (pa l))) W → SX W := fun W P => by
        subst hSX
        exact ⟨P.hx.cell 3, cell_keep P.hb p0, cell_keep P.hb p1, cell_keep P.hb p2, cell_keep P.hb p3, cell_keep P.hb q0, cell_keep P.hb q1, cell_keep P.hb q2, cell_keep P.hb q3⟩
      clear hX hown hbr hzr hz
      (refine wp_region_held_drew (S := SX) (by kernel_rfl) ?_ (fun hHeld => ?_); (· exact mkS _ P0))
      revert hHeld P0
      generalize World.drew _ = w0
      intro P0 hHeld
      subst hSX
      (refine take_op (i := 0) (v := ?_) rfl (by kernel_rfl) (by kernel_rfl) (by kernel_rfl) (fun _ _ _ h => h) (by rfl) ?_ hHeld ?_; rotate_left; (· (intro wS hSw; (try dsimp only at hSw); go_simp; first | done | with_reducible rfl)); simp only [Act.put, List.setIfInBounds_toArray, List.set_cons_zero, List.set_cons_succ]); (refine take_op (i := 1) (v := ?_) rfl (by kernel_rfl) (by kernel_rfl) (by kernel_rfl) (fun _ _ _ h => h) (by rfl) ?_ hHeld ?_; rotate_left; (· (intro wS hSw; (try dsimp only at hSw); go_simp; first | done | with_reducible rfl)); simp only [Act.put, List.setIfInBounds_toArray, List.set_cons_zero, List.set_cons_succ]); (refine take_op (i := 2) (v := ?_) rfl (by kernel_rfl) (by kernel_rfl) (by kernel_rfl) (fun _ _ _ h => h) (by rfl) ?_ hHeld ?_; rotate_left; (· (intro wS hSw; (try dsimp only at hSw); go_simp; first | done | with_reducible rfl)); simp only [Act.put, List.setIfInBounds_toArray, List.set_cons_zero, List.set_cons_succ]); (refine take_op (i := 3) (v := ?_) rfl (by kernel_rfl) (by kernel_rfl) (by kernel_rfl) (fun _ _ _ h => h) (by rfl) ?_ hHeld ?_; rotate_left; (· (intro wS hSw; (try dsimp only at hSw); go_simp; first | done | with_reducible rfl)); simp only [Act.put, List.setIfInBounds_toArray, List.set_cons_zero, List.set_cons_succ]); (refine take_op (i := 4) (v := ?_) rfl (by kernel_rfl) (by kernel_rfl) (by kernel_rfl) (fun _ _ _ h => h) (by rfl) ?_ hHeld ?_; rotate_left; (· (intro wS hSw; (try dsimp only at hSw); go_simp; first | done | with_reducible rfl)); simp only [Act.put, List.setIfInBounds_toArray, List.set_cons_zero, List.set_cons_succ]); (refine take_op (i := 5) (v := ?_) rfl (by kernel_rfl) (by kernel_rfl) (by kernel_rfl) (fun _ _ _ h => h) (by rfl) ?_ hHeld ?_; rotate_left; (· (intro wS hSw; (try dsimp only at hSw); go_simp; first | done | with_reducible rfl)); simp only [Act.put, List.setIfInBounds_toArray, List.set_cons_zero, List.set_cons_succ]); (refine take_op (i := 6) (v := ?_) rfl (by kernel_rfl) (by kernel_rfl) (by kernel_rfl) (fun _ _ _ h => h) (by rfl) ?_ hHeld ?_; rotate_left; (· (intro wS hSw; (try dsimp only at hSw); go_simp; first | done | with_reducible rfl)); simp only [Act.put, List.setIfInBounds_toArray, List.set_cons_zero, List.set_cons_succ]); (refine take_op (i := 7) (v := ?_) rfl (by kernel_rfl) (by kernel_rfl) (by kernel_rfl) (fun _ _ _ h => h) (by rfl) ?_ hHeld ?_; rotate_left; (· (intro wS hSw; (try dsimp only at hSw); go_simp; first | done | with_reducible rfl)); simp only [Act.put, List.setIfInBounds_toArray, List.set_cons_zero, List.set_cons_succ]); (refine take_op (i := 8) (v := ?_) rfl (by kernel_rfl) (by kernel_rfl) (by kernel_rfl) (fun _ _ _ h => h) (by rfl) ?_ hHeld ?_; rotate_left; (· (intro wS hSw; (try dsimp only at hSw); go_simp; first | done | with_reducible rfl)); simp only [Act.put, List.setIfInBounds_toArray, List.set_cons_zero, List.set_cons_succ]); (refine take_op (i := 9) (v := ?_) rfl (by kernel_rfl) (by kernel_rfl) (by kernel_rfl) (fun _ _ _ h => h) (by rfl) ?_ hHeld ?_; rotate_left; (· (intro wS hSw; (try dsimp only at hSw); go_simp; first | done | with_reducible rfl)); simp only [Act.put, List.setIfInBounds_toArray, List.set_cons_zero, List.set_cons_succ]); (refine take_op (i := 10) (v := ?_) rfl (by kernel_rfl) (by kernel_rfl) (by kernel_rfl) (fun _ _ _ h => h) (by rfl) ?_ hHeld ?_; rotate_left; (· (intro wS hSw; (try dsimp only at hSw); go_simp; first | done | with_reducible rfl)); simp only [Act.put, List.setIfInBounds_toArray, List.set_cons_zero, List.set_cons_succ])
      refine two_op (i := 11) (j := 12) rfl rfl (by kernel_rfl) (by rfl) (by rfl) ?_ ?_
      · (intro K hK; go_simp; refine hK.out _ _ (mkS _ (P0.al (.cells #[.int .i64 0, .int .u64 0, .string ⟨#[]⟩, .slice none 0 0] 28))) (fun hHeld2 => ?_); clear hK K hHeld; have hHeld := hHeld2; clear hHeld2; (try simp only [Act.put, List.setIfInBounds_toArray, List.set_cons_zero, List.set_cons_succ]))
        have P2 := (P0.al (.cells #[.int .i64 0, .int .u64 0, .string ⟨#[]⟩, .slice none 0 0] 28)).al (.cells #[.int .i64 0, .int .u64 0, .string ⟨#[]⟩, .slice none 0 0] 28)
        (refine call_op (i := 12) rfl (by kernel_rfl) (by rfl) (fun K hK => ?_); go_simp; skip; refine hK.out _ _ (mkS _ P2) (fun hHeld2 => ?_); clear hK K hHeld; have hHeld := hHeld2; clear hHeld2; (try simp only [Act.put, List.setIfInBounds_toArray, List.set_cons_zero, List.set_cons_succ]))
        have B1 : Blk ((w0.alloc (.cells #[.int .i64 0, .int .u64 0, .string ⟨#[]⟩, .slice none 0 0] 28)).alloc (.cells #[.int .i64 0, .int .u64 0, .string ⟨#[]⟩, .slice none 0 0] 28)) w0.heap.size 28 _ := (Blk.new w0 28 #[.int .i64 0, .int .u64 0, .string ⟨#[]⟩, .slice none 0 0]).alloc _
        have B2 : Blk ((w0.alloc (.cells #[.int .i64 0, .int .u64 0, .string ⟨#[]⟩, .slice none 0 0] 28)).alloc (.cells #[.int .i64 0, .int .u64 0, .string ⟨#[]⟩, .slice none 0 0] 28)) (w0.heap.size + 1) 28 #[.int .i64 0, .int .u64 0, .string ⟨#[]⟩, .slice none 0 0] := Blk.newAt (by simp)
        have hzg := P0.le
        have Ba0 := B1
        have Bb0 := B2
        clear B1 B2
        obtain ⟨hga, hgb, hne⟩ : z ≤ w0.heap.size ∧ z ≤ w0.heap.size + 1 ∧ w0.heap.size ≠ w0.heap.size + 1 := ⟨hzg, by omega, by omega⟩
        revert hHeld P2 Ba0 Bb0 hga hgb hne
        generalize World.alloc (World.alloc w0 _) _ = W2
        generalize w0.heap.size + 1 = gb
        generalize w0.heap.size = ga
        intro P2 hHeld Ba0 Bb0 hga hgb hne
        have c1 := Ba0.cell
        have f1 := Ba0.frozen
        have P3 := (((P2.set (p := ⟨ga, 0, none⟩) hga (.int .i64 k0)).set (p := ⟨ga, 1, none⟩) hga (.int .u64 n0)).set (p := ⟨ga, 2, none⟩) hga (.string s0)).set (p := ⟨ga, 3, none⟩) hga (.slice A0 m0 c0)
        have Ba1 := Ba0.set4 (.int .i64 k0) (.int .u64 n0) (.string s0) (.slice A0 m0 c0)
        have Bb1 := Bb0.far4 (g := ga) (Ne.symm hne) (.int .i64 k0) (.int .u64 n0) (.string s0) (.slice A0 m0 c0)
        (refine call_op (i := 13) rfl (by kernel_rfl) (by rfl) (fun K hK => ?_); go_simp; skip; refine hK.out _ _ (mkS _ P3) (fun hHeld2 => ?_); clear hK K hHeld; have hHeld := hHeld2; clear hHeld2; (try simp only [Act.put, List.setIfInBounds_toArray, List.set_cons_zero, List.set_cons_succ]))
        clear c1 f1 Ba0 Bb0 P2
        have c1 := Bb1.cell
        have f1 := Bb1.frozen
        have P4 := (((P3.set (p := ⟨gb, 0, none⟩) hgb (.int .i64 k1)).set (p := ⟨gb, 1, none⟩) hgb (.int .u64 n1)).set (p := ⟨gb, 2, none⟩) hgb (.string s1)).set (p := ⟨gb, 3, none⟩) hgb (.slice A1 m1 c1_)
        have Bb2 := Bb1.set4 (.int .i64 k1) (.int .u64 n1) (.string s1) (.slice A1 m1 c1_)
        have Ba2 := Ba1.far4 (g := gb) hne (.int .i64 k1) (.int .u64 n1) (.string s1) (.slice A1 m1 c1_)
        (refine call_op (i := 14) rfl (by kernel_rfl) (by rfl) (fun K hK => ?_); go_simp; skip; refine hK.out _ _ (mkS _ P4) (fun hHeld2 => ?_); clear hK K hHeld; have hHeld := hHeld2; clear hHeld2; (try simp only [Act.put, List.setIfInBounds_toArray, List.set_cons_zero, List.set_cons_succ]))
        clear c1 f1 Ba1 Bb1 P3
        (refine wpAnyH_done (by kernel_rfl) ?_ _)
        clear hHeld P0
        revert P4 Ba2 Bb2
        generalize World.setCell (World.setCell (World.setCell (World.setCell _ ⟨gb, 0, none⟩ _) ⟨gb, 1, none⟩ _) ⟨gb, 2, none⟩ _) ⟨gb, 3, none⟩ _ = W5
        intro P4 Bb2 Ba2
        have KB := Lib.hid P4.hb
        have ca := Ba2.cell
        have cb := Bb2.cell
        rcases pk_cases k0 n0 s0 m0 k1 n1 s1 m1 with h | ⟨e0, h⟩ | ⟨e0, e1, h⟩ | ⟨e0, e1, e2, h⟩ | ⟨e0, e1, e2, e3, h⟩ | ⟨e0, e1, e2, e3, e4, h⟩ | ⟨e0, e1, e2, e3, e4, e5, h⟩ | ⟨e0, e1, e2, e3, e4, e5, e6, h⟩ | ⟨e0, e1, e2, e3, e4, e5, e6, e7⟩
        · obtain rfl := HBAD.out (pk_no (by intro q; obtain ⟨q0, q1, q2, q3, q4, q5, q6, q7⟩ := q; first | exact h ‹_› | omega))
          have t1 : (k0 != 0) = true := by simpa using h
          clear P4 Ba2 Bb2 HBAD HGOOD h
          go_wp2_with fail
          refine bodyPost_ret (v := .tuple #[.slice none 0 0, .bool false]) (by simp [results, Try.results33, go_sem, *] <;> rfl) rfl ?_
          exact ⟨KB.out, rfl⟩
        · obtain rfl := HBAD.out (pk_no (by intro q; obtain ⟨q0, q1, q2, q3, q4, q5, q6, q7⟩ := q; first | exact h ‹_› | omega))
          subst e0
          have t1 : (k1 != 0) = true := by simpa using h
          clear P4 Ba2 Bb2 HBAD HGOOD h
          go_wp2_with fail
          refine bodyPost_ret (v := .tuple #[.slice none 0 0, .bool false]) (by simp [results, Try.results33, go_sem, *] <;> rfl) rfl ?_
          exact ⟨KB.out, rfl⟩
        · obtain rfl := HBAD.out (pk_no (by intro q; obtain ⟨q0, q1, q2, q3, q4, q5, q6, q7⟩ := q; first | exact h ‹_› | omega))
          subst e0
          subst e1
          obtain ⟨t1, t2⟩ := text_full h
          clear P4 Ba2 Bb2 HBAD HGOOD h
          go_wp2_with fail
          refine bodyPost_ret (v := .tuple #[.slice none 0 0, .bool false]) (by simp [results, Try.results33, go_sem, *] <;> rfl) rfl ?_
          exact ⟨KB.out, rfl⟩
        · obtain rfl := HBAD.out (pk_no (by intro q; obtain ⟨q0, q1, q2, q3, q4, q5, q6, q7⟩ := q; first | exact h ‹_› | omega))
          subst e0
          subst e1
          obtain rfl := size0 e2
          obtain ⟨t1, t2⟩ := text_full h
          clear P4 Ba2 Bb2 HBAD HGOOD h
          go_wp2_with fail
          refine bodyPost_ret (v := .tuple #[.slice none 0 0, .bool false]) (by simp [results, Try.results33, go_sem, *] <;> rfl) rfl ?_
          exact ⟨KB.out, rfl⟩
        · obtain rfl := HBAD.out (pk_no (by intro q; obtain ⟨q0, q1, q2, q3, q4, q5, q6, q7⟩ := q; first | exact h ‹_› | omega))
          subst e0
          subst e1
          obtain rfl := size0 e2
          obtain rfl := size0 e3
          have t1 : (0 : Int) < (m0 : Int) := by omega
          clear P4 Ba2 Bb2 HBAD HGOOD h
          go_wp2_with fail
          refine bodyPost_ret (v := .tuple #[.slice none 0 0, .bool false]) (by simp [results, Try.results33, go_sem, *] <;> rfl) rfl ?_
          exact ⟨KB.out, rfl⟩
        · obtain rfl := HBAD.out (pk_no (by intro q; obtain ⟨q0, q1, q2, q3, q4, q5, q6, q7⟩ := q; first | exact h ‹_› | omega))
          subst e0
          subst e1
          obtain rfl := size0 e2
          obtain rfl := size0 e3
          subst e4
          have t1 : (0 : Int) < (m1 : Int) := by omega
          clear P4 Ba2 Bb2 HBAD HGOOD h
          go_wp2_with fail
          refine bodyPost_ret (v := .tuple #[.slice none 0 0, .bool false]) (by simp [results, Try.results33, go_sem, *] <;> rfl) rfl ?_
          exact ⟨KB.out, rfl⟩
        · obtain rfl := HBAD.out (pk_no (by intro q; obtain ⟨q0, q1, q2, q3, q4, q5, q6, q7⟩ := q; first | exact h ‹_› | omega))
          subst e0
          subst e1
          obtain rfl := size0 e2
          obtain rfl := size0 e3
          subst e4
          subst e5
          have t1 : (6 : Int) < (n0 : Int) := by omega
          clear P4 Ba2 Bb2 HBAD HGOOD h
          go_wp2_with fail
          refine bodyPost_ret (v := .tuple #[.slice none 0 0, .bool false]) (by simp [results, Try.results33, go_sem, *] <;> rfl) rfl ?_
          exact ⟨KB.out, rfl⟩
        · obtain rfl := HBAD.out (pk_no (by intro q; obtain ⟨q0, q1, q2, q3, q4, q5, q6, q7⟩ := q; first | exact h ‹_› | omega))
          subst e0
          subst e1
          obtain rfl := size0 e2
          obtain rfl := size0 e3
          subst e4
          subst e5
          have t6 : ¬ (6 : Int) < (n0 : Int) := by omega
          have t1 : (1099511627776 : Int) < (n1 : Int) := by omega
          clear P4 Ba2 Bb2 HBAD HGOOD h
          go_wp2_with fail
          refine bodyPost_ret (v := .tuple #[.slice none 0 0, .bool false]) (by simp [results, Try.results33, go_sem, *] <;> rfl) rfl ?_
          exact ⟨KB.out, rfl⟩
        · have hg := HGOOD.out (pk_true.2 ⟨e0, e1, e2, e3, e4, e5, e6, e7⟩)
          subst e0
          subst e1
          obtain rfl := size0 e2
          obtain rfl := size0 e3
          subst e4
          subst e5
          have t6 : ¬ (6 : Int) < (n0 : Int) := by omega
          have t7 : ¬ (1099511627776 : Int) < (n1 : Int) := by omega
          have hw0 : IntKind.i64.wrap (n0 : Int) = (n0 : Int) := IntWalk.i64_in _ (by omega)
          have hw1 : IntKind.i64.wrap (n1 : Int) = (n1 : Int) := IntWalk.i64_in _ (by omega)
          have own4 := own_below P4.ho (below_one (.cells #[.int .i64 (n0 : Int), .int .i64 (n1 : Int)] 42))
          have sr4 := src_two' (w := W5) (r := (n0 : Int)) (n := (n1 : Int))
          have hzz := P4.le
          have hz0' := P4.z0
          have hX4 := Lib.hid P4.hx
          have HG := Lib.hid hg
          clear HBAD HGOOD e6 e7 P4 Ba2 Bb2 hg
          go_wp2_with ((at_builtin; go_loud (refine wpList_app _ rfl (.tmp 92) (.tmp 100) 22 rfl _ 42 i0 _ 2 16 Try.underlying22 hi hz0 hz1 hz2 rfl (by omega) _ _ _ rfl own4 _ _ _ _ rfl sr4 ?h63 ?hby ?hbase ?_); (case h63 => (unfold maxLen; first | omega | (simp; done) | (simp; omega))); (case hby => first | omega | (simp; done) | (simp; omega)); (case hbase => first | omega | (simp; done) | (simp; omega)); intro v5 w5 hownw5 hgroww5 hatw5 holdw5))
          have hb5 := below_app (B := w.heap.size) (KB.out.alloc (by omega) _) own4 hgroww5 (by omega) (by simp; omega)
          have X5 : Blk w5 w.heap.size 28 _ := (hgroww5.block _ (hX4.out.alloc _).lt (fun e => by have := (own4.lt _ e.symm).1; omega)).trans (hX4.out.alloc _)
          have own5 : w5.ownsRow (w.heap.size + 1) 42 2 v5 (j + 1) (flat2 ((List.range (j + 1)).map (pa l))) := by rw [List.range_succ, List.map_append, flat2_append, List.map_singleton, HG.out.2]; exact hownw5
          obtain ⟨A5, c5, rfl, _, _⟩ := own_form5 own5
          have w2i : IntKind.i64.wrap ((i : Int) + 2) = ((i + 2 : Nat) : Int) := by rw [show (i : Int) + 2 = ((i + 2 : Nat) : Int) by omega]; exact IntWalk.i64_in _ (by omega)
          go_wp2_with fail
          go_roundw
          case rel => exact ⟨i + 2, A5, c5, j + 1, by omega, by have := HIJ.out; omega, by first | rfl | (simp; done) | go_num, rfl, fun q hq => (if h : q < j then HGD.out q h else (show q = j by omega) ▸ HG.out.1), X5, own5, hb5⟩
          case measure => simp [intOf]; omega
      · (intro K hK; go_simp; refine hK.out _ _ (mkS _ (P0.al (.cells #[.int .i64 0, .int .u64 0, .string ⟨#[]⟩, .slice none 0 0] 28))) (fun hHeld2 => ?_); clear hK K hHeld; have hHeld := hHeld2; clear hHeld2; (try simp only [Act.put, List.setIfInBounds_toArray, List.set_cons_zero, List.set_cons_succ]))
        have P2 := (P0.al (.cells #[.int .i64 0, .int .u64 0, .string ⟨#[]⟩, .slice none 0 0] 28)).al (.cells #[.int .i64 0, .int .u64 0, .string ⟨#[]⟩, .slice none 0 0] 28)
        (refine call_op (i := 11) rfl (by kernel_rfl) (by rfl) (fun K hK => ?_); go_simp; skip; refine hK.out _ _ (mkS _ P2) (fun hHeld2 => ?_); clear hK K hHeld; have hHeld := hHeld2; clear hHeld2; (try simp only [Act.put, List.setIfInBounds_toArray, List.set_cons_zero, List.set_cons_succ]))
        have B1 : Blk ((w0.alloc (.cells #[.int .i64 0, .int .u64 0, .string ⟨#[]⟩, .slice none 0 0] 28)).alloc (.cells #[.int .i64 0, .int .u64 0, .string ⟨#[]⟩, .slice none 0 0] 28)) w0.heap.size 28 _ := (Blk.new w0 28 #[.int .i64 0, .int .u64 0, .string ⟨#[]⟩, .slice none 0 0]).alloc _
        have B2 : Blk ((w0.alloc (.cells #[.int .i64 0, .int .u64 0, .string ⟨#[]⟩, .slice none 0 0] 28)).alloc (.cells #[.int .i64 0, .int .u64 0, .string ⟨#[]⟩, .slice none 0 0] 28)) (w0.heap.size + 1) 28 #[.int .i64 0, .int .u64 0, .string ⟨#[]⟩, .slice none 0 0] := Blk.newAt (by simp)
        have hzg := P0.le
        have Bb0 := B1
        have Ba0 := B2
        clear B1 B2
        obtain ⟨hga, hgb, hne⟩ : z ≤ w0.heap.size + 1 ∧ z ≤ w0.heap.size ∧ w0.heap.size + 1 ≠ w0.heap.size := ⟨by omega, hzg, by omega⟩
        revert hHeld P2 Ba0 Bb0 hga hgb hne
        generalize World.alloc (World.alloc w0 _) _ = W2
        generalize w0.heap.size + 1 = ga
        generalize w0.heap.size = gb
        intro P2 hHeld Bb0 Ba0 hga hgb hne
        have c1 := Ba0.cell
        have f1 := Ba0.frozen
        have P3 := (((P2.set (p := ⟨ga, 0, none⟩) hga (.int .i64 k0)).set (p := ⟨ga, 1, none⟩) hga (.int .u64 n0)).set (p := ⟨ga, 2, none⟩) hga (.string s0)).set (p := ⟨ga, 3, none⟩) hga (.slice A0 m0 c0)
        have Ba1 := Ba0.set4 (.int .i64 k0) (.int .u64 n0) (.string s0) (.slice A0 m0 c0)
        have Bb1 := Bb0.far4 (g := ga) (Ne.symm hne) (.int .i64 k0) (.int .u64 n0) (.string s0) (.slice A0 m0 c0)
        (refine call_op (i := 13) rfl (by kernel_rfl) (by rfl) (fun K hK => ?_); go_simp; skip; refine hK.out _ _ (mkS _ P3) (fun hHeld2 => ?_); clear hK K hHeld; have hHeld := hHeld2; clear hHeld2; (try simp only [Act.put, List.setIfInBounds_toArray, List.set_cons_zero, List.set_cons_succ]))
        clear c1 f1 Ba0 Bb0 P2
        have c1 := Bb1.cell
        have f1 := Bb1.frozen
        have P4 := (((P3.set (p := ⟨gb, 0, none⟩) hgb (.int .i64 k1)).set (p := ⟨gb, 1, none⟩) hgb (.int .u64 n1)).set (p := ⟨gb, 2, none⟩) hgb (.string s1)).set (p := ⟨gb, 3, none⟩) hgb (.slice A1 m1 c1_)
        have Bb2 := Bb1.set4 (.int .i64 k1) (.int .u64 n1) (.string s1) (.slice A1 m1 c1_)
        have Ba2 := Ba1.far4 (g := gb) hne (.int .i64 k1) (.int .u64 n1) (.string s1) (.slice A1 m1 c1_)
        (refine call_op (i := 14) rfl (by kernel_rfl) (by rfl) (fun K hK => ?_); go_simp; skip; refine hK.out _ _ (mkS _ P4) (fun hHeld2 => ?_); clear hK K hHeld; have hHeld := hHeld2; clear hHeld2; (try simp only [Act.put, List.setIfInBounds_toArray, List.set_cons_zero, List.set_cons_succ]))
        clear c1 f1 Ba1 Bb1 P3
        (refine wpAnyH_done (by kernel_rfl) ?_ _)
        clear hHeld P0
        revert P4 Ba2 Bb2
        generalize World.setCell (World.setCell (World.setCell (World.setCell _ ⟨gb, 0, none⟩ _) ⟨gb, 1, none⟩ _) ⟨gb, 2, none⟩ _) ⟨gb, 3, none⟩ _ = W5
        intro P4 Bb2 Ba2
        have KB := Lib.hid P4.hb
        have ca := Ba2.cell
        have cb := Bb2.cell
        rcases pk_cases k0 n0 s0 m0 k1 n1 s1 m1 with h | ⟨e0, h⟩ | ⟨e0, e1, h⟩ | ⟨e0, e1, e2, h⟩ | ⟨e0, e1, e2, e3, h⟩ | ⟨e0, e1, e2, e3, e4, h⟩ | ⟨e0, e1, e2, e3, e4, e5, h⟩ | ⟨e0, e1, e2, e3, e4, e5, e6, h⟩ | ⟨e0, e1, e2, e3, e4, e5, e6, e7⟩
        · obtain rfl := HBAD.out (pk_no (by intro q; obtain ⟨q0, q1, q2, q3, q4, q5, q6, q7⟩ := q; first | exact h ‹_› | omega))
          have t1 : (k0 != 0) = true := by simpa using h
          clear P4 Ba2 Bb2 HBAD HGOOD h
          go_wp2_with fail
          refine bodyPost_ret (v := .tuple #[.slice none 0 0, .bool false]) (by simp [results, Try.results33, go_sem, *] <;> rfl) rfl ?_
          exact ⟨KB.out, rfl⟩
        · obtain rfl := HBAD.out (pk_no (by intro q; obtain ⟨q0, q1, q2, q3, q4, q5, q6, q7⟩ := q; first | exact h ‹_› | omega))
          subst e0
          have t1 : (k1 != 0) = true := by simpa using h
          clear P4 Ba2 Bb2 HBAD HGOOD h
          go_wp2_with fail
          refine bodyPost_ret (v := .tuple #[.slice none 0 0, .bool false]) (by simp [results, Try.results33, go_sem, *] <;> rfl) rfl ?_
          exact ⟨KB.out, rfl⟩
        · obtain rfl := HBAD.out (pk_no (by intro q; obtain ⟨q0, q1, q2, q3, q4, q5, q6, q7⟩ := q; first | exact h ‹_› | omega))
          subst e0
          subst e1
          obtain ⟨t1, t2⟩ := text_full h
          clear P4 Ba2 Bb2 HBAD HGOOD h
          go_wp2_with fail
          refine bodyPost_ret (v := .tuple #[.slice none 0 0, .bool false]) (by simp [results, Try.results33, go_sem, *] <;> rfl) rfl ?_
          exact ⟨KB.out, rfl⟩
        · obtain rfl := HBAD.out (pk_no (by intro q; obtain ⟨q0, q1, q2, q3, q4, q5, q6, q7⟩ := q; first | exact h ‹_› | omega))
          subst e0
          subst e1
          obtain rfl := size0 e2
          obtain ⟨t1, t2⟩ := text_full h
          clear P4 Ba2 Bb2 HBAD HGOOD h
          go_wp2_with fail
          refine bodyPost_ret (v := .tuple #[.slice none 0 0, .bool false]) (by simp [results, Try.results33, go_sem, *] <;> rfl) rfl ?_
          exact ⟨KB.out, rfl⟩
        · obtain rfl := HBAD.out (pk_no (by intro q; obtain ⟨q0, q1, q2, q3, q4, q5, q6, q7⟩ := q; first | exact h ‹_› | omega))
          subst e0
          subst e1
          obtain rfl := size0 e2
          obtain rfl := size0 e3
          have t1 : (0 : Int) < (m0 : Int) := by omega
          clear P4 Ba2 Bb2 HBAD HGOOD h
          go_wp2_with fail
          refine bodyPost_ret (v := .tuple #[.slice none 0 0, .bool false]) (by simp [results, Try.results33, go_sem, *] <;> rfl) rfl ?_
          exact ⟨KB.out, rfl⟩
        · obtain rfl := HBAD.out (pk_no (by intro q; obtain ⟨q0, q1, q2, q3, q4, q5, q6, q7⟩ := q; first | exact h ‹_› | omega))
          subst e0
          subst e1
          obtain rfl := size0 e2
          obtain rfl := size0 e3
          subst e4
          have t1 : (0 : Int) < (m1 : Int) := by omega
          clear P4 Ba2 Bb2 HBAD HGOOD h
          go_wp2_with fail
          refine bodyPost_ret (v := .tuple #[.slice none 0 0, .bool false]) (by simp [results, Try.results33, go_sem, *] <;> rfl) rfl ?_
          exact ⟨KB.out, rfl⟩
        · obtain rfl := HBAD.out (pk_no (by intro q; obtain ⟨q0, q1, q2, q3, q4, q5, q6, q7⟩ := q; first | exact h ‹_› | omega))
          subst e0
          subst e1
          obtain rfl := size0 e2
          obtain rfl := size0 e3
          subst e4
          subst e5
          have t1 : (6 : Int) < (n0 : Int) := by omega
          clear P4 Ba2 Bb2 HBAD HGOOD h
          go_wp2_with fail
          refine bodyPost_ret (v := .tuple #[.slice none 0 0, .bool false]) (by simp [results, Try.results33, go_sem, *] <;> rfl) rfl ?_
          exact ⟨KB.out, rfl⟩
        · obtain rfl := HBAD.out (pk_no (by intro q; obtain ⟨q0, q1, q2, q3, q4, q5, q6, q7⟩ := q; first | exact h ‹_› | omega))
          subst e0
          subst e1
          obtain rfl := size0 e2
          obtain rfl := size0 e3
          subst e4
          subst e5
          have t6 : ¬ (6 : Int) < (n0 : Int) := by omega
          have t1 : (1099511627776 : Int) < (n1 : Int) := by omega
          clear P4 Ba2 Bb2 HBAD HGOOD h
          go_wp2_with fail
          refine bodyPost_ret (v := .tuple #[.slice none 0 0, .bool false]) (by simp [results, Try.results33, go_sem, *] <;> rfl) rfl ?_
          exact ⟨KB.out, rfl⟩
        · have hg := HGOOD.out (pk_true.2 ⟨e0, e1, e2, e3, e4, e5, e6, e7⟩)
          subst e0
          subst e1
          obtain rfl := size0 e2
          obtain rfl := size0 e3
          subst e4
          subst e5
          have t6 : ¬ (6 : Int) < (n0 : Int) := by omega
          have t7 : ¬ (1099511627776 : Int) < (n1 : Int) := by omega
          have hw0 : IntKind.i64.wrap (n0 : Int) = (n0 : Int) := IntWalk.i64_in _ (by omega)
          have hw1 : IntKind.i64.wrap (n1 : Int) = (n1 : Int) := IntWalk.i64_in _ (by omega)
          have own4 := own_below P4.ho (below_one (.cells #[.int .i64 (n0 : Int), .int .i64 (n1 : Int)] 42))
          have sr4 := src_two' (w := W5) (r := (n0 : Int)) (n := (n1 : Int))
          have hzz := P4.le
          have hz0' := P4.z0
          have hX4 := Lib.hid P4.hx
          have HG := Lib.hid hg
          clear HBAD HGOOD e6 e7 P4 Ba2 Bb2 hg
          go_wp2_with ((at_builtin; go_loud (refine wpList_app _ rfl (.tmp 92) (.tmp 100) 22 rfl _ 42 i0 _ 2 16 Try.underlying22 hi hz0 hz1 hz2 rfl (by omega) _ _ _ rfl own4 _ _ _ _ rfl sr4 ?h63 ?hby ?hbase ?_); (case h63 => (unfold maxLen; first | omega | (simp; done) | (simp; omega))); (case hby => first | omega | (simp; done) | (simp; omega)); (case hbase => first | omega | (simp; done) | (simp; omega)); intro v5 w5 hownw5 hgroww5 hatw5 holdw5))
          have hb5 := below_app (B := w.heap.size) (KB.out.alloc (by omega) _) own4 hgroww5 (by omega) (by simp; omega)
          have X5 : Blk w5 w.heap.size 28 _ := (hgroww5.block _ (hX4.out.alloc _).lt (fun e => by have := (own4.lt _ e.symm).1; omega)).trans (hX4.out.alloc _)
          have own5 : w5.ownsRow (w.heap.size + 1) 42 2 v5 (j + 1) (flat2 ((List.range (j + 1)).map (pa l))) := by rw [List.range_succ, List.map_append, flat2_append, List.map_singleton, HG.out.2]; exact hownw5
          obtain ⟨A5, c5, rfl, _, _⟩ := own_form5 own5
          have w2i : IntKind.i64.wrap ((i : Int) + 2) = ((i + 2 : Nat) : Int) := by rw [show (i : Int) + 2 = ((i + 2 : Nat) : Int) by omega]; exact IntWalk.i64_in _ (by omega)
          go_wp2_with fail
          go_roundw
          case rel => exact ⟨i + 2, A5, c5, j + 1, by omega, by have := HIJ.out; omega, by first | rfl | (simp; done) | go_num, rfl, fun q hq => (if h : q < j then HGD.out q h else (show q = j by omega) ▸ HG.out.1), X5, own5, hb5⟩
          case measure => simp [intOf]; omega
    · have hjh : j = h := by have := HM.out; have := HIJ.out; omega
      subst hjh
      have hids := ids_of_own hown (by unfold maxLen; omega) (fun x hx => by
        obtain ⟨q, _, rfl⟩ := List.mem_map.1 hx
        exact ⟨clamp_wf _, clamp_wf _⟩)
      have hck := check5_any A' j c' _ wr hids.1
      have hT : idsOk ((List.range j).map (pa l)) = true → RES = some ((List.range j).map (pa l)) := fun e => by rw [← HRES.out]; exact if_pos ⟨HGD.out, e⟩
      have hF : idsOk ((List.range j).map (pa l)) = false → RES = none := fun e => by rw [← HRES.out]; exact if_neg (fun hh => by rw [e] at hh; cases hh.2)
      have hll : ((List.range j).map (pa l)).length = j := by simp
      have xc := hX.cell
      have i1' : ¬ (i : Int) < (m : Int) := by omega
      have HX := Lib.hid hX
      clear hids hX HRES HGD
      generalize (List.range j).map (pa l) = L at *
      obtain ⟨R, hR⟩ : ∃ R, idsOk L = R := ⟨_, rfl⟩
      rw [hR] at hck hT hF
      have HT := Lib.hid hT
      have HF := Lib.hid hF
      have HC := Lib.hid hck
      have HO := Lib.hid hown
      have HB := Lib.hid hbr
      clear hT hF hck hown hbr hR
      cases R
      · obtain rfl := HF.out rfl
        go_wp2_with (go_at_call 21; (with_reducible refine HC.out.mono ?_); rintro e w1 ⟨rfl, hb1⟩)
        refine bodyPost_ret (v := .tuple #[.slice none 0 0, .bool false]) (by simp [results, Try.results33, go_sem, *] <;> rfl) rfl ?_
        exact ⟨HB.out.trans (hb1.mono HB.out.size), rfl⟩
      · obtain rfl := HT.out rfl
        go_wp2_with (go_at_call 21; (with_reducible refine HC.out.mono ?_); rintro e w1 ⟨rfl, hb1⟩)
        refine bodyPost_ret (v := .tuple #[.slice A' j c', .bool true]) (by simp [results, Try.results33, go_sem, *] <;> rfl) rfl ?_
        exact ⟨HB.out.trans (hb1.mono HB.out.size), A', c', by rw [hll], by rw [hll]; exact own_lower (own_below HO.out hb1) (Nat.le_succ _)⟩
theorem reftake5_any (t : Tree) (v : Value) (w : World) (hv : Holds w t v) : Calls Try.prog 33 #[v] w (TkIds w (itake t)) := by
  refine Calls.mono (?_ : Calls _ _ _ _ (TakesI w (itake t))) fun e w' h => h.ids
  obtain ⟨k, n, s, l⟩ := t
  obtain ⟨A, m, c, rfl, -, -, -, hm, hmc, hc, -⟩ := hv.open_
  have hi := hv.items
  by_cases hh : tkHead k n s l.length = true
  · have hp := hh
    unfold tkHead at hp
    simp only [Bool.and_eq_true, beq_iff_eq, decide_eq_true_eq] at hp
    obtain ⟨⟨⟨⟨rfl, h2⟩, h3⟩, rfl⟩, h5⟩ := hp
    obtain rfl := size0 h5
    obtain ⟨h, hl⟩ : ∃ h, l.length = 2 * h := ⟨l.length / 2, by omega⟩
    subst hm
    rw [hl] at hi
    have hg := reftake5_good A h c l w hl (by omega) hi
    have e2 : l.length / 2 = h := by omega
    rw [itake_mk, e2]
    simp only [hh, true_and]
    rw [hl]
    exact hg
  · have hb := reftake5_bad k n s A m c w (by rw [hm]; simpa using hh) (by unfold maxLen at hc; omega)
    rw [itake_mk, if_neg (fun h => hh h.1)]
    exact hb.mono fun e w' h => ⟨h.2, h.1⟩
end Go.Proofs.Ytfdfcceleaodaaa
