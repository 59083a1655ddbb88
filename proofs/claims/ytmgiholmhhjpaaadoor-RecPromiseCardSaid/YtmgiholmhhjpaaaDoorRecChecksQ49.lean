/- The walk of rec.Old: an item, and an error's number. -/
import Derived.Test.YtmgiholmhhjpaaaDoorRecChecksQ45
import Derived.Test.YtmgiholmhhjpaaaDoorRecChecksQ36
import Derived.Test.YtmgiholmhhjpaaaDoorRecChecksQ37
import Derived.Test.YtmgiholmhhjpaaaDoorRecChecksQ41
import Derived.WalkKit
import Derived.WalkSpells
import Derived.WalkLawsBesides
import Derived.Deep.RegionHeld3
import Derived.Deep.DrawnRows
import Derived.Deep.DeepCutAuto
import Derived.Deep.DeepFit
import Derived.Lib.Hide
import Derived.BigQuiet
import Derived.Deep.QuietTactic
namespace Go.Proofs.YtmgiholmhhjpaaaDoor
open Go.RowKit
set_option linter.unusedVariables false
set_option linter.unusedSimpArgs false
set_option maxRecDepth 20000
attribute [local go_sem ↓] Go.wp_at_zero Go.wp_at_succ
attribute [local go_sem] World.cell?_alloc_some frozen_alloc_some
attribute [local go_sem] lt2 lt3 lt4 lt5
attribute [local simp] lt2 lt3 lt4 lt5

theorem ccheck_range {k c q : Int} {y x : ByteArray} {r : Int} (h : ccheck k c q y x r = 0) : 0 ≤ k ∧ k ≤ 6 ∧ 0 ≤ c ∧ c ≤ 1048576 ∧ 0 ≤ q ∧ q ≤ 1099511627776 ∧ 0 ≤ r ∧ r ≤ 1099511627776 := by
  unfold ccheck at h
  by_cases h1 : cform k c q y x r = true
  · rw [if_pos h1] at h; cases h
  · rw [if_neg h1] at h
    by_cases h2 : crange c q r = true
    · rw [if_pos h2] at h; cases h
    · unfold cform at h1
      unfold crange at h2
      simp only [Bool.or_eq_true, Bool.not_eq_true', decide_eq_false_iff_not, not_or, Decidable.not_not] at h1 h2
      omega
def recOldE (a : RecT) : Int := if recOk a = false then 4 else if a.st = 0 then 0 else if a.k = 6 then 17 else oldE a.p
/-- An item, and the number. -/
def OldR (w : World) (E : Int) (e : Ending) (w' : World) : Prop := ∃ (k n : Int) (s : ByteArray) (A' : Option Addr) (m' c' : Nat), e = .returned (.tuple #[.agg #[.int .i64 k, .int .u64 n, .string s, .slice A' m' c'], .int .i64 E]) ∧ Below w.heap.size w w'
theorem recOk_cmd {a : RecT} (h : recOk a = true) (hs : a.st ≠ 0) : ccheck a.k a.c a.q a.y a.x a.r = 0 := by
  unfold recOk at h
  split at h
  · cases h
  · split at h
    · cases h
    · try rw [if_neg hs] at h
      simp only [Bool.and_eq_true, beq_iff_eq] at h
      exact h.1
attribute [local go_sem ↓ high] loadVar_rec storeVar_rec
set_option maxHeartbeats 8000000 in
theorem recold_any (a : RecT) (w : World) (ha : a.Ok w) (hT : Tabs w) (hm : a.m ≤ 1000000) : Calls Tryd.prog 23 #[a.v] w (OldR w (recOldE a)) := by
  have hck := fun W (hb : Below w.heap.size w W) => reccheck_any a W (ha.keep hb) (hT.keep hb)
  have hol : ∀ W, Below w.heap.size w W → Calls Tryd.prog 49 #[.agg #[.slice a.A a.m a.cap, .int .i64 a.sq, .int .i64 a.tg]] W (OldR W (oldE a.p)) := fun W hb =>
    (attrold_any a.A a.m a.cap a.sq a.tg a.l W (ha.l.keep hb) hm).mono fun e w' ⟨k, n, s, A', m', c', h1, _, h3⟩ => ⟨k, n, s, A', m', c', h1, h3⟩
  have hl0 : a.st = 0 → ∀ W (hk hn : Int) (hs : ByteArray) (hA : Option Addr) (hm hc : Nat), Calls Tryd.prog 48 #[a.v, .agg #[.int .i64 hk, .int .u64 hn, .string hs, .slice hA hm hc]] W (fun e w' => ∃ A c, e = .returned (.agg #[.int .i64 2, .int .u64 0, .string ByteArray.empty, .slice A 5 c]) ∧ Below W.heap.size W w') := fun hs0 W hk hn hs hA hm hc => by
    have := laid0_any a.i a.n a.br a.bb a.tr a.tb a.k a.c a.q a.y a.x a.r a.A a.m a.cap a.sq a.tg hk hn hs hA hm hc W
    unfold RecT.v
    rw [hs0]
    exact this.mono fun e w' ⟨A, c, h1, _, h3⟩ => ⟨A, c, h1, h3⟩
  have hl1 : recOk a = true → a.st ≠ 0 → ∀ W (hk hn : Int) (hs : ByteArray) (hA : Option Addr) (hm hc : Nat), Calls Tryd.prog 48 #[a.v, .agg #[.int .i64 hk, .int .u64 hn, .string hs, .slice hA hm hc]] W (fun e w' => ∃ A c, e = .returned (.agg #[.int .i64 2, .int .u64 0, .string ByteArray.empty, .slice A 7 c]) ∧ Below W.heap.size W w') := fun hok hs0 W hk hn hs hA hm hc => by
    obtain ⟨r0, r1, r2, r3, r4, r5, r6, r7⟩ := ccheck_range (recOk_cmd hok hs0)
    have := laid1_any a.i a.n a.st a.br a.bb a.tr a.tb a.k.toNat a.c.toNat a.q.toNat a.y a.x a.r.toNat a.A a.m a.cap a.sq a.tg hk hn hs hA hm hc (by simp [hs0]) (by omega) (by omega) (by omega) ha.y ha.x (by omega) W
    unfold RecT.v
    rw [Int.toNat_of_nonneg r0, Int.toNat_of_nonneg r2, Int.toNat_of_nonneg r4, Int.toNat_of_nonneg r6] at this
    exact this
  obtain ⟨E, hE⟩ : ∃ E, E = recOldE a := ⟨_, rfl⟩
  rw [← hE]
  unfold recOldE at hE
  generalize recOk a = g at hck hl1 hE
  generalize oldE a.p = o at hol hE
  have HE := Lib.hid hE
  clear hE ha hT
  unfold RecT.v at *
  have Hck := Lib.hid hck
  have Hol := Lib.hid hol
  have Hl0 := Lib.hid hl0
  have Hl1 := Lib.hid hl1
  clear hck hol hl0 hl1
  have B0 : Blk ((w.alloc (.cells #[.int .i64 a.i, .int .i64 a.n, .int .i64 a.st, .int .i64 a.br, .int .i64 a.bb, .int .i64 a.tr, .int .i64 a.tb, .int .i64 a.k, .int .i64 a.c, .int .i64 a.q, .string a.y, .string a.x, .int .i64 a.r, .slice a.A a.m a.cap, .int .i64 a.sq, .int .i64 a.tg] 33)).alloc (.cells #[.int .i64 0, .int .u64 0, .string ⟨#[]⟩, .slice none 0 0] 56)) w.heap.size 33 #[.int .i64 a.i, .int .i64 a.n, .int .i64 a.st, .int .i64 a.br, .int .i64 a.bb, .int .i64 a.tr, .int .i64 a.tb, .int .i64 a.k, .int .i64 a.c, .int .i64 a.q, .string a.y, .string a.x, .int .i64 a.r, .slice a.A a.m a.cap, .int .i64 a.sq, .int .i64 a.tg] := (Blk.new w _ _).alloc _
  have R0 : Blk ((w.alloc (.cells #[.int .i64 a.i, .int .i64 a.n, .int .i64 a.st, .int .i64 a.br, .int .i64 a.bb, .int .i64 a.tr, .int .i64 a.tb, .int .i64 a.k, .int .i64 a.c, .int .i64 a.q, .string a.y, .string a.x, .int .i64 a.r, .slice a.A a.m a.cap, .int .i64 a.sq, .int .i64 a.tg] 33)).alloc (.cells #[.int .i64 0, .int .u64 0, .string ⟨#[]⟩, .slice none 0 0] 56)) (w.heap.size + 1) 56 #[.int .i64 0, .int .u64 0, .string ⟨#[]⟩, .slice none 0 0] := Blk.newAt (by simp)
  have B0l := rec_load B0
  cases g
  · obtain rfl : E = 4 := by rw [HE.out]; rfl
    simp only [recErr] at Hck
    go_enter Tryd.func23, Tryd.ntmps23
    go_wp2_with (go_at_call 10; (with_reducible refine (Hck.out _ (by ((repeat' first | with_reducible exact Below.refl _ _ | with_reducible assumption | with_reducible refine Below.alloc ?_ ?_ _ | with_reducible refine Below.setCell ?_ ?_ _ | with_reducible apply Below.drew | with_reducible apply below_drewN | with_reducible refine below_call ?_ (by with_reducible assumption) ?_) <;> (first | omega | (simp; done) | (simp; omega) | (simp at *; omega))))).mono ?_); rintro e w1 ⟨rfl, hb1⟩; have k1 : Below w.heap.size w w1 := (by ((repeat' first | with_reducible exact Below.refl _ _ | with_reducible assumption | with_reducible refine Below.alloc ?_ ?_ _ | with_reducible refine Below.setCell ?_ ?_ _ | with_reducible apply Below.drew | with_reducible apply below_drewN | with_reducible refine below_call ?_ (by with_reducible assumption) ?_) <;> (first | omega | (simp; done) | (simp; omega) | (simp at *; omega)))); have z1 := hb1.size; (try simp at z1); have B1 := B0.keep hb1; have R1 := R0.keep hb1; have B1l := rec_load B1; have B1c := B1.cell; have R1c := R1.cell; have R1f := R1.frozen; clear hb1 B0l)
    refine bodyPost_ret (v := .tuple #[.agg #[.int .i64 0, .int .u64 0, .string ByteArray.empty, .slice none 0 0], .int .i64 4]) (by simp [results, Tryd.results23, go_sem, *] <;> rfl) rfl ?_
    exact ⟨_, _, _, _, _, _, rfl, by ((repeat' first | with_reducible exact Below.refl _ _ | with_reducible assumption | with_reducible refine Below.alloc ?_ ?_ _ | with_reducible refine Below.setCell ?_ ?_ _ | with_reducible apply Below.drew | with_reducible apply below_drewN | with_reducible refine below_call ?_ (by with_reducible assumption) ?_) <;> (first | omega | (simp; done) | (simp; omega) | (simp at *; omega)))⟩
  simp only [recErr] at Hck
  by_cases s0 : a.st = 0
  · obtain rfl : E = 0 := by rw [HE.out]; simp [s0]
    have L0 := Lib.hid (Hl0.out s0)
    have s0' : (a.st == (0 : Int)) = true := by simp [s0]
    clear s0 Hl0 Hl1 Hol
    go_enter Tryd.func23, Tryd.ntmps23
    go_wp2_with (first | (go_at_call 10; (with_reducible refine (Hck.out _ (by ((repeat' first | with_reducible exact Below.refl _ _ | with_reducible assumption | with_reducible refine Below.alloc ?_ ?_ _ | with_reducible refine Below.setCell ?_ ?_ _ | with_reducible apply Below.drew | with_reducible apply below_drewN | with_reducible refine below_call ?_ (by with_reducible assumption) ?_) <;> (first | omega | (simp; done) | (simp; omega) | (simp at *; omega))))).mono ?_); rintro e w1 ⟨rfl, hb1⟩; have k1 : Below w.heap.size w w1 := (by ((repeat' first | with_reducible exact Below.refl _ _ | with_reducible assumption | with_reducible refine Below.alloc ?_ ?_ _ | with_reducible refine Below.setCell ?_ ?_ _ | with_reducible apply Below.drew | with_reducible apply below_drewN | with_reducible refine below_call ?_ (by with_reducible assumption) ?_) <;> (first | omega | (simp; done) | (simp; omega) | (simp at *; omega)))); have z1 := hb1.size; (try simp at z1); have B1 := B0.keep hb1; have R1 := R0.keep hb1; have B1l := rec_load B1; have B1c := B1.cell; have R1c := R1.cell; have R1f := R1.frozen; clear hb1 B0l) | (go_at_call 48; (with_reducible refine (L0.out _ _ _ _ _ _ _).mono ?_); rintro e w2 ⟨A2, c2, rfl, hb2⟩; have z2 := hb2.size; have k2 := below_call k1 hb2 k1.size; have R2 := R1.keep hb2; have R2c := R2.cell; have R2f := R2.frozen; clear B1l B1c R1c R1f))
    refine bodyPost_ret (v := .tuple #[.agg #[.int .i64 2, .int .u64 0, .string ByteArray.empty, .slice A2 5 c2], .int .i64 0]) (by simp [results, Tryd.results23, go_sem, *] <;> rfl) rfl ?_
    exact ⟨_, _, _, _, _, _, rfl, by ((repeat' first | with_reducible exact Below.refl _ _ | with_reducible assumption | with_reducible refine Below.alloc ?_ ?_ _ | with_reducible refine Below.setCell ?_ ?_ _ | with_reducible apply Below.drew | with_reducible apply below_drewN | with_reducible refine below_call ?_ (by with_reducible assumption) ?_) <;> (first | omega | (simp; done) | (simp; omega) | (simp at *; omega)))⟩
  have s0' : (a.st == (0 : Int)) = false := by simp [s0]
  have L1 := Lib.hid (Hl1.out rfl s0)
  by_cases k6 : a.k = 6
  · obtain rfl : E = 17 := by rw [HE.out]; simp [s0, k6]
    have k6' : (a.k == (6 : Int)) = true := by simp [k6]
    clear s0 k6 Hl0 Hl1 Hol L1
    go_enter Tryd.func23, Tryd.ntmps23
    go_wp2_with (go_at_call 10; (with_reducible refine (Hck.out _ (by ((repeat' first | with_reducible exact Below.refl _ _ | with_reducible assumption | with_reducible refine Below.alloc ?_ ?_ _ | with_reducible refine Below.setCell ?_ ?_ _ | with_reducible apply Below.drew | with_reducible apply below_drewN | with_reducible refine below_call ?_ (by with_reducible assumption) ?_) <;> (first | omega | (simp; done) | (simp; omega) | (simp at *; omega))))).mono ?_); rintro e w1 ⟨rfl, hb1⟩; have k1 : Below w.heap.size w w1 := (by ((repeat' first | with_reducible exact Below.refl _ _ | with_reducible assumption | with_reducible refine Below.alloc ?_ ?_ _ | with_reducible refine Below.setCell ?_ ?_ _ | with_reducible apply Below.drew | with_reducible apply below_drewN | with_reducible refine below_call ?_ (by with_reducible assumption) ?_) <;> (first | omega | (simp; done) | (simp; omega) | (simp at *; omega)))); have z1 := hb1.size; (try simp at z1); have B1 := B0.keep hb1; have R1 := R0.keep hb1; have B1l := rec_load B1; have B1c := B1.cell; have R1c := R1.cell; have R1f := R1.frozen; clear hb1 B0l)
    refine bodyPost_ret (v := .tuple #[.agg #[.int .i64 0, .int .u64 0, .string ByteArray.empty, .slice none 0 0], .int .i64 17]) (by simp [results, Tryd.results23, go_sem, *] <;> rfl) rfl ?_
    exact ⟨_, _, _, _, _, _, rfl, by ((repeat' first | with_reducible exact Below.refl _ _ | with_reducible assumption | with_reducible refine Below.alloc ?_ ?_ _ | with_reducible refine Below.setCell ?_ ?_ _ | with_reducible apply Below.drew | with_reducible apply below_drewN | with_reducible refine below_call ?_ (by with_reducible assumption) ?_) <;> (first | omega | (simp; done) | (simp; omega) | (simp at *; omega)))⟩
  have k6' : (a.k == (6 : Int)) = false := by simp [k6]
  obtain rfl : E = o := by rw [HE.out]; simp [s0, k6]
  clear HE Hl0 Hl1 s0 k6
  by_cases o0 : E = 0
  · subst o0
    go_enter Tryd.func23, Tryd.ntmps23
    go_wp2_with (first | (go_at_call 10; (with_reducible refine (Hck.out _ (by ((repeat' first | with_reducible exact Below.refl _ _ | with_reducible assumption | with_reducible refine Below.alloc ?_ ?_ _ | with_reducible refine Below.setCell ?_ ?_ _ | with_reducible apply Below.drew | with_reducible apply below_drewN | with_reducible refine below_call ?_ (by with_reducible assumption) ?_) <;> (first | omega | (simp; done) | (simp; omega) | (simp at *; omega))))).mono ?_); rintro e w1 ⟨rfl, hb1⟩; have k1 : Below w.heap.size w w1 := (by ((repeat' first | with_reducible exact Below.refl _ _ | with_reducible assumption | with_reducible refine Below.alloc ?_ ?_ _ | with_reducible refine Below.setCell ?_ ?_ _ | with_reducible apply Below.drew | with_reducible apply below_drewN | with_reducible refine below_call ?_ (by with_reducible assumption) ?_) <;> (first | omega | (simp; done) | (simp; omega) | (simp at *; omega)))); have z1 := hb1.size; (try simp at z1); have B1 := B0.keep hb1; have R1 := R0.keep hb1; have B1l := rec_load B1; have B1c := B1.cell; have R1c := R1.cell; have R1f := R1.frozen; clear hb1 B0l) | (go_at_call 49; (with_reducible refine (Hol.out _ k1).mono ?_); rintro e w3 ⟨vk, vn, vs, vA, vm, vc, rfl, hb3⟩; have z3 := hb3.size; have k3 := below_call k1 hb3 k1.size; have B3 := B1.keep hb3; have R3 := R1.keep hb3; clear B1l B1c R1c R1f hb3; have B4 := B3.alloc (.cells #[.int .i64 vk, .int .u64 vn, .string vs, .slice vA vm vc] 56); have R4 := R3.alloc (.cells #[.int .i64 vk, .int .u64 vn, .string vs, .slice vA vm vc] 56); have B4l := rec_load B4; have R4c := R4.cell; have R4f := R4.frozen; have k4 : Below w.heap.size w (w3.alloc (.cells #[.int .i64 vk, .int .u64 vn, .string vs, .slice vA vm vc] 56)) := (by ((repeat' first | with_reducible exact Below.refl _ _ | with_reducible assumption | with_reducible refine Below.alloc ?_ ?_ _ | with_reducible refine Below.setCell ?_ ?_ _ | with_reducible apply Below.drew | with_reducible apply below_drewN | with_reducible refine below_call ?_ (by with_reducible assumption) ?_) <;> (first | omega | (simp; done) | (simp; omega) | (simp at *; omega)))); have y4 : w.heap.size + 1 < (w3.alloc (.cells #[.int .i64 vk, .int .u64 vn, .string vs, .slice vA vm vc] 56)).heap.size := (by simp; omega)) | (go_at_call 48; (with_reducible refine (L1.out _ _ _ _ _ _ _).mono ?_); rintro e w2 ⟨A2, c2, rfl, hb2⟩; have z2 := hb2.size; have k2 := below_call k4 hb2 k4.size; have R2 := R4.keep hb2; have R2c := R2.cell; have R2f := R2.frozen; clear B4l R4c R4f))
    refine bodyPost_ret (v := .tuple #[.agg #[.int .i64 2, .int .u64 0, .string ByteArray.empty, .slice A2 7 c2], .int .i64 0]) (by simp [results, Tryd.results23, go_sem, *] <;> rfl) rfl ?_
    exact ⟨_, _, _, _, _, _, rfl, by ((repeat' first | with_reducible exact Below.refl _ _ | with_reducible assumption | with_reducible refine Below.alloc ?_ ?_ _ | with_reducible refine Below.setCell ?_ ?_ _ | with_reducible apply Below.drew | with_reducible apply below_drewN | with_reducible refine below_call ?_ (by with_reducible assumption) ?_) <;> (first | omega | (simp; done) | (simp; omega) | (simp at *; omega)))⟩
  · have o0' : (E != (0 : Int)) = true := by simp [o0]
    go_enter Tryd.func23, Tryd.ntmps23
    go_wp2_with (first | (go_at_call 10; (with_reducible refine (Hck.out _ (by ((repeat' first | with_reducible exact Below.refl _ _ | with_reducible assumption | with_reducible refine Below.alloc ?_ ?_ _ | with_reducible refine Below.setCell ?_ ?_ _ | with_reducible apply Below.drew | with_reducible apply below_drewN | with_reducible refine below_call ?_ (by with_reducible assumption) ?_) <;> (first | omega | (simp; done) | (simp; omega) | (simp at *; omega))))).mono ?_); rintro e w1 ⟨rfl, hb1⟩; have k1 : Below w.heap.size w w1 := (by ((repeat' first | with_reducible exact Below.refl _ _ | with_reducible assumption | with_reducible refine Below.alloc ?_ ?_ _ | with_reducible refine Below.setCell ?_ ?_ _ | with_reducible apply Below.drew | with_reducible apply below_drewN | with_reducible refine below_call ?_ (by with_reducible assumption) ?_) <;> (first | omega | (simp; done) | (simp; omega) | (simp at *; omega)))); have z1 := hb1.size; (try simp at z1); have B1 := B0.keep hb1; have R1 := R0.keep hb1; have B1l := rec_load B1; have B1c := B1.cell; have R1c := R1.cell; have R1f := R1.frozen; clear hb1 B0l) | (go_at_call 49; (with_reducible refine (Hol.out _ k1).mono ?_); rintro e w3 ⟨vk, vn, vs, vA, vm, vc, rfl, hb3⟩; have z3 := hb3.size; have k3 := below_call k1 hb3 k1.size; have B3 := B1.keep hb3; have R3 := R1.keep hb3; clear B1l B1c R1c R1f hb3; have B4 := B3.alloc (.cells #[.int .i64 vk, .int .u64 vn, .string vs, .slice vA vm vc] 56); have R4 := R3.alloc (.cells #[.int .i64 vk, .int .u64 vn, .string vs, .slice vA vm vc] 56); have B4l := rec_load B4; have R4c := R4.cell; have R4f := R4.frozen; have k4 : Below w.heap.size w (w3.alloc (.cells #[.int .i64 vk, .int .u64 vn, .string vs, .slice vA vm vc] 56)) := (by ((repeat' first | with_reducible exact Below.refl _ _ | with_reducible assumption | with_reducible refine Below.alloc ?_ ?_ _ | with_reducible refine Below.setCell ?_ ?_ _ | with_reducible apply Below.drew | with_reducible apply below_drewN | with_reducible refine below_call ?_ (by with_reducible assumption) ?_) <;> (first | omega | (simp; done) | (simp; omega) | (simp at *; omega)))); have y4 : w.heap.size + 1 < (w3.alloc (.cells #[.int .i64 vk, .int .u64 vn, .string vs, .slice vA vm vc] 56)).heap.size := (by simp; omega)))
    refine bodyPost_ret (v := .tuple #[.agg #[.int .i64 0, .int .u64 0, .string ByteArray.empty, .slice none 0 0], .int .i64 E]) (by simp [results, Tryd.results23, go_sem, *] <;> rfl) rfl ?_
    exact ⟨_, _, _, _, _, _, rfl, by ((repeat' first | with_reducible exact Below.refl _ _ | with_reducible assumption | with_reducible refine Below.alloc ?_ ?_ _ | with_reducible refine Below.setCell ?_ ?_ _ | with_reducible apply Below.drew | with_reducible apply below_drewN | with_reducible refine below_call ?_ (by with_reducible assumption) ?_) <;> (first | omega | (simp; done) | (simp; omega) | (simp at *; omega)))⟩
end Go.Proofs.YtmgiholmhhjpaaaDoor
