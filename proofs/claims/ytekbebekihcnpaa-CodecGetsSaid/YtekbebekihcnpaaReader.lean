/- The reader of bytes: what its two cells hold; how it moves on. The walks of its methods number and room. -/
import Derived.Test.YtekbebekihcnpaaCodecG
import Derived.Test.YtekbebekihcnpaaTreeD
import Derived.Test.YtekbebekihcnpaaNumB
import Derived.Laws.BytesArg
import Derived.Laws.IdiomStrings
namespace Go.Proofs.Ytekbebekihcnpaa
open Go.RowKit
set_option linter.unusedVariables false
set_option linter.unusedSimpArgs false
set_option maxRecDepth 20000
attribute [local go_sem ↓] Go.wp_at_zero Go.wp_at_succ
attribute [local go_sem] World.cell?_alloc_some frozen_alloc_some
attribute [local go_sem] lt2 lt3 lt4 lt5
attribute [local simp] lt2 lt3 lt4 lt5

theorem add_block (a : Addr) (i : Nat) : (a.add i).block = a.block := by
  unfold Addr.add; split <;> rfl
theorem conv_bytes {w : World} {A : Option Addr} {n : Nat} {l : List Nat} (hb : Bytes w A n l) (c : Nat) :
    (convert 28 9 (.slice A n c)).run Try.prog w = .ok (.string (ofBytes l)) w := by
  have hl := hb.1
  cases A with
  | none =>
    have h0 : l = [] := by
      cases l with
      | nil => rfl
      | cons x l =>
        obtain ⟨_, ad, e, _⟩ := hb.2.2 0 x rfl
        cases e
    subst h0
    rw [run_convert_bytes_nil (P := Try.prog) w 28 5 Try.underlying28 Try.underlying5 n c 9 Try.underlying9]
    rfl
  | some ad =>
    have key := run_convert_bytes_back (P := Try.prog) w 28 9 5 ad c (l.map fun c => UInt8.ofNat c) Try.underlying28 Try.underlying5 Try.underlying9 (fun j hj => by
      have hj' : j < l.length := by simpa using hj
      obtain ⟨hlt, ad', e, hc⟩ := hb.2.2 j l[j] (List.getElem?_eq_getElem hj')
      cases e
      rw [hc]
      simp [Nat.mod_eq_of_lt hlt])
    rw [List.length_map, ← hl] at key
    exact key

/-- The reader in block g: the bytes L, and how far it is. -/
structure RD (w : World) (g : Nat) (A : Option Addr) (n cap : Nat) (L : List Nat) (a : Nat) : Prop where
  blk : Blk w g 69 #[.slice A n cap, .int .i64 (a : Int)]
  bytes : Bytes w A n L
  apart : 0 < n → ∀ ad, A = some ad → ad.block ≠ g
  le : n ≤ cap
  max : cap ≤ maxLen
  at_ : a ≤ n
theorem Bytes.grown {w w' : World} {A : Option Addr} {n : Nat} {L : List Nat} {g : Nat} (h : Bytes w A n L) (hg : w.grownBy w' (some g)) (hA : 0 < n → ∀ ad, A = some ad → ad.block ≠ g) : Bytes w' A n L :=
  ⟨h.1, h.2.1, fun i c hi => by
    obtain ⟨h1, ad, e, hc⟩ := h.2.2 i c hi
    refine ⟨h1, ad, e, ?_⟩
    rw [← hc]
    have hlt : (ad.add i).block < w.heap.size := World.block_lt_of_cell? _ _ hc
    rw [add_block] at hlt
    exact World.cell?_of_block (w := w) (by rw [add_block]; exact hg.block _ hlt fun e2 => by injection e2 with e2; exact hA (by have := h.1; have := (List.getElem?_eq_some_iff.1 hi).1; omega) ad e e2)⟩
theorem RD.below {w w' : World} {g : Nat} {A : Option Addr} {n cap : Nat} {L : List Nat} {a : Nat} (h : RD w g A n cap L a) (hb : Below w.heap.size w w') : RD w' g A n cap L a :=
  ⟨h.blk.keep hb, h.bytes.keep hb, h.apart, h.le, h.max, h.at_⟩
/-- It has moved on. -/
structure Moved (w : World) (g : Nat) (A : Option Addr) (n cap : Nat) (w' : World) (a : Nat) : Prop where
  grown : w.grownBy w' (some g)
  blk : Blk w' g 69 #[.slice A n cap, .int .i64 (a : Int)]
  le : a ≤ n
theorem RD.moved {w w' : World} {g : Nat} {A : Option Addr} {n cap : Nat} {L : List Nat} {a a' : Nat} (h : RD w g A n cap L a) (hm : Moved w g A n cap w' a') : RD w' g A n cap L a' :=
  ⟨hm.blk, h.bytes.grown hm.grown h.apart, h.apart, h.le, h.max, hm.le⟩
theorem grown_same {a b c : World} {g : Nat} (h : a.grownBy b (some g)) (k : b.grownBy c (some g)) : a.grownBy c (some g) := grown_trans' h k (.inl rfl)
theorem grown_below {a b c : World} {g : Nat} (h : a.grownBy b (some g)) (k : Below b.heap.size b c) : a.grownBy c (some g) := grown_trans' h (grown_of_below k (some g)) (.inl rfl)
theorem below_grown {a b c : World} {g : Nat} (h : Below a.heap.size a b) (k : b.grownBy c (some g)) : a.grownBy c (some g) := grown_trans' (grown_of_below h (some g)) k (.inl rfl)
theorem Moved.trans {w w1 w2 : World} {g : Nat} {A : Option Addr} {n cap : Nat} {a1 a2 : Nat} (h : Moved w g A n cap w1 a1) (k : Moved w1 g A n cap w2 a2) : Moved w g A n cap w2 a2 := ⟨grown_same h.grown k.grown, k.blk, k.le⟩
theorem Moved.below {w w1 w2 : World} {g : Nat} {A : Option Addr} {n cap : Nat} {a1 : Nat} (h : Moved w g A n cap w1 a1) (hb : Below w1.heap.size w1 w2) : Moved w g A n cap w2 a1 := ⟨grown_below h.grown hb, h.blk.keep hb, h.le⟩
theorem grown_set {w w1 : World} {g i : Nat} {u : Value} (h : w.grownBy w1 (some g)) : w.grownBy (w1.setCell ⟨g, i, none⟩ u) (some g) :=
  ⟨h.os, h.tape, h.output, by simpa using h.size, fun k hk hne => by
    rw [Below.heap_setCell w1 ⟨g, i, none⟩ u k (fun e => hne (by rw [e]))]
    exact h.block k hk hne⟩
/-- The place is stored anew. -/
theorem RD.store {w w1 : World} {g : Nat} {A : Option Addr} {n cap : Nat} {L : List Nat} {a a' : Nat} (h : RD w g A n cap L a) (hb : Below w.heap.size w w1) (ha : a' ≤ n) : Moved w g A n cap (w1.setCell ⟨g, 1, none⟩ (.int .i64 (a' : Int))) a' :=
  ⟨grown_set (grown_of_below hb (some g)), by have := (h.blk.keep hb).set_ 1 (.int .i64 (a' : Int)); simpa using this, ha⟩
theorem Moved.store {w w1 w2 : World} {g : Nat} {A : Option Addr} {n cap : Nat} {a a' : Nat} (h : Moved w g A n cap w1 a) (hb : Below w1.heap.size w1 w2) (ha : a' ≤ n) : Moved w g A n cap (w2.setCell ⟨g, 1, none⟩ (.int .i64 (a' : Int))) a' :=
  ⟨grown_set (grown_below h.grown hb), by have := (h.blk.keep hb).set_ 1 (.int .i64 (a' : Int)); simpa using this, ha⟩

/-- What number gives: the number at the place, and the reader has moved on; or it panics. -/
def Numbered (w : World) (g : Nat) (A : Option Addr) (n cap : Nat) (a : Nat) (x : Nat × Nat × Nat) (r : Ending) (w' : World) : Prop :=
  (x.2.2 = 0 ∧ r = .returned (.int .u64 (x.1 : Int)) ∧ Moved w g A n cap w' (a + x.2.1)) ∨ (x.2.2 ≠ 0 ∧ r = .panicked (goes x.2.2 a) ∧ w.grownBy w' (some g))
set_option maxHeartbeats 4000000 in
theorem number_any (g : Nat) (A : Option Addr) (n cap : Nat) (L : List Nat) (a : Nat) (w : World) (h : RD w g A n cap L a) :
    Calls Try.prog 49 #[.pointer (some ⟨g, 0, none⟩)] w (Numbered w g A n cap a (ntake (L.drop a))) := by
  have Hrd := Lib.hid h
  have c0 : w.cell? ⟨g, 0, none⟩ = some (.slice A n cap) := by rw [h.blk.cell]; rfl
  have c1 : w.cell? ⟨g, 1, none⟩ = some (.int .i64 (a : Int)) := by rw [h.blk.cell]; rfl
  have f1 : w.frozen? ⟨g, 1, none⟩ = false := h.blk.frozen 1
  have han := h.at_
  have hnc := h.le
  have hcm := h.max
  have hB := h.bytes.cutFrom (k := a) (cap := cap) h.at_ h.le
  have hln := h.bytes.1
  have hle := ntake_le (L.drop a)
  rw [List.length_drop, ← hln] at hle
  obtain ⟨B2, hB2⟩ : ∃ B2, (if cap = a then A else Option.map (fun x => x.add a) A) = B2 := ⟨_, rfl⟩
  rw [hB2] at hB
  have htk : ∀ W, Below w.heap.size w W → Calls Try.prog 47 #[.slice B2 (n - a) (cap - a)] W (Gives W (takeV (L.drop a))) := fun W hb => take_any B2 (n - a) (cap - a) (L.drop a) W (hB.keep hb)
  unfold takeV at htk
  unfold maxLen at hcm
  have herr := ntake_errs (L.drop a)
  generalize ntake (L.drop a) = x at *
  obtain ⟨v, m, e⟩ := x
  simp only at htk hle herr ⊢
  clear h hB hln
  by_cases he : e = 0
  · subst he
    clear herr
    go_enter Try.func49, Try.ntmps49
    go_wp2_with fail
    go_region_held3 (fun w' => Below w.heap.size w w' ∧ w'.cell? ⟨g, 0, none⟩ = some (.slice A n cap) ∧ w'.cell? ⟨g, 1, none⟩ = some (.int .i64 (a : Int)) ∧ w'.frozen? ⟨g, 1, none⟩ = false) ((go_split_ands; (repeat' apply And.intro) <;> (try simp only [World.cell?_drew, World.frozen?_drew]) <;> (first | with_reducible assumption | (exact cell_keep (by with_reducible assumption) (by with_reducible assumption)) | (exact frozen_keep (by with_reducible assumption) (by with_reducible assumption) (by with_reducible assumption)) | ((repeat' first | with_reducible exact Below.refl _ _ | with_reducible assumption | with_reducible refine Below.alloc ?_ ?_ _ | with_reducible refine Below.setCell ?_ ?_ _ | with_reducible apply Below.drew | with_reducible apply below_drewN | with_reducible refine below_call ?_ (by with_reducible assumption) ?_) <;> (first | omega | (simp; done) | (simp; omega) | (simp at *; omega)))))) ((go_at_call 47; (with_reducible refine (htk _ ?hbel).mono ?_); (case hbel => (go_split_ands; ((repeat' first | with_reducible exact Below.refl _ _ | with_reducible assumption | with_reducible refine Below.alloc ?_ ?_ _ | with_reducible refine Below.setCell ?_ ?_ _ | with_reducible apply Below.drew | with_reducible apply below_drewN | with_reducible refine below_call ?_ (by with_reducible assumption) ?_) <;> (first | omega | (simp; done) | (simp; omega) | (simp at *; omega))))); rintro e w1 ⟨rfl, hbw1⟩; have hzw1 := hbw1.size; (try simp at hzw1)))
    all_goals
      go_split_ands
      go_wp2_with fail
      go_ret
      refine .inl ⟨rfl, rfl, ?_⟩
      have := Hrd.out.store (w1 := w1) (a' := a + m) (by assumption) (by omega)
      simpa using this
  · have he' : ((e : Int) != 0) = true := by simp; omega
    go_enter Try.func49, Try.ntmps49
    go_wp2_with fail
    go_region_held3 (fun w' => Below w.heap.size w w' ∧ w'.cell? ⟨g, 0, none⟩ = some (.slice A n cap) ∧ w'.cell? ⟨g, 1, none⟩ = some (.int .i64 (a : Int)) ∧ w'.frozen? ⟨g, 1, none⟩ = false) ((go_split_ands; (repeat' apply And.intro) <;> (try simp only [World.cell?_drew, World.frozen?_drew]) <;> (first | with_reducible assumption | (exact cell_keep (by with_reducible assumption) (by with_reducible assumption)) | (exact frozen_keep (by with_reducible assumption) (by with_reducible assumption) (by with_reducible assumption)) | ((repeat' first | with_reducible exact Below.refl _ _ | with_reducible assumption | with_reducible refine Below.alloc ?_ ?_ _ | with_reducible refine Below.setCell ?_ ?_ _ | with_reducible apply Below.drew | with_reducible apply below_drewN | with_reducible refine below_call ?_ (by with_reducible assumption) ?_) <;> (first | omega | (simp; done) | (simp; omega) | (simp at *; omega)))))) ((go_at_call 47; (with_reducible refine (htk _ ?hbel).mono ?_); (case hbel => (go_split_ands; ((repeat' first | with_reducible exact Below.refl _ _ | with_reducible assumption | with_reducible refine Below.alloc ?_ ?_ _ | with_reducible refine Below.setCell ?_ ?_ _ | with_reducible apply Below.drew | with_reducible apply below_drewN | with_reducible refine below_call ?_ (by with_reducible assumption) ?_) <;> (first | omega | (simp; done) | (simp; omega) | (simp at *; omega))))); rintro e w1 ⟨rfl, hbw1⟩; have hzw1 := hbw1.size; (try simp at hzw1)))
    all_goals
      go_split_ands
      go_wp2_with fail
      exact ⟨rfl, .inr ⟨he, rfl, grown_of_below (by assumption) _⟩⟩

/-- What room gives: a number that is at most how many bytes are left. -/
def Roomed (w : World) (g : Nat) (A : Option Addr) (n cap : Nat) (a : Nat) (x : Nat × Nat × Nat) (r : Ending) (w' : World) : Prop :=
  (x.2.2 = 0 ∧ x.1 ≤ n - (a + x.2.1) ∧ r = .returned (.int .i64 (x.1 : Int)) ∧ Moved w g A n cap w' (a + x.2.1)) ∨
  (x.2.2 = 0 ∧ n - (a + x.2.1) < x.1 ∧ r = .panicked (goes 2 (a + x.2.1)) ∧ w.grownBy w' (some g)) ∨
  (x.2.2 ≠ 0 ∧ r = .panicked (goes x.2.2 a) ∧ w.grownBy w' (some g))
set_option maxHeartbeats 4000000 in
theorem room_any (g : Nat) (A : Option Addr) (n cap : Nat) (L : List Nat) (a : Nat) (w : World) (h : RD w g A n cap L a) :
    Calls Try.prog 50 #[.pointer (some ⟨g, 0, none⟩)] w (Roomed w g A n cap a (ntake (L.drop a))) := by
  have hnum := number_any g A n cap L a w h
  have hnc := h.le
  have hcm := h.max
  have hnt : (ntake (L.drop a)).2.2 = 0 → (ntake (L.drop a)).1 < 2 ^ 64 := fun he => (ntake_back (fun c hc => h.bytes.lt c (List.mem_of_mem_drop hc)) he).2.2.2
  unfold maxLen at hcm
  generalize ntake (L.drop a) = x at *
  obtain ⟨v, m, e⟩ := x
  simp only at hnt
  clear h
  go_enter Try.func50, Try.ntmps50
  go_wp2_with fail
  refine hnum.mono ?_
  rintro r w1 (⟨he, rfl, hmv⟩ | ⟨he, rfl, hgr⟩)
  · simp only at he
    subst he
    have hv := hnt rfl
    have c0 : w1.cell? ⟨g, 0, none⟩ = some (.slice A n cap) := by rw [hmv.blk.cell]; rfl
    have c1 : w1.cell? ⟨g, 1, none⟩ = some (.int .i64 ((a + m : Nat) : Int)) := by rw [hmv.blk.cell]; rfl
    have hb := hmv.le
    have Hmv := Lib.hid hmv
    simp only at hb c1 ⊢
    obtain ⟨b, hbb⟩ : ∃ b, b = a + m := ⟨_, rfl⟩
    have Hbb := Lib.hid hbb
    rw [← hbb] at hb c1
    clear hbb hmv hnum hnt
    have hw0 : IntKind.i64.wrap ((n : Int) - (b : Int)) = ((n - b : Nat) : Int) := by rw [IntWalk.i64_in _ (by omega)]; omega
    have hw1 : IntKind.u64.wrap ((n - b : Nat) : Int) = ((n - b : Nat) : Int) := by rw [wrap_u64]; omega
    go_wp2_with fail
    go_region_held3 (fun w' => Below w1.heap.size w1 w' ∧ w'.cell? ⟨g, 0, none⟩ = some (.slice A n cap) ∧ w'.cell? ⟨g, 1, none⟩ = some (.int .i64 (b : Int))) ((go_split_ands; (repeat' apply And.intro) <;> (try simp only [World.cell?_drew, World.frozen?_drew]) <;> (first | with_reducible assumption | (exact cell_keep (by with_reducible assumption) (by with_reducible assumption)) | (exact frozen_keep (by with_reducible assumption) (by with_reducible assumption) (by with_reducible assumption)) | ((repeat' first | with_reducible exact Below.refl _ _ | with_reducible assumption | with_reducible refine Below.alloc ?_ ?_ _ | with_reducible refine Below.setCell ?_ ?_ _ | with_reducible apply Below.drew | with_reducible apply below_drewN | with_reducible refine below_call ?_ (by with_reducible assumption) ?_) <;> (first | omega | (simp; done) | (simp; omega) | (simp at *; omega)))))) (fail)
    all_goals
      go_split_ands
      by_cases hfit : v ≤ n - b
      · have hf2 : ¬ ((n - b : Nat) : Int) < (v : Int) := by omega
        have hf3 : IntKind.i64.wrap (v : Int) = (v : Int) := IntWalk.i64_in _ (by omega)
        have hf4 : wrap64 (v : Int) = (v : Int) := by simp only [wrap64]; omega
        go_wp2_with fail
        go_ret
        exact .inl ⟨rfl, by rw [← Hbb.out]; exact hfit, rfl, Hmv.out.below (by assumption)⟩
      · have hf2 : ((n - b : Nat) : Int) < (v : Int) := by omega
        go_wp2_with fail
        exact ⟨rfl, .inr (.inl ⟨rfl, by rw [← Hbb.out]; simp only; omega, by rw [← Hbb.out]; rfl, grown_below Hmv.out.grown (by assumption)⟩)⟩
  · exact ⟨rfl, .inr (.inr ⟨he, rfl, hgr⟩)⟩
end Go.Proofs.Ytekbebekihcnpaa
