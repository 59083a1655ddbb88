/- The reader of bytes: what its two cells hold; how it moves on. The walks of its methods number and room. The walk of codec.plain: a value of type any as an item. -/
import Derived.Test.YtlolnakeancenaaDoorMsgFramesQ9
import Derived.Test.YtlolnakeancenaaDoorMsgFramesQ1
import Derived.Test.YtlolnakeancenaaDoorMsgFramesQ11
import Derived.Laws.BytesArg
import Derived.Laws.IdiomStrings
import Derived.Deep.RegionLaw
namespace Go.Proofs.YtlolnakeancenaaDoor
open Go.RowKit
set_option linter.unusedVariables false
set_option linter.unusedSimpArgs false
set_option maxRecDepth 20000
attribute [local go_sem ↓] Go.wp_at_zero Go.wp_at_succ
attribute [local go_sem] World.cell?_alloc_some frozen_alloc_some
attribute [local go_sem] lt2 lt3 lt4 lt5
attribute [local simp] lt2 lt3 lt4 lt5

theorem add_block (a : Addr) (i : Nat) : (a.add i).block = a.block := by
 unfold Addr.add; split <;> rfl
theorem conv_bytes {w : World} {A : Option Addr} {n : Nat} {l : List Nat} (hb : Bytes w A n l) (c : Nat) :
  (convert 28 9 (.slice A n c)).run Tryd.prog w = .ok (.string (ofBytes l)) w := by
 have hl := hb.1
 cases A with
 | none =>
  have h0 : l = [] := by
   cases l with
   | nil => rfl
   | cons x l =>
    obtain ⟨_, ad, e, _⟩ := hb.2.2 0 x rfl
    cases e
  subst h0
  rw [run_convert_bytes_nil (P := Tryd.prog) w 28 5 Tryd.underlying28 Tryd.underlying5 n c 9 Tryd.underlying9]
  rfl
 | some ad =>
  have key := run_convert_bytes_back (P := Tryd.prog) w 28 9 5 ad c (l.map fun c => UInt8.ofNat c) Tryd.underlying28 Tryd.underlying5 Tryd.underlying9 (fun j hj => by
   have hj' : j < l.length := by simpa using hj
   obtain ⟨hlt, ad', e, hc⟩ := hb.2.2 j l[j] (List.getElem?_eq_getElem hj')
   cases e
   rw [hc]
   simp [Nat.mod_eq_of_lt hlt])
  rw [List.length_map, ← hl] at key
  exact key

/-- The reader in block g: the bytes L, and how far it is. -/
structure RD (w : World) (g : Nat) (A : Option Addr) (n cap : Nat) (L : List Nat) (a : Nat) : Prop where
 blk : Blk w g 93 #[.slice A n cap, .int .i64 (a : Int)]
 bytes : Bytes w A n L
 apart : 0 < n → ∀ ad, A = some ad → ad.block ≠ g
 le : n ≤ cap
 max : cap ≤ maxLen
 at_ : a ≤ n
theorem Bytes.grown {w w' : World} {A : Option Addr} {n : Nat} {L : List Nat} {g : Nat} (h : Bytes w A n L) (hg : w.grownBy w' (some g)) (hA : 0 < n → ∀ ad, A = some ad → ad.block ≠ g) : Bytes w' A n L :=
 ⟨h.1, h.2.1, fun i c hi => by
  obtain ⟨h1, ad, e, hc⟩ := h.2.2 i c hi
  refine ⟨h1, ad, e, ?_⟩
  rw [← hc]
  have hlt : (ad.add i).block < w.heap.size := World.block_lt_of_cell? _ _ hc
  rw [add_block] at hlt
  exact World.cell?_of_block (w := w) (by rw [add_block]; exact hg.block _ hlt fun e2 => by injection e2 with e2; exact hA (by have := h.1; have := (List.getElem?_eq_some_iff.1 hi).1; omega) ad e e2)⟩
theorem RD.below {w w' : World} {g : Nat} {A : Option Addr} {n cap : Nat} {L : List Nat} {a : Nat} (h : RD w g A n cap L a) (hb : Below w.heap.size w w') : RD w' g A n cap L a :=
 ⟨h.blk.keep hb, h.bytes.keep hb, h.apart, h.le, h.max, h.at_⟩
/-- It has moved on. -/
structure Moved (w : World) (g : Nat) (A : Option Addr) (n cap : Nat) (w' : World) (a : Nat) : Prop where
 grown : w.grownBy w' (some g)
 blk : Blk w' g 93 #[.slice A n cap, .int .i64 (a : Int)]
 le : a ≤ n
theorem RD.moved {w w' : World} {g : Nat} {A : Option Addr} {n cap : Nat} {L : List Nat} {a a' : Nat} (h : RD w g A n cap L a) (hm : Moved w g A n cap w' a') : RD w' g A n cap L a' :=
 ⟨hm.blk, h.bytes.grown hm.grown h.apart, h.apart, h.le, h.max, hm.le⟩
theorem grown_same {a b c : World} {g : Nat} (h : a.grownBy b (some g)) (k : b.grownBy c (some g)) : a.grownBy c (some g) := grown_trans' h k (.inl rfl)
theorem grown_below {a b c : World} {g : Nat} (h : a.grownBy b (some g)) (k : Below b.heap.size b c) : a.grownBy c (some g) := grown_trans' h (grown_of_below k (some g)) (.inl rfl)
theorem Moved.trans {w w1 w2 : World} {g : Nat} {A : Option Addr} {n cap : Nat} {a1 a2 : Nat} (h : Moved w g A n cap w1 a1) (k : Moved w1 g A n cap w2 a2) : Moved w g A n cap w2 a2 := ⟨grown_same h.grown k.grown, k.blk, k.le⟩
theorem Moved.below {w w1 w2 : World} {g : Nat} {A : Option Addr} {n cap : Nat} {a1 : Nat} (h : Moved w g A n cap w1 a1) (hb : Below w1.heap.size w1 w2) : Moved w g A n cap w2 a1 := ⟨grown_below h.grown hb, h.blk.keep hb, h.le⟩
theorem grown_set {w w1 : World} {g i : Nat} {u : Value} (h : w.grownBy w1 (some g)) : w.grownBy (w1.setCell ⟨g, i, none⟩ u) (some g) :=
 ⟨h.os, h.tape, h.output, by simpa using h.size, fun k hk hne => by
  rw [Below.heap_setCell w1 ⟨g, i, none⟩ u k (fun e => hne (by rw [e]))]
  exact h.block k hk hne⟩
/-- The place is stored anew. -/
theorem RD.store {w w1 : World} {g : Nat} {A : Option Addr} {n cap : Nat} {L : List Nat} {a a' : Nat} (h : RD w g A n cap L a) (hb : Below w.heap.size w w1) (ha : a' ≤ n) : Moved w g A n cap (w1.setCell ⟨g, 1, none⟩ (.int .i64 (a' : Int))) a' :=
 ⟨grown_set (grown_of_below hb (some g)), by have := (h.blk.keep hb).set_ 1 (.int .i64 (a' : Int)); simpa using this, ha⟩
theorem Moved.store {w w1 w2 : World} {g : Nat} {A : Option Addr} {n cap : Nat} {a a' : Nat} (h : Moved w g A n cap w1 a) (hb : Below w1.heap.size w1 w2) (ha : a' ≤ n) : Moved w g A n cap (w2.setCell ⟨g, 1, none⟩ (.int .i64 (a' : Int))) a' :=
 ⟨grown_set (grown_below h.grown hb), by have := (h.blk.keep hb).set_ 1 (.int .i64 (a' : Int)); simpa using this, ha⟩

/-- What number gives: the number at the place, and the reader has moved on; or it panics. -/
def Numbered (w : World) (g : Nat) (A : Option Addr) (n cap : Nat) (a : Nat) (x : Nat × Nat × Nat) (r : Ending) (w' : World) : Prop :=
 (x.2.2 = 0 ∧ r = .returned (.int .u64 (x.1 : Int)) ∧ Moved w g A n cap w' (a + x.2.1)) ∨ (x.2.2 ≠ 0 ∧ r = .panicked (goes x.2.2 a) ∧ w.grownBy w' (some g))
set_option maxHeartbeats 4000000 in
theorem number_any (g : Nat) (A : Option Addr) (n cap : Nat) (L : List Nat) (a : Nat) (w : World) (h : RD w g A n cap L a) :
  Calls Tryd.prog 75 #[.pointer (some ⟨g, 0, none⟩)] w (Numbered w g A n cap a (ntake (L.drop a))) := by
 have Hrd := Lib.hid h
 have c0 : w.cell? ⟨g, 0, none⟩ = some (.slice A n cap) := by rw [h.blk.cell]; rfl
 have c1 : w.cell? ⟨g, 1, none⟩ = some (.int .i64 (a : Int)) := by rw [h.blk.cell]; rfl
 have f1 : w.frozen? ⟨g, 1, none⟩ = false := h.blk.frozen 1
 have han := h.at_
 have hnc := h.le
 have hcm := h.max
 have hB := h.bytes.cutFrom (k := a) (cap := cap) h.at_ h.le
 have hln := h.bytes.1
 have hle := ntake_le (L.drop a)
 rw [List.length_drop, ← hln] at hle
 obtain ⟨B2, hB2⟩ : ∃ B2, (if cap = a then A else Option.map (fun x => x.add a) A) = B2 := ⟨_, rfl⟩
 rw [hB2] at hB
 have htk : ∀ W, Below w.heap.size w W → Calls Tryd.prog 98 #[.slice B2 (n - a) (cap - a)] W (Gives W (takeV (L.drop a))) := fun W hb => take_any B2 (n - a) (cap - a) (L.drop a) W (hB.keep hb)
 unfold takeV at htk
 unfold maxLen at hcm
 have herr := ntake_errs (L.drop a)
 generalize ntake (L.drop a) = x at *
 obtain ⟨v, m, e⟩ := x
 simp only at htk hle herr ⊢
 clear h hB hln
 by_cases he : e = 0
 ·subst he
  clear herr
  go_enter Tryd.func75, Tryd.ntmps75
  go_wp2_with fail
  go_region_held3 (fun w' => Below w.heap.size w w' ∧ w'.cell? ⟨g, 0, none⟩ = some (.slice A n cap) ∧ w'.cell? ⟨g, 1, none⟩ = some (.int .i64 (a : Int)) ∧ w'.frozen? ⟨g, 1, none⟩ = false) ((go_split_ands; (repeat' apply And.intro) <;> (try simp only [World.cell?_drew, World.frozen?_drew]) <;> (first | with_reducible assumption | (exact cell_keep (by with_reducible assumption) (by with_reducible assumption)) | (exact frozen_keep (by with_reducible assumption) (by with_reducible assumption) (by with_reducible assumption)) | exact blw))) ((go_at_call 98; (with_reducible refine (htk _ ?hbel).mono ?_); (case hbel => (go_split_ands; exact blw)); rintro e w1 ⟨rfl, hbw1⟩; have hzw1 := hbw1.size; (try simp at hzw1)))
  all_goals
   go_split_ands
   go_wp2_with fail
   go_ret
   refine .inl ⟨rfl, rfl, ?_⟩
   have := Hrd.out.store (w1 := w1) (a' := a + m) (by assumption) (by omega)
   simpa using this
 ·have he' : ((e : Int) != 0) = true := by simp; omega
  go_enter Tryd.func75, Tryd.ntmps75
  go_wp2_with fail
  go_region_held3 (fun w' => Below w.heap.size w w' ∧ w'.cell? ⟨g, 0, none⟩ = some (.slice A n cap) ∧ w'.cell? ⟨g, 1, none⟩ = some (.int .i64 (a : Int)) ∧ w'.frozen? ⟨g, 1, none⟩ = false) ((go_split_ands; (repeat' apply And.intro) <;> (try simp only [World.cell?_drew, World.frozen?_drew]) <;> (first | with_reducible assumption | (exact cell_keep (by with_reducible assumption) (by with_reducible assumption)) | (exact frozen_keep (by with_reducible assumption) (by with_reducible assumption) (by with_reducible assumption)) | exact blw))) ((go_at_call 98; (with_reducible refine (htk _ ?hbel).mono ?_); (case hbel => (go_split_ands; exact blw)); rintro e w1 ⟨rfl, hbw1⟩; have hzw1 := hbw1.size; (try simp at hzw1)))
  all_goals
   go_split_ands
   go_wp2_with fail
   exact ⟨rfl, .inr ⟨he, rfl, grown_of_below (by assumption) _⟩⟩

/-- What room gives: a number that is at most how many bytes are left. -/
def Roomed (w : World) (g : Nat) (A : Option Addr) (n cap : Nat) (a : Nat) (x : Nat × Nat × Nat) (r : Ending) (w' : World) : Prop :=
 (x.2.2 = 0 ∧ x.1 ≤ n - (a + x.2.1) ∧ r = .returned (.int .i64 (x.1 : Int)) ∧ Moved w g A n cap w' (a + x.2.1)) ∨
 (x.2.2 = 0 ∧ n - (a + x.2.1) < x.1 ∧ r = .panicked (goes 2 (a + x.2.1)) ∧ w.grownBy w' (some g)) ∨
 (x.2.2 ≠ 0 ∧ r = .panicked (goes x.2.2 a) ∧ w.grownBy w' (some g))
set_option maxHeartbeats 4000000 in
theorem room_any (g : Nat) (A : Option Addr) (n cap : Nat) (L : List Nat) (a : Nat) (w : World) (h : RD w g A n cap L a) :
  Calls Tryd.prog 76 #[.pointer (some ⟨g, 0, none⟩)] w (Roomed w g A n cap a (ntake (L.drop a))) := by
 have hnum := number_any g A n cap L a w h
 have hnc := h.le
 have hcm := h.max
 have hnt : (ntake (L.drop a)).2.2 = 0 → (ntake (L.drop a)).1 < 2 ^ 64 := fun he => (ntake_back (fun c hc => h.bytes.lt c (List.mem_of_mem_drop hc)) he).2.2.2
 unfold maxLen at hcm
 generalize ntake (L.drop a) = x at *
 obtain ⟨v, m, e⟩ := x
 simp only at hnt
 clear h
 go_enter Tryd.func76, Tryd.ntmps76
 go_wp2_with fail
 refine hnum.mono ?_
 rintro r w1 (⟨he, rfl, hmv⟩ | ⟨he, rfl, hgr⟩)
 ·simp only at he
  subst he
  have hv := hnt rfl
  have c0 : w1.cell? ⟨g, 0, none⟩ = some (.slice A n cap) := by rw [hmv.blk.cell]; rfl
  have c1 : w1.cell? ⟨g, 1, none⟩ = some (.int .i64 ((a + m : Nat) : Int)) := by rw [hmv.blk.cell]; rfl
  have hb := hmv.le
  have Hmv := Lib.hid hmv
  simp only at hb c1 ⊢
  obtain ⟨b, hbb⟩ : ∃ b, b = a + m := ⟨_, rfl⟩
  have Hbb := Lib.hid hbb
  rw [← hbb] at hb c1
  clear hbb hmv hnum hnt
  have hw0 : IntKind.i64.wrap ((n : Int) - (b : Int)) = ((n - b : Nat) : Int) := by rw [IntWalk.i64_in _ (by omega)]; omega
  have hw1 : IntKind.u64.wrap ((n - b : Nat) : Int) = ((n - b : Nat) : Int) := by rw [wrap_u64]; omega
  go_wp2_with fail
  go_region_held3 (fun w' => Below w1.heap.size w1 w' ∧ w'.cell? ⟨g, 0, none⟩ = some (.slice A n cap) ∧ w'.cell? ⟨g, 1, none⟩ = some (.int .i64 (b : Int))) ((go_split_ands; (repeat' apply And.intro) <;> (try simp only [World.cell?_drew, World.frozen?_drew]) <;> (first | with_reducible assumption | (exact cell_keep (by with_reducible assumption) (by with_reducible assumption)) | (exact frozen_keep (by with_reducible assumption) (by with_reducible assumption) (by with_reducible assumption)) | exact blw))) (fail)
  all_goals
   go_split_ands
   by_cases hfit : v ≤ n - b
   ·have hf2 : ¬ ((n - b : Nat) : Int) < (v : Int) := by omega
    have hf3 : IntKind.i64.wrap (v : Int) = (v : Int) := IntWalk.i64_in _ (by omega)
    have hf4 : wrap64 (v : Int) = (v : Int) := by simp only [wrap64]; omega
    go_wp2_with fail
    go_ret
    exact .inl ⟨rfl, by rw [← Hbb.out]; exact hfit, rfl, Hmv.out.below (by assumption)⟩
   ·have hf2 : ((n - b : Nat) : Int) < (v : Int) := by omega
    go_wp2_with fail
    exact ⟨rfl, .inr (.inl ⟨rfl, by rw [← Hbb.out]; simp only; omega, by rw [← Hbb.out]; rfl, grown_below Hmv.out.grown (by assumption)⟩)⟩
 ·exact ⟨rfl, .inr (.inr ⟨he, rfl, hgr⟩)⟩
end Go.Proofs.YtlolnakeancenaaDoor

namespace Go.Proofs.YtlolnakeancenaaDoor
open Go.RowKit
set_option linter.unusedVariables false
set_option linter.unusedSimpArgs false
set_option maxRecDepth 20000
attribute [local go_sem ↓] Go.wp_at_zero Go.wp_at_succ
attribute [local go_sem] World.cell?_alloc_some frozen_alloc_some
attribute [local go_sem] lt2 lt3 lt4 lt5
attribute [local simp] lt2 lt3 lt4 lt5

/-- What plain gives: the tree as an item, in blocks of its own. -/
def Plained (w : World) (t : Tree) (r : Ending) (w' : World) : Prop := ∃ v, r = .returned v ∧ HoldsIn w' (fun b => w.heap.size ≤ b) t v ∧ Below w.heap.size w w'

theorem plain_num (n : Nat) (hn : n < 2 ^ 64) (w : World) : Calls Tryd.prog 51 #[.iface 22 (.int .u64 (n : Int))] w (Plained w (.mk 0 n ByteArray.empty [])) := by
 have hnum := num_any n
 go_enter Tryd.func51, Tryd.ntmps51
 go_wp2_with fail
 refine (hnum _).mono ?_
 rintro e w1 ⟨rfl, hb1⟩
 have hz1 := hb1.size
 simp at hz1
 obtain ⟨q0, r0⟩ := new_keep hb1 0 rfl
 obtain ⟨q1, r1⟩ := new_keep hb1 1 rfl
 obtain ⟨q2, r2⟩ := new_keep hb1 2 rfl
 obtain ⟨q3, r3⟩ := new_keep hb1 3 rfl
 have hbw : Below w.heap.size w w1 := blw
 unfold numV
 go_wp2_with fail
 refine bodyPost_ret (v := numV n) (by simp [results, Tryd.results51, go_sem, *, numV] <;> rfl) rfl ?_
 exact ⟨_, rfl, hin_num _ _ hn, blw⟩
theorem plain_text (s : ByteArray) (hs : s.size ≤ maxLen) (w : World) : Calls Tryd.prog 51 #[.iface 9 (.string s)] w (Plained w (.mk 1 0 s [])) := by
 have htxt := codectext_any s
 go_enter Tryd.func51, Tryd.ntmps51
 go_wp2_with fail
 refine (htxt _).mono ?_
 rintro e w1 ⟨rfl, hb1⟩
 have hz1 := hb1.size
 simp at hz1
 obtain ⟨q0, r0⟩ := new_keep hb1 0 rfl
 obtain ⟨q1, r1⟩ := new_keep hb1 1 rfl
 obtain ⟨q2, r2⟩ := new_keep hb1 2 rfl
 obtain ⟨q3, r3⟩ := new_keep hb1 3 rfl
 have hbw : Below w.heap.size w w1 := blw
 unfold textV
 go_wp2_with fail
 refine bodyPost_ret (v := textV s) (by simp [results, Tryd.results51, go_sem, *, textV] <;> rfl) rfl ?_
 exact ⟨_, rfl, hin_text _ _ hs, blw⟩

theorem own_form {w : World} {base : Nat} {e : TypeId} {size : Nat} {v : Value} {n : Nat} {xs : List Value} (h : w.ownsRow base e size v n xs) : ∃ A c, v = .slice A n c ∧ n ≤ c ∧ c ≤ maxLen := by
 rcases h.2 with ⟨rfl, rfl⟩ | ⟨g, cap, cur, rfl, _, _, hle, hm, _⟩
 ·exact ⟨none, 0, rfl, Nat.le_refl _, Nat.zero_le _⟩
 ·exact ⟨_, cap, rfl, hle, hm⟩
theorem grown_cell {w w' : World} {row : Option Nat} {B : Nat} (hg : w.grownBy w' row) (hr : ∀ k, row = some k → B ≤ k) {a : Addr} {v : Value} (h : w.cell? a = some v) (ha : a.block < B) : w'.cell? a = some v := by
 rw [← h]
 exact World.cell?_of_block (w := w) (hg.block _ (World.block_lt_of_cell? _ _ h) fun e => by have := hr _ e.symm; omega)
theorem grown_frozen {w w' : World} {row : Option Nat} {B : Nat} (hg : w.grownBy w' row) (hr : ∀ k, row = some k → B ≤ k) {a : Addr} {v : Value} (h : w.cell? a = some v) (ha : a.block < B) {b : Bool} (hf : w.frozen? a = b) : w'.frozen? a = b := by
 rw [← hf]
 exact World.frozen?_of_block (w := w) (hg.block _ (World.block_lt_of_cell? _ _ h) fun e => by have := hr _ e.symm; omega)
set_option maxHeartbeats 8000000 in
theorem plain_list (l : List Tree) (S : Nat → Prop) (v : Value) (w : World) (ht : Tall w S (.mk 2 0 ByteArray.empty l) v) (hlen : l.length ≤ 1000000000)
  (ih : ∀ t ∈ l, ∀ (u : Value) (S : Nat → Prop) (w : World), Tall w S t u → Calls Tryd.prog 51 #[u] w (Plained w t)) :
  Calls Tryd.prog 51 #[v] w (Plained w (.mk 2 0 ByteArray.empty l)) := by
 obtain ⟨i1, hi, hz0, hz1, hz2⟩ := info_item
 obtain ⟨A, m, c, vs, rfl, hm, hmc, hc, hcell, hsub⟩ : ∃ (A : Option Addr) (m c : Nat) (vs : Nat → Value), v = .iface 128 (.slice A m c) ∧ m = l.length ∧ m ≤ c ∧ c ≤ maxLen ∧
   (∀ i, i < m → ∃ b o, A = some ⟨b, o, none⟩ ∧ S b ∧ w.cell? ⟨b, o + i, none⟩ = some (vs i)) ∧ ∀ (i : Nat) (t : Tree), l[i]? = some t → Tall w S t (vs i) := by
  cases ht with
  | list l A m c vs hm hmc hc hcell hsub => exact ⟨A, m, c, vs, rfl, hm, hmc, hc, hcell, hsub⟩
 have hml : m ≤ 1000000000 := by omega
 have Hm := Lib.hid hm
 have Hcell := Lib.hid hcell
 have Hsub := Lib.hid hsub
 have Ih := Lib.hid ih
 clear hm hcell hsub ih ht hlen
 go_enter Tryd.func51, Tryd.ntmps51
 go_wp2_with fail
 go_loopw [30] (fun s30 wr => ∃ (us : List Value) (x : Value), s30 = .int .i64 us.length ∧ us.length ≤ m ∧ RowS wr (w.heap.size + 2) x l us ∧ Blk wr (w.heap.size + 1) 25 #[.int .i64 2, .int .u64 0, .string ByteArray.empty, x] ∧ Below (w.heap.size + 1) (w.alloc (.cells #[.int .i64 0, .int .u64 0, .string ByteArray.empty, .slice none 0 0] 25)) wr) (fun s30 _ => m - (intOf s30).toNat)
 case atStart => exact ⟨[], .slice none 0 0, rfl, by simp, RowS.nil_ _ _ _, (by have h := Blk.new (w.alloc (.cells #[.int .i64 0, .int .u64 0, .string ByteArray.empty, .slice none 0 0] 25)) 25 #[.int .i64 2, .int .u64 0, .string ByteArray.empty, .slice none 0 0]; rw [World.size_alloc] at h; exact h), (Below.refl _ _).alloc (by simp) _⟩
 case round =>
  obtain ⟨us, x, rfl, hj, hrow, hblk, hbr⟩ := hrel
  have hzr := hbr.size
  have hzb := hblk.lt
  simp at hzr
  have hbw := below_box hbr
  by_cases hlt : us.length < m
  ·have hjl : us.length < l.length := by have := Hm.out; omega
   obtain ⟨g, o, rfl, hSg, hca⟩ := Hcell.out us.length hlt
   have hu := (Hsub.out us.length _ (List.getElem?_eq_getElem hjl)).under hbw
   have hcr := cell_keep hbw hca
   have hcall : ∀ W, Below wr.heap.size wr W → Calls Tryd.prog 51 #[vs us.length] W (Plained W l[us.length]) := fun W h => Ih.out l[us.length] (List.getElem_mem hjl) (vs us.length) S W (hu.under h)
   have j0 : (0 : Int) ≤ (us.length : Int) := by omega
   have j1 : (us.length : Int) < (m : Int) := by omega
   obtain ⟨A3, c3, rfl, hl3, hc3⟩ := hrow.form
   have k3 : wr.cell? ⟨w.heap.size + 1, 3, none⟩ = some (.slice A3 us.length c3) := by rw [hblk.cell]; rfl
   have f3 : wr.frozen? ⟨w.heap.size + 1, 3, none⟩ = false := hblk.frozen 3
   have Hget := Lib.hid (List.getElem?_eq_getElem hjl)
   have Hrow := Lib.hid hrow
   have Hblk := Lib.hid hblk
   clear hu hrow hblk
   go_wp2_with fail
   go_region_law (first | ((((refine step_app _ rfl (.tmp 35) (.tmp 38) 23 rfl _ 25 i1 _ 4 56 Tryd.underlying23 hi hz0 hz1 hz2 rfl (by omega) _ _ _ rfl hrow5.own _ _ _ _ rfl hsrc ?h63 ?hby ?hbase ?_); (case h63 => (unfold maxLen; first | omega | (simp; done) | (simp; omega))); (case hby => first | omega | (simp; done) | (simp; omega)); (case hbase => first | omega | (simp; done) | (simp; omega)); intro v6 w6 hownw6 hgroww6 hatw6 holdw6)); have k6 := grown_cell hgroww6 (fun k hk => (hrow5.own.lt k hk).1) k5 (Nat.lt_succ_self _); have f6 := grown_frozen hgroww6 (fun k hk => (hrow5.own.lt k hk).1) k5 (Nat.lt_succ_self _) f5; obtain ⟨A6, c6, rfl, _, _⟩ := own_form hownw6) | (go_simp; go_at_call 51; (with_reducible refine (hcall _ ?hbel).mono ?_); (case hbel => exact blw); rintro e w5 ⟨u, rfl, hin, hb5⟩; have hz5 := hb5.size; (try simp at hz5); obtain ⟨ku, nu, su, Au, mu, cu, rfl⟩ := hin.form; have k4 := cell_keep hb5 (show World.cell? wr.drew ⟨w.heap.size + 1, 3, none⟩ = some (.slice A3 us.length c3) from k3); have f4 := frozen_keep hb5 (show World.cell? wr.drew ⟨w.heap.size + 1, 3, none⟩ = some (.slice A3 us.length c3) from k3) (show World.frozen? wr.drew ⟨w.heap.size + 1, 3, none⟩ = false from f3); have k5 := cell_alloc (o := .cells #[.int .i64 ku, .int .u64 nu, .string su, .slice Au mu cu] 25) k4; have f5 := frozen_alloc (o := .cells #[.int .i64 ku, .int .u64 nu, .string su, .slice Au mu cu] 25) k4 f4; have hrow5 := ((Hrow.out.below ((Below.refl _ _).drew)).below hb5).below ((Below.refl _ _).alloc (Nat.le_refl _) (.cells #[.int .i64 ku, .int .u64 nu, .string su, .slice Au mu cu] 25)); have hsrc := src_item (w := w5) (e := 25) hin.four.1 hin.four.2))
   all_goals
    have hkw5 : Below wr.heap.size wr w5 := blw
    have hin5 := hin.under (w' := w5.alloc (.cells #[.int .i64 ku, .int .u64 nu, .string su, .slice Au mu cu] 25)) ((Below.refl _ _).alloc (Nat.le_refl _) _)
    have hb5' : Below (w.heap.size + 1) (w.alloc (.cells #[.int .i64 0, .int .u64 0, .string ByteArray.empty, .slice none 0 0] 25)) (w5.alloc (.cells #[.int .i64 ku, .int .u64 nu, .string su, .slice Au mu cu] 25)) := (below_call hbr hkw5 hzr).alloc (by omega) _
    have hb6 := below_app hb5' hrow5.own hgroww6 (Nat.le_succ _) (by simp; omega)
    have hb7 := hb6.setCell (p := ⟨w.heap.size + 1, 3, none⟩) (Nat.le_refl _) (.slice A6 (us.length + 1) c6)
    have hblk5 := (Hblk.out.keep hkw5).alloc (.cells #[.int .i64 ku, .int .u64 nu, .string su, .slice Au mu cu] 25)
    have hblk6 : Blk w6 (w.heap.size + 1) 25 _ := (hgroww6.block _ hblk5.lt (fun e => by have := (hrow5.own.lt _ e.symm).1; omega)).trans hblk5
    have hblk7 := hblk6.set_ 3 (.slice A6 (us.length + 1) c6)
    have hst := hrow5.step Hget.out hin5 (by simp; omega) (fun k hk => by have := (Hrow.out.own.lt k hk).2; simpa using this) hownw6 hgroww6 hatw6
    have hst7 := hst.set (p := ⟨w.heap.size + 1, 3, none⟩) (Nat.lt_succ_self _) (.slice A6 (us.length + 1) c6)
    have Hst7 := Lib.hid hst7
    have Hblk7 := Lib.hid hblk7
    have Hb7 := Lib.hid hb7
    clear hst hst7 hblk5 hblk6 hblk7 hb5' hb6 hb7 hin hin5 hownw6 holdw6 hatw6
    go_wp2_with fail
    go_roundw
    case rel => exact ⟨us ++ [.agg #[.int .i64 ku, .int .u64 nu, .string su, .slice Au mu cu]], .slice A6 (us.length + 1) c6, (by first | rfl | (simp; done) | go_num), (by first | omega | (simp; done) | (simp; omega)), Hst7.out, (by have := Hblk7.out; simpa using this), Hb7.out⟩
    case measure => simp [intOf]; omega
  ·have hul : us.length = l.length := by have := Hm.out; omega
   obtain ⟨A3, c3, rfl, hl3, hc3⟩ := hrow.form
   have hnode := hrow.node hul
   have Hnode := Lib.hid hnode
   have k0 : wr.cell? ⟨w.heap.size + 1, 0, none⟩ = some (.int .i64 2) := by rw [hblk.cell]; rfl
   have k1 : wr.cell? ⟨w.heap.size + 1, 1, none⟩ = some (.int .u64 0) := by rw [hblk.cell]; rfl
   have k2 : wr.cell? ⟨w.heap.size + 1, 2, none⟩ = some (.string ByteArray.empty) := by rw [hblk.cell]; rfl
   have k3 : wr.cell? ⟨w.heap.size + 1, 3, none⟩ = some (.slice A3 us.length c3) := by rw [hblk.cell]; rfl
   have q0 := box_cell hbr 0 rfl
   have q1 := box_cell hbr 1 rfl
   have q2 := box_cell hbr 2 rfl
   have q3 := box_cell hbr 3 rfl
   have g0 : wr.frozen? ⟨w.heap.size, 0, none⟩ = false := (hbr.frozen (p := ⟨w.heap.size, 0, none⟩) (Nat.lt_succ_self _)).trans (by simp [go_sem])
   have g1 : wr.frozen? ⟨w.heap.size, 1, none⟩ = false := (hbr.frozen (p := ⟨w.heap.size, 1, none⟩) (Nat.lt_succ_self _)).trans (by simp [go_sem])
   have g2 : wr.frozen? ⟨w.heap.size, 2, none⟩ = false := (hbr.frozen (p := ⟨w.heap.size, 2, none⟩) (Nat.lt_succ_self _)).trans (by simp [go_sem])
   have g3 : wr.frozen? ⟨w.heap.size, 3, none⟩ = false := (hbr.frozen (p := ⟨w.heap.size, 3, none⟩) (Nat.lt_succ_self _)).trans (by simp [go_sem])
   clear hrow hnode hblk hul
   go_wp2_with fail
   refine bodyPost_ret (v := .agg #[.int .i64 2, .int .u64 0, .string ByteArray.empty, .slice A3 us.length c3]) (by simp [results, Tryd.results51, go_sem, *] <;> rfl) rfl ?_
   have h4 := (((Hnode.out.set (p := ⟨w.heap.size, 0, none⟩) (by simp) (.int .i64 2)).set (p := ⟨w.heap.size, 1, none⟩) (by simp) (.int .u64 0)).set (p := ⟨w.heap.size, 2, none⟩) (by simp) (.string ByteArray.empty)).set (p := ⟨w.heap.size, 3, none⟩) (by simp) (.slice A3 us.length c3)
   exact ⟨_, rfl, h4.mono fun b hb => by omega, blw⟩
theorem plain_any (t : Tree) : ∀ (u : Value) (S : Nat → Prop) (w : World), tsize t ≤ 10000000 → Tall w S t u → Calls Tryd.prog 51 #[u] w (Plained w t) := by
 refine Tree.ind (P := fun t => ∀ (u : Value) (S : Nat → Prop) (w : World), tsize t ≤ 10000000 → Tall w S t u → Calls Tryd.prog 51 #[u] w (Plained w t)) ?_ t
 intro k n s l ih u S w hsz ht
 simp only [tsize] at hsz
 have ht2 := ht
 cases ht with
 | num n hn => exact plain_num n hn w
 | text s hs => exact plain_text s hs w
 | list l A m c vs hm hmc hc hcell hsub =>
  exact plain_list l S _ w ht2 (by have := tsizes_len l; omega) fun t hm u S w h => ih t hm u S w (by have := tsizes_mem hm; omega) h
end Go.Proofs.YtlolnakeancenaaDoor
