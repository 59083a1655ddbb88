/- A law's disk under way; the document's example of disks: awake. -/
import Derived.Test.YtpdfbkkhmfnnjaaDkBoot
import Derived.Test.YtpdfbkkhmfnnjaaSame01
import Derived.WalkKit
import Derived.WalkSpells
import Derived.WalkLawsBesides
import Derived.Deep.RegionHeld3
import Derived.Deep.DrawnRows
import Derived.Deep.DeepCutAuto
import Derived.Deep.DeepFit
import Derived.Lib.Hide
import Derived.BigQuiet
import Derived.Deep.QuietTactic
import Derived.Deep.RegionHeld3
import Derived.Lib.SliceRun
namespace Go.Proofs.Ytpdfbkkhmfnnjaa
open Go.RowKit
set_option linter.unusedVariables false
set_option linter.unusedSimpArgs false
set_option maxRecDepth 20000
attribute [local go_sem ↓] Go.wp_at_zero Go.wp_at_succ
attribute [local go_sem] World.cell?_alloc_some frozen_alloc_some
open Go.Maps

structure LS (w W : World) (F : Nat → Prop) (g b : Nat) (d : DkT) : Prop where
  hb : Below w.heap.size w W
  D : DiskAt W F g b d
  hF : ∀ k, F k → w.heap.size ≤ k
theorem LS.keep {w W W' : World} {F : Nat → Prop} {g b : Nat} {d : DkT} (h : LS w W F g b d) (hb : Below W.heap.size W W') : LS w W' F g b d := ⟨below_call h.hb hb h.hb.size, h.D.keep hb, h.hF⟩
theorem LS.deed {w W w' : World} {F : Nat → Prop} {g b : Nat} {d d' : DkT} {v : Value} {e : Ending} (L : LS w W F g b d) (h : Deeds W F g b v d' e w') :
    e = .returned v ∧ ∃ F', LS w w' F' g b d' ∧ (∀ k, F' k → F k ∨ W.heap.size ≤ k) ∧ Turn F W w' := by
  obtain ⟨h1, F', h2, h3, h4⟩ := h
  exact ⟨h1, F', ⟨Turn.below L.hb h4 L.hF L.hb.size, h2, fun k hk => (h3 k hk).elim (L.hF k) fun h => Nat.le_trans L.hb.size h⟩, h3, h4⟩
theorem LS.new {w w' : World} {room : Int} (h : DiskAt w' (fun k => w.heap.size ≤ k ∧ k < w.heap.size + 2) (w.heap.size + 1) w.heap.size (newD room)) (hb : Below w.heap.size w w') : ∃ F, LS w w' F (w.heap.size + 1) w.heap.size (newD room) :=
  ⟨_, hb, h, fun k hk => hk.1⟩
/-- What came in lies in no block of the disk. -/
theorem LS.arg {w W : World} {F : Nat → Prop} {g b : Nat} {d : DkT} (L : LS w W F g b d) {A : Option Addr} {m : Nat} {p : List Nat} (hp : Bytes w A m p) : ∀ ad, A = some ad → 0 < m → ¬ F ad.block := fun ad e hm hF => by
  have h1 : 0 < p.length := by rw [← hp.1]; exact hm
  obtain ⟨_, ad', e', hc⟩ := hp.2.2 0 p[0] (List.getElem?_eq_getElem h1)
  rw [e] at e'
  injection e' with e'
  subst e'
  have h2 := World.block_lt_of_cell? _ _ hc
  have h3 : (ad.add 0).block = ad.block := by unfold Addr.add; split <;> rfl
  have := L.hF _ hF
  omega
theorem LS.made {w W : World} {F : Nat → Prop} {g b : Nat} {d : DkT} (L : LS w W F g b d) {k o m : Nat} (hk : W.heap.size ≤ k) : ∀ ad, (some ⟨k, o, none⟩ : Option Addr) = some ad → 0 < m → ¬ F ad.block := fun ad e _ hF => by
  injection e with e
  subst e
  exact L.D.notF hk hF
theorem LS.append {w W : World} {F : Nat → Prop} {g b : Nat} {d : DkT} (L : LS w W F g b d) (s : NmT) (A : Option Addr) (m c : Nat) (p : List Nat) (hs : wfN s) (hp : Bytes W A m p) (hpF : ∀ ad, A = some ad → 0 < m → ¬ F ad.block) (hpl : p.length ≤ 1073741824) {v : Int} {d' : DkT} (he : deedD d (fun l => appC d.room l s p) = (v, d')) :
    Calls Try.prog 46 #[.pointer (some ⟨g, 0, none⟩), .string ⟨⟨s⟩⟩, .slice A m c] W (fun e w' => e = .returned (.int .i64 v) ∧ ∃ F', LS w w' F' g b d' ∧ (∀ k, F' k → F k ∨ W.heap.size ≤ k) ∧ Turn F W w') := by
  have h := dkappend_any F g b d s A m c p W L.D hs hp hpF hpl
  rw [he] at h
  exact h.mono fun e w' hd => L.deed hd
theorem LS.sync {w W : World} {F : Nat → Prop} {g b : Nat} {d : DkT} (L : LS w W F g b d) (s : NmT) (hs : wfN s) {v : Int} {d' : DkT} (he : deedD d (fun l => syncC l s) = (v, d')) :
    Calls Try.prog 47 #[.pointer (some ⟨g, 0, none⟩), .string ⟨⟨s⟩⟩] W (fun e w' => e = .returned (.int .i64 v) ∧ ∃ F', LS w w' F' g b d' ∧ (∀ k, F' k → F k ∨ W.heap.size ≤ k) ∧ Turn F W w') := by
  have h := dksync_any F g b d s W L.D hs
  rw [he] at h
  exact h.mono fun e w' hd => L.deed hd
theorem LS.cut {w W : World} {F : Nat → Prop} {g b : Nat} {d : DkT} (L : LS w W F g b d) (s : NmT) (n : Int) (hs : wfN s) (hn : (Lit.int .i64 n).wf = true) {v : Int} {d' : DkT} (he : deedD d (fun l => cutC l s n) = (v, d')) :
    Calls Try.prog 53 #[.pointer (some ⟨g, 0, none⟩), .string ⟨⟨s⟩⟩, .int .i64 n] W (fun e w' => e = .returned (.int .i64 v) ∧ ∃ F', LS w w' F' g b d' ∧ (∀ k, F' k → F k ∨ W.heap.size ≤ k) ∧ Turn F W w') := by
  have h := dkcut_any F g b d s n W L.D hs hn
  rw [he] at h
  exact h.mono fun e w' hd => L.deed hd
theorem LS.move {w W : World} {F : Nat → Prop} {g b : Nat} {d : DkT} (L : LS w W F g b d) (s t : NmT) (hs : wfN s) (ht : wfN t) {v : Int} {d' : DkT} (he : deedD d (fun l => moveC l s t) = (v, d')) :
    Calls Try.prog 50 #[.pointer (some ⟨g, 0, none⟩), .string ⟨⟨s⟩⟩, .string ⟨⟨t⟩⟩] W (fun e w' => e = .returned (.int .i64 v) ∧ ∃ F', LS w w' F' g b d' ∧ (∀ k, F' k → F k ∨ W.heap.size ≤ k) ∧ Turn F W w') := by
  have h := dkmove_any F g b d s t W L.D hs ht
  rw [he] at h
  exact h.mono fun e w' hd => L.deed hd
theorem LS.remove {w W : World} {F : Nat → Prop} {g b : Nat} {d : DkT} (L : LS w W F g b d) (s : NmT) (hs : wfN s) {v : Int} {d' : DkT} (he : deedD d (fun l => remC l s) = (v, d')) :
    Calls Try.prog 51 #[.pointer (some ⟨g, 0, none⟩), .string ⟨⟨s⟩⟩] W (fun e w' => e = .returned (.int .i64 v) ∧ ∃ F', LS w w' F' g b d' ∧ (∀ k, F' k → F k ∨ W.heap.size ≤ k) ∧ Turn F W w') := by
  have h := dkremove_any F g b d s W L.D hs
  rw [he] at h
  exact h.mono fun e w' hd => L.deed hd
theorem LS.fuse {w W : World} {F : Nat → Prop} {g b : Nat} {d : DkT} (L : LS w W F g b d) (n : Int) (hn : (Lit.int .i64 n).wf = true) :
    Calls Try.prog 52 #[.pointer (some ⟨g, 0, none⟩), .int .i64 n] W (fun e w' => e = .returned (.tuple #[]) ∧ ∃ F', LS w w' F' g b (fuseD d n) ∧ (∀ k, F' k → F k ∨ W.heap.size ≤ k) ∧ Turn F W w') :=
  (dkfuse_any F g b d n W L.D hn).mono fun e w' hd => L.deed hd
theorem LS.boot {w W : World} {F : Nat → Prop} {g b : Nat} {d : DkT} (L : LS w W F g b d) (A : Option Addr) (m c : Nat) (ks : List Int) (hk : KeepsAt W A m ks) (hc : m ≤ c) (hkF : ∀ ad, A = some ad → 0 < m → ¬ F ad.block) {d' : DkT} (he : bootD d ks = d') :
    Calls Try.prog 48 #[.pointer (some ⟨g, 0, none⟩), .slice A m c] W (fun e w' => e = .returned (.tuple #[]) ∧ ∃ F', LS w w' F' g b d' ∧ (∀ k, F' k → F k ∨ W.heap.size ≤ k) ∧ Turn F W w') := by
  subst he
  exact (dkboot_any F g b d A m c ks W L.D hk hc hkF).mono fun e w' hd => L.deed hd
theorem LS.read {w W : World} {F : Nat → Prop} {g b : Nat} {d : DkT} (L : LS w W F g b d) (s : NmT) (hs : wfN s) {r : Option (List Nat) × Int} (he : readD d s = r) :
    Calls Try.prog 49 #[.pointer (some ⟨g, 0, none⟩), .string ⟨⟨s⟩⟩] W (Reads W r) := by
  subst he
  exact dkread_any F g b d s W L.D hs
/-- Bytes that lie in no block of the disk. -/
structure Safe (W : World) (F : Nat → Prop) (A : Option Addr) (m : Nat) (p : List Nat) : Prop where
  by_ : Bytes W A m p
  out : ∀ ad, A = some ad → 0 < m → ¬ F ad.block
theorem Safe.lt {W : World} {F : Nat → Prop} {A : Option Addr} {m : Nat} {p : List Nat} (h : Safe W F A m p) {ad : Addr} (e : A = some ad) (hm : 0 < m) : ad.block < W.heap.size := by
  have h1 : 0 < p.length := by rw [← h.by_.1]; exact hm
  obtain ⟨_, ad', e', hc⟩ := h.by_.2.2 0 p[0] (List.getElem?_eq_getElem h1)
  rw [e] at e'
  injection e' with e'
  subst e'
  have h2 := World.block_lt_of_cell? _ _ hc
  have h3 : (ad.add 0).block = ad.block := by unfold Addr.add; split <;> rfl
  omega
theorem Safe.keep {W W' : World} {F : Nat → Prop} {A : Option Addr} {m : Nat} {p : List Nat} (h : Safe W F A m p) (hb : Below W.heap.size W W') : Safe W' F A m p := ⟨h.by_.keep hb, h.out⟩
theorem Safe.turn {W W' : World} {F F' : Nat → Prop} {A : Option Addr} {m : Nat} {p : List Nat} (h : Safe W F A m p) (hT : Turn F W W') (hF : ∀ k, F' k → F k ∨ W.heap.size ≤ k) : Safe W' F' A m p :=
  ⟨hT.bytes h.by_ h.out, fun ad e hm hk => by
    rcases hF _ hk with h1 | h1
    · exact h.out ad e hm h1
    · have := h.lt e hm; omega⟩
theorem LS.safe {w W : World} {F : Nat → Prop} {g b : Nat} {d : DkT} (L : LS w W F g b d) {A : Option Addr} {m : Nat} {p : List Nat} (hp : Bytes w A m p) : Safe W F A m p := ⟨hp.keep L.hb, L.arg hp⟩
/-- What the call has made lately lies in no block of the disk. -/
theorem LS.own {w W W' : World} {F : Nat → Prop} {g b : Nat} {d : DkT} (L : LS w W F g b d) {base : Nat} {A : Option Addr} {m c : Nat} {p : List Nat} (h : OwnB W' base 5 (.slice A m c) p) (hb : W.heap.size ≤ base) : Safe W' F A m p :=
  ⟨h.bytes.2.2, fun ad e hm hF => by
    have h1 := (h.1.lt ad.block (by rw [e]; rfl)).1
    exact L.D.notF (by omega) hF⟩
theorem keeps_made {w : World} {e : TypeId} (k : Int) (hk : (Lit.int .i64 k).wf = true) : KeepsAt (w.alloc (.cells #[.int .i64 k] e)) (some ⟨w.heap.size, 0, none⟩) 1 [k] :=
  ⟨rfl, by decide, fun i x hi => by
    match i with
    | 0 => simp at hi; subst hi; exact ⟨hk, _, _, rfl, (new_cell w #[.int .i64 k] e 0 rfl).1⟩
    | i + 1 => simp at hi⟩
theorem keeps_made2 {w : World} {e : TypeId} (k k2 : Int) (hk : (Lit.int .i64 k).wf = true) (hk2 : (Lit.int .i64 k2).wf = true) : KeepsAt (w.alloc (.cells #[.int .i64 k, .int .i64 k2] e)) (some ⟨w.heap.size, 0, none⟩) 2 [k, k2] :=
  ⟨rfl, by decide, fun i x hi => by
    match i with
    | 0 => simp at hi; subst hi; exact ⟨hk, _, _, rfl, (new_cell w #[.int .i64 k, .int .i64 k2] e 0 rfl).1⟩
    | 1 => simp at hi; subst hi; exact ⟨hk2, _, _, rfl, (new_cell w #[.int .i64 k, .int .i64 k2] e 1 rfl).1⟩
    | i + 2 => simp at hi⟩
end Go.Proofs.Ytpdfbkkhmfnnjaa
