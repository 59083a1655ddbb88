/- disk: the sorted names; Read, Names. -/
import Derived.Test.YtpdfbkkhmfnnjaaDkOps2
import Derived.Sort.KeysCollected
import Derived.Shelf.SlIter.Nil
import Derived.Shelf.SortM.Plain
import Derived.Shelf.SortM.SortNone
import Derived.Shelf.SlicesE.Clone
import Derived.Lib.OwnBridge
import Derived.WalkKit
import Derived.WalkSpells
import Derived.WalkLawsBesides
import Derived.Deep.RegionHeld3
import Derived.Deep.DrawnRows
import Derived.Deep.DeepCutAuto
import Derived.Deep.DeepFit
import Derived.Lib.Hide
import Derived.BigQuiet
import Derived.Deep.QuietTactic
import Derived.Deep.RegionHeld3
namespace Go.Proofs.Ytpdfbkkhmfnnjaa
open Go.RowKit
set_option linter.unusedVariables false
set_option linter.unusedSimpArgs false
set_option maxRecDepth 20000
attribute [local go_sem ↓] Go.wp_at_zero Go.wp_at_succ
attribute [local go_sem] World.cell?_alloc_some frozen_alloc_some
open Go.Maps Go.Sort Go.Shelf

theorem keys_any (b : Nat) (W : World) : Calls Try.prog 81 #[.map (some b)] W
    (fun e w' => e = .returned (.func (.func 100) #[] #[.pointer (some ⟨W.heap.size, 0, none⟩)]) ∧ w' = W.alloc (.cells #[.map (some b)] 93)) :=
  callsIn_wide.1 (AnyZ.keys_in Try.keysA Fence.wide 5 trivial rfl (some b) W)
theorem sortsA (m : Nat) : AnyZ.SortsIn Try.prog Try.sortedA_ren Fence.wide m :=
  ⟨fun blk off cap ss W hH hblk hsz => callsIn_wide.2 (AnyM.slices_Sort_string Try.sortA blk off cap ss W hH hblk hsz),
   fun p cap W => callsIn_wide.2 (AnyM.slices_Sort_string_none Try.sortA p cap W)⟩
theorem names_sorted {w : World} {b : Nat} {x : List FlT} {D : DataW Unit} (h : w.ownsMap Try.prog 9 RF b x.length D) (hR : RepF D x) {nms : List NmT} (ha : nms.Pairwise (· < ·)) (hm : ∀ s, s ∈ nms ↔ hasF x s = true) {ss : List NmT} (hp : ss.Perm (strKeys D)) :
    (ss.mergeSort fun x y => decide (x ≤ y)) = nms := by
  have hnd : nms.Nodup := List.Pairwise.imp (fun {a b} (hab : a < b) (e : a = b) => nm_irrefl b (by rw [e] at hab; exact hab)) ha
  have hc : Collected D (fun _ => false) nms := ⟨hnd, fun s => by rw [hm s, ← hR.hit s]; simp [nmK]⟩
  have hp2 : nms.Perm (strKeys D) := hc.perm h nmLaw Try.underlying9 fun _ => rfl
  have tr : ∀ a b c : List UInt8, leB a b = true → leB b c = true → leB a c = true := fun a b c h1 h2 => by simp only [leB, decide_eq_true_eq] at *; exact List.le_trans h1 h2
  have tt : ∀ a b : List UInt8, (leB a b || leB b a) = true := fun a b => by simp only [leB, Bool.or_eq_true, decide_eq_true_eq]; exact List.le_total a b
  refine List.Perm.eq_of_pairwise (le := fun a b => leB a b = true) (fun a b _ _ h1 h2 => ?_) (List.pairwise_mergeSort tr tt ss) (ha.imp fun {a b} hab => ?_) ((List.mergeSort_perm ss leB).trans (hp.trans hp2.symm))
  · simp only [leB, decide_eq_true_eq] at h1 h2
    exact List.le_antisymm h1 h2
  · simp only [leB, decide_eq_true_eq]
    exact fun h2 => nm_irrefl a (nm_trans hab h2)
theorem sorted_any (b : Nat) (x : List FlT) (nms : List NmT) (W : World) (h : FmAt W b x) (hx : x.length ≤ 100000) (ha : nms.Pairwise (· < ·)) (hm : ∀ s, s ∈ nms ↔ hasF x s = true) :
    Calls Try.prog 80 #[.func (.func 100) #[] #[.pointer (some ⟨W.heap.size, 0, none⟩)]] (W.alloc (.cells #[.map (some b)] 93))
      (fun e w' => ∃ v, e = .returned v ∧ w'.ownsRow W.heap.size 9 1 v nms.length (nms.map sV) ∧ Below W.heap.size W w') := by
  obtain ⟨D, hown, hR⟩ := h
  have hbl := hown.lt
  have hsz : Maps.size D ≤ 100000 := by rw [hR.size]; exact hx
  have hseq : SeqGives Fence.wide 2 Try.prog 100 #[.pointer (some ⟨W.heap.size, 0, none⟩)] encStr (fun ss => ss.Perm (strKeys D)) (Maps.size D) (W.alloc (.cells #[.map (some b)] 93)) :=
    AnyZ.keys_gives (ρ := Try.keysA_ren) { Try.keysA with } Fence.wide _ trivial rfl (by omega) W.heap.size b x.length D _ (by simp) (by simp) (by
      obtain ⟨es, clock, hb, Ft, hs, hD⟩ := hown
      exact ⟨es, clock, (Below.heap_alloc _ _ b hbl).trans hb, Ft, hs, hD⟩)
  have cS := AnyZ.sorted_in Try.sortedA Fence.wide 5 trivial trivial trivial trivial rfl (by omega) (sortsA _) (enters_of Try.func99 (by kernel_rfl) rfl) 100 #[.pointer (some ⟨W.heap.size, 0, none⟩)] trivial (enters_of Try.func100 (by kernel_rfl) rfl) _ _ (by unfold maxLen; omega) (by omega) _ hseq
  refine (callsIn_wide.1 cS).mono fun e w' ⟨v, ss, he, hS, hrow, hnil, hb⟩ => ?_
  have hn := names_sorted hown hR ha hm hS
  have hlen : ss.length = nms.length := by rw [← hn, List.length_mergeSort]
  rw [hn, hlen] at hrow
  refine ⟨v, he, ownsRow_base_a hrow (by simp), ((Below.refl _ W).alloc (Nat.le_refl _) _).trans (hb.mono (by simp))⟩
end Go.Proofs.Ytpdfbkkhmfnnjaa
