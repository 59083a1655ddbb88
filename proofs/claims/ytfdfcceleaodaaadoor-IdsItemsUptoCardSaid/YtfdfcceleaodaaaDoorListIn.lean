/- codec.List of items whose blocks lie from a place on: what it gives lies there too. -/
import Derived.Test.YtfdfcceleaodaaaDoorHoldsIn
import Derived.Test.YtfdfcceleaodaaaDoorCodecJ
import Derived.Test.YtfdfcceleaodaaaDoorCodecK
namespace Go.Proofs.YtfdfcceleaodaaaDoor
open Go.RowKit
set_option linter.unusedVariables false
set_option linter.unusedSimpArgs false
set_option maxRecDepth 20000
attribute [local go_sem ↓] Go.wp_at_zero Go.wp_at_succ
attribute [local go_sem] World.cell?_alloc_some frozen_alloc_some
attribute [local go_sem] lt2 lt3 lt4 lt5
attribute [local simp] lt2 lt3 lt4 lt5

theorem hin_num (w : World) (S : Nat → Prop) {n : Nat} (hn : n < 2 ^ 64) : HoldsIn w S (.mk 0 n ByteArray.empty []) (numV n) :=
  .mk 0 n _ [] none 0 0 (fun _ => .nilIface) (by decide) hn (by decide) rfl (Nat.le_refl _) (Nat.zero_le _) (fun i hi => absurd hi (by omega)) (fun i t hi => by simp at hi)
theorem hin_text (w : World) (S : Nat → Prop) {s : ByteArray} (hs : s.size ≤ maxLen) : HoldsIn w S (.mk 1 0 s []) (textV s) :=
  .mk 1 0 s [] none 0 0 (fun _ => .nilIface) (by decide) (by decide) hs rfl (Nat.le_refl _) (Nat.zero_le _) (fun i hi => absurd hi (by omega)) (fun i t hi => by simp at hi)
theorem hin_nil (w : World) (S : Nat → Prop) : HoldsIn w S (.mk 2 0 ByteArray.empty []) (.agg #[.int .i64 2, .int .u64 0, .string ByteArray.empty, .slice none 0 0]) :=
  .mk 2 0 _ [] none 0 0 (fun _ => .nilIface) (by decide) (by decide) (by decide) rfl (Nat.le_refl _) (Nat.zero_le _) (fun i hi => absurd hi (by omega)) (fun i t hi => by simp at hi)
set_option maxHeartbeats 2000000 in
theorem clone_src (ad : Addr) (m c : Nat) (news : List Value) (w0 w : World) (hb0 : Below w0.heap.size w0 w) (h : Src w0 4 (some ad) m news) (hm : m ≤ 1000000000) :
    Calls Tryd.prog 101 #[.slice (some ad) m c] w (fun e w' => ∃ A' c', e = .returned (.slice A' m c') ∧ w'.ownsRow w.heap.size 26 4 (.slice A' m c') m news ∧ Below w.heap.size w w') := by
  obtain ⟨i1, hi, hz0, hz1, hz2⟩ := info_item
  have hk : Below w.heap.size w (w.alloc (.cells #[] 26)) := below_one _
  have hnil := fun W : World => Lib.run_eql_slice_some_nil (P := Tryd.prog) W ad m c Tryd.underlying24
  have hsrc := (h.keep hb0).keep hk
  have hown : (w.alloc (.cells #[] 26)).ownsRow w.heap.size 26 4 (.slice (some ⟨w.heap.size, 0, none⟩) 0 0) 0 [] := World.ownsRow_made w #[] 0 (Nat.le_refl _) (Nat.zero_le _) (by simp)
  go_enter Tryd.func101, Tryd.ntmps101
  go_wp2_with (at_builtin; go_loud (refine wpList_app _ rfl (.tmp 5) (.tmp 6) 24 rfl _ 26 i1 _ 4 56 Tryd.underlying24 hi hz0 hz1 hz2 rfl (by omega) _ _ _ rfl hown _ _ _ _ rfl hsrc ?h63 ?hby ?hbase ?_); (case h63 => (unfold maxLen; first | omega | (simp; done) | (simp; omega))); (case hby => first | omega | (simp; done) | (simp; omega)); (case hbase => first | omega | (simp; done) | (simp; omega)); intro v2 w2 hownw2 hgroww2 hatw2 holdw2)
  have hb2 := below_app hk hown hgroww2 (Nat.le_refl _) (by simp)
  have hown2 : w2.ownsRow w.heap.size 26 4 v2 m news := by simpa using hownw2
  obtain ⟨A2, c2, rfl, _, _⟩ : ∃ A c, v2 = .slice A m c ∧ m ≤ c ∧ c ≤ maxLen := by
    rcases hown2.2 with ⟨rfl, hl⟩ | ⟨g, cap, cur, rfl, _, _, hle, hm, _⟩
    · exact ⟨none, 0, by rw [hl], by omega, Nat.zero_le _⟩
    · exact ⟨_, cap, rfl, hle, hm⟩
  go_ret
  exact ⟨_, _, rfl, hown2, hb2⟩
theorem codeclist_src (ad : Addr) (m c : Nat) (news : List Value) (w : World) (h : Src w 4 (some ad) m news) (hm : m ≤ 1000000000) :
    Calls Tryd.prog 76 #[.slice (some ad) m c] w (fun e w' => ∃ A' c', e = .returned (.agg #[.int .i64 2, .int .u64 0, .string ByteArray.empty, .slice A' m c']) ∧ w'.ownsRow (w.heap.size + 1) 26 4 (.slice A' m c') m news ∧ Below w.heap.size w w') := by
  have hcl : ∀ W, Below w.heap.size w W → Calls Tryd.prog 101 #[.slice (some ad) m c] W (fun e w' => ∃ A' c', e = .returned (.slice A' m c') ∧ w'.ownsRow W.heap.size 26 4 (.slice A' m c') m news ∧ Below W.heap.size W w') := fun W hb => clone_src ad m c news w W hb h hm
  clear h
  go_enter Tryd.func76, Tryd.ntmps76
  go_wp2_with fail
  refine (hcl _ (by ((repeat' first | with_reducible exact Below.refl _ _ | with_reducible assumption | with_reducible refine Below.alloc ?_ ?_ _ | with_reducible refine Below.setCell ?_ ?_ _ | with_reducible apply Below.drew | with_reducible apply below_drewN | with_reducible refine below_call ?_ (by with_reducible assumption) ?_) <;> (first | omega | (simp; done) | (simp; omega) | (simp at *; omega))))).mono ?_
  rintro e w1 ⟨A', c', rfl, hit, hb1⟩
  have hz1 := hb1.size
  simp at hz1
  obtain ⟨q0, r0⟩ := new_keep hb1 0 rfl
  obtain ⟨q1, r1⟩ := new_keep hb1 1 rfl
  obtain ⟨q2, r2⟩ := new_keep hb1 2 rfl
  obtain ⟨q3, r3⟩ := new_keep hb1 3 rfl
  simp only [World.size_alloc] at hit
  have Hit := Lib.hid hit
  clear hit
  go_wp2_with fail
  have hbw : Below w.heap.size w w1 := by ((repeat' first | with_reducible exact Below.refl _ _ | with_reducible assumption | with_reducible refine Below.alloc ?_ ?_ _ | with_reducible refine Below.setCell ?_ ?_ _ | with_reducible apply Below.drew | with_reducible apply below_drewN | with_reducible refine below_call ?_ (by with_reducible assumption) ?_) <;> (first | omega | (simp; done) | (simp; omega) | (simp at *; omega)))
  refine bodyPost_ret (v := .agg #[.int .i64 2, .int .u64 0, .string ByteArray.empty, .slice A' m c']) (by simp [results, Tryd.results76, go_sem, *] <;> rfl) rfl ?_
  have hb4 : Below w.heap.size w ((((w1.setCell ⟨w.heap.size, 0, none⟩ (.int .i64 2)).setCell ⟨w.heap.size, 1, none⟩ (.int .u64 0)).setCell ⟨w.heap.size, 2, none⟩ (.string ByteArray.empty)).setCell ⟨w.heap.size, 3, none⟩ (.slice A' m c')) := by ((repeat' first | with_reducible exact Below.refl _ _ | with_reducible assumption | with_reducible refine Below.alloc ?_ ?_ _ | with_reducible refine Below.setCell ?_ ?_ _ | with_reducible apply Below.drew | with_reducible apply below_drewN | with_reducible refine below_call ?_ (by with_reducible assumption) ?_) <;> (first | omega | (simp; done) | (simp; omega) | (simp at *; omega)))
  exact ⟨_, _, rfl, ownsRow_setCell_below (ownsRow_setCell_below (ownsRow_setCell_below (ownsRow_setCell_below Hit.out (by simp) _) (by simp) _) (by simp) _) (by simp) _, hb4⟩
/-- Items that lie one behind the other in the newest block, as a source. -/
theorem src_items {us : List Value} {cs : Array Value} (w : World) (hcs : cs = (flatL us).toArray) (h4 : ∀ u ∈ us, u.cells.size = 4 ∧ ∀ x ∈ u.cells.toList, x.oneCell' = true) :
    Src (w.alloc (.cells cs 26)) 4 (some ⟨w.heap.size, 0, none⟩) us.length (flatL us) := by
  subst hcs
  refine ⟨by rw [flatL_length fun u hu => (h4 u hu).1]; try omega, fun j x hj => ⟨_, rfl, ?_⟩, fun x hx => ?_⟩
  · have hadd : (⟨w.heap.size, 0, none⟩ : Addr).add j = ⟨w.heap.size, j, none⟩ := by unfold Addr.add; split <;> simp_all
    rw [hadd]
    exact (new_cell w (flatL us).toArray 26 j (by simpa using hj)).1
  · simp only [flatL, List.mem_flatMap] at hx
    obtain ⟨u, hu, hx⟩ := hx
    exact (h4 u hu).2 x hx
theorem own_below {w w' : World} {base : Nat} {e : TypeId} {size : Nat} {v : Value} {n : Nat} {xs : List Value} (h : w.ownsRow base e size v n xs) (hb : Below w.heap.size w w') : w'.ownsRow base e size v n xs :=
  h.kept (grown_of_below hb none) (by cases v.ownBlock <;> simp)
/-- The list of the items that lie one behind the other in the newest block. -/
theorem list_inS {S : Nat → Prop} {l : List Tree} {us : List Value} {m : Nat} {cs : Array Value} (w W : World) (hW : Below (w.alloc (.cells cs 26)).heap.size (w.alloc (.cells cs 26)) W) (hcs : cs = (flatL us).toArray) (hm : m = us.length) (hl : us.length = l.length) (hmm : m ≤ 1000000000)
    (sub : ∀ (i : Nat) (t : Tree) (u : Value), l[i]? = some t → us[i]? = some u → HoldsIn w S t u) :
    Calls Tryd.prog 76 #[.slice (some ⟨w.heap.size, 0, none⟩) m m] W
      (fun e w' => ∃ A' c', e = .returned (.agg #[.int .i64 2, .int .u64 0, .string ByteArray.empty, .slice A' m c']) ∧ HoldsIn w' (fun b => S b ∨ W.heap.size + 1 ≤ b) (.mk 2 0 ByteArray.empty l) (.agg #[.int .i64 2, .int .u64 0, .string ByteArray.empty, .slice A' m c']) ∧ Below W.heap.size W w') := by
  subst hcs hm
  have hg : ∀ i, i < us.length → us[i]? = some (us.getD i .nilIface) := fun i hi => by simp [List.getD, List.getElem?_eq_getElem hi]
  have h4 : ∀ u ∈ us, u.cells.size = 4 ∧ ∀ x ∈ u.cells.toList, x.oneCell' = true := fun u hu => by
    obtain ⟨i, hi, rfl⟩ := List.mem_iff_getElem.1 hu
    exact (sub i l[i] _ (List.getElem?_eq_getElem (by omega)) (List.getElem?_eq_getElem hi)).four
  have hsrc : Src (w.alloc (.cells (flatL us).toArray 26)) 4 (some ⟨w.heap.size, 0, none⟩) us.length (flatL us) := by
    refine ⟨by rw [flatL_length fun u hu => (h4 u hu).1]; try omega, fun j x hj => ⟨_, rfl, ?_⟩, fun x hx => ?_⟩
    · have hadd : (⟨w.heap.size, 0, none⟩ : Addr).add j = ⟨w.heap.size, j, none⟩ := by unfold Addr.add; split <;> simp_all
      rw [hadd]
      exact (new_cell w (flatL us).toArray 26 j (by simpa using hj)).1
    · simp only [flatL, List.mem_flatMap] at hx
      obtain ⟨u, hu, hx⟩ := hx
      exact (h4 u hu).2 x hx
  refine (codeclist_src _ us.length us.length (flatL us) W (hsrc.keep hW) hmm).mono ?_
  rintro e w' ⟨A', c', rfl, hown, hb⟩
  have hb0 : Below w.heap.size w w' := by
    exact below_call (below_call (below_one _) hW (by simp)) hb (by have := hW.size; simp at this; omega)
  refine ⟨A', c', rfl, ?_, hb⟩
  have ho : ∃ c, c = c' ∧ us.length ≤ c ∧ c ≤ maxLen ∧ (us.length ≠ 0 → ∃ g, A' = some ⟨g, 0, none⟩ ∧ W.heap.size + 1 ≤ g ∧ ∀ j u, (flatL us)[j]? = some u → w'.cell? ⟨g, j, none⟩ = some u) := by
    rcases hown.2 with ⟨hv, hn⟩ | ⟨g, cap, cur, hv, hb', _, hle, hmx, _⟩
    · injection hv with hv1 hv2 hv3
      exact ⟨c', rfl, by omega, by unfold maxLen; omega, fun h => absurd hn h⟩
    · injection hv with hv1 hv2 hv3
      subst hv1 hv3
      refine ⟨_, rfl, hle, hmx, fun _ => ⟨g, rfl, by omega, fun j u hj => ?_⟩⟩
      have := hown.cells (g := g) rfl j u hj
      rw [← this]
      congr 1
      unfold Addr.add; split <;> simp_all
  obtain ⟨_, rfl, hlc, hcm, hcell⟩ := ho
  refine .mk 2 0 _ l A' us.length _ (fun i => us.getD i .nilIface) (by decide) (by decide) (by decide) hl hlc hcm (fun i hi => ?_) fun i t ht => ?_
  · obtain ⟨g, rfl, hg2, hc⟩ := hcell (by omega)
    refine ⟨g, 0, rfl, .inr hg2, fun j u hu => ?_⟩
    have hj : j < 4 := by
      rw [← (h4 _ (List.mem_of_getElem? (hg i hi))).1]
      exact (Array.getElem?_eq_some_iff.1 hu).1
    have := hc (4 * i + j) u (by rw [flatL_get (fun u hu => (h4 u hu).1) (hg i hi) hj]; exact hu)
    rw [Nat.zero_add]; exact this
  · have hi : i < us.length := by
      rw [hl]
      rcases Nat.lt_or_ge i l.length with h | h
      · exact h
      · rw [List.getElem?_eq_none h] at ht; cases ht
    exact ((sub i t _ ht (hg i hi)).under hb0).mono fun b hb => .inl hb
/-- The list of the items that lie one behind the other in the newest block. -/
theorem list_in {base : Nat} {l : List Tree} {us : List Value} {m : Nat} {cs : Array Value} (w : World) (hcs : cs = (flatL us).toArray) (hm : m = us.length) (hl : us.length = l.length) (hbase : base ≤ w.heap.size) (hmm : m ≤ 1000000000)
    (sub : ∀ (i : Nat) (t : Tree) (u : Value), l[i]? = some t → us[i]? = some u → HoldsIn w (fun b => base ≤ b) t u) :
    Calls Tryd.prog 76 #[.slice (some ⟨w.heap.size, 0, none⟩) m m] (w.alloc (.cells cs 26))
      (fun e w' => ∃ A' c', e = .returned (.agg #[.int .i64 2, .int .u64 0, .string ByteArray.empty, .slice A' m c']) ∧ HoldsIn w' (fun b => base ≤ b) (.mk 2 0 ByteArray.empty l) (.agg #[.int .i64 2, .int .u64 0, .string ByteArray.empty, .slice A' m c']) ∧ Below (w.alloc (.cells cs 26)).heap.size (w.alloc (.cells cs 26)) w') := by
  subst hcs hm
  have hg : ∀ i, i < us.length → us[i]? = some (us.getD i .nilIface) := fun i hi => by simp [List.getD, List.getElem?_eq_getElem hi]
  have h4 : ∀ u ∈ us, u.cells.size = 4 ∧ ∀ x ∈ u.cells.toList, x.oneCell' = true := fun u hu => by
    obtain ⟨i, hi, rfl⟩ := List.mem_iff_getElem.1 hu
    exact (sub i l[i] _ (List.getElem?_eq_getElem (by omega)) (List.getElem?_eq_getElem hi)).four
  have hsrc : Src (w.alloc (.cells (flatL us).toArray 26)) 4 (some ⟨w.heap.size, 0, none⟩) us.length (flatL us) := by
    refine ⟨by rw [flatL_length fun u hu => (h4 u hu).1]; try omega, fun j x hj => ⟨_, rfl, ?_⟩, fun x hx => ?_⟩
    · have hadd : (⟨w.heap.size, 0, none⟩ : Addr).add j = ⟨w.heap.size, j, none⟩ := by unfold Addr.add; split <;> simp_all
      rw [hadd]
      exact (new_cell w (flatL us).toArray 26 j (by simpa using hj)).1
    · simp only [flatL, List.mem_flatMap] at hx
      obtain ⟨u, hu, hx⟩ := hx
      exact (h4 u hu).2 x hx
  refine (codeclist_src _ us.length us.length (flatL us) _ hsrc hmm).mono ?_
  rintro e w' ⟨A', c', rfl, hown, hb⟩
  have hb0 : Below w.heap.size w w' := by
    exact below_call (below_one _) hb (by simp)
  refine ⟨A', c', rfl, ?_, hb⟩
  have hrow : RowS w' base (.slice A' us.length c') l us := by
    refine ⟨⟨hown.1, hown.2.imp id fun ⟨g, cap, cur, hv, hg, hr⟩ => ⟨g, cap, cur, hv, by simp at hg; omega, hr⟩⟩, by omega, fun i t u ht hu => ?_⟩
    refine ((sub i t u ht hu).there.under hb0).mono fun b hb => ⟨hb.1, fun e => ?_⟩
    have := (hown.lt b e.symm).1
    simp at this
    omega
  exact hrow.node hl
end Go.Proofs.YtfdfcceleaodaaaDoor
