/- A byte slice of the call's own that may have been cut: what it reads as; an append to it. -/
import Derived.Test.YtpdfbkkhmfnnjaaApp
import Derived.Laws.Append
import Derived.WalkKit
import Derived.WalkSpells
import Derived.WalkLawsBesides
import Derived.Deep.RegionHeld3
import Derived.Deep.DrawnRows
import Derived.Deep.DeepCutAuto
import Derived.Deep.DeepFit
import Derived.Lib.Hide
import Derived.BigQuiet
import Derived.Deep.QuietTactic
namespace Go.Proofs.Ytpdfbkkhmfnnjaa
open Go.RowKit
set_option linter.unusedVariables false
set_option linter.unusedSimpArgs false
set_option maxRecDepth 20000
attribute [local go_sem ↓] Go.wp_at_zero Go.wp_at_succ
attribute [local go_sem] World.cell?_alloc_some frozen_alloc_some
section
variable {P : Program}

/-- A byte slice that lies alone in its block, from the block's beginning; its room may be less than the block's. -/
def OwnW (w : World) (v : Value) (l : List Nat) : Prop :=
  (∀ c ∈ l, c < 256) ∧ ((v = .slice none 0 0 ∧ l = []) ∨
   ∃ (g cap : Nat) (cur : Array Value), v = .slice (some ⟨g, 0, none⟩) l.length cap ∧ w.heap[g]? = some (.cells cur 5 (0, 0)) ∧ l.length ≤ cap ∧ cap ≤ maxLen ∧ cap ≤ cur.size ∧ cur.toList.take l.length = u8s l)
theorem OwnW.nil_ (w : World) : OwnW w (.slice none 0 0) [] := ⟨by simp, .inl ⟨rfl, rfl⟩⟩
theorem OwnW.lt {w : World} {v : Value} {l : List Nat} (h : OwnW w v l) {g : Nat} (hv : v.ownBlock = some g) : g < w.heap.size := by
  rcases h.2 with ⟨rfl, _⟩ | ⟨g', cap, cur, rfl, hg, _⟩
  · cases hv
  · simp only [Value.ownBlock, Option.some.injEq] at hv
    subst hv
    exact (Array.getElem?_eq_some_iff.1 hg).1
theorem OwnW.typed {w : World} {v : Value} {l : List Nat} (h : OwnW w v l) {g : Nat} (hv : v.ownBlock = some g) : ∃ cur, w.heap[g]? = some (.cells cur 5 (0, 0)) := by
  rcases h.2 with ⟨rfl, _⟩ | ⟨g', cap, cur, rfl, hg, _⟩
  · cases hv
  · simp only [Value.ownBlock, Option.some.injEq] at hv
    subst hv
    exact ⟨cur, hg⟩
theorem OwnW.same {w w' : World} {v : Value} {l : List Nat} (h : OwnW w v l) (hs : ∀ g, v.ownBlock = some g → w'.heap[g]? = w.heap[g]?) : OwnW w' v l := by
  refine ⟨h.1, ?_⟩
  rcases h.2 with h0 | ⟨g', cap, cur, rfl, hg, h1⟩
  · exact .inl h0
  · exact .inr ⟨g', cap, cur, rfl, (hs g' rfl).trans hg, h1⟩
theorem OwnW.form {w : World} {v : Value} {l : List Nat} (h : OwnW w v l) : ∃ A c, v = .slice A l.length c ∧ l.length ≤ c ∧ c ≤ maxLen := by
  rcases h.2 with ⟨rfl, rfl⟩ | ⟨g, cap, cur, rfl, _, h1, h2, _⟩
  · exact ⟨none, 0, rfl, by simp, Nat.zero_le _⟩
  · exact ⟨_, cap, rfl, h1, h2⟩
theorem OwnW.cells {w : World} {g cap : Nat} {l : List Nat} (h : OwnW w (.slice (some ⟨g, 0, none⟩) l.length cap) l) : ∀ (j : Nat) (u : Value), (u8s l)[j]? = some u → w.cell? ((⟨g, 0, none⟩ : Addr).add j) = some u := by
  intro j u hu
  rcases h.2 with ⟨h0, _⟩ | ⟨g', cap', cur, e, hg, h1, h2, h3, h4⟩
  · cases h0
  · simp only [Value.slice.injEq, Option.some.injEq, Addr.mk.injEq, and_true, true_and] at e
    obtain ⟨rfl, rfl⟩ := e
    have hadd : (⟨g, 0, none⟩ : Addr).add j = ⟨g, j, none⟩ := by unfold Addr.add; split <;> simp_all
    rw [hadd, cell_of_row w g j _ _ _ hg]
    rw [← h4, List.getElem?_take] at hu
    split at hu
    · rw [← hu, Array.getElem?_toList]
    · cases hu
theorem OwnW.bytes {w : World} {A : Option Addr} {n c : Nat} {l : List Nat} (h : OwnW w (.slice A n c) l) : n = l.length ∧ n ≤ c ∧ Bytes w A n l := by
  obtain ⟨A', c', e, h1, h2⟩ := h.form
  simp only [Value.slice.injEq] at e
  obtain ⟨rfl, rfl, rfl⟩ := e
  refine ⟨rfl, h1, rfl, by omega, fun i x hi => ⟨h.1 x (List.mem_of_getElem? hi), ?_⟩⟩
  rcases h.2 with ⟨_, rfl⟩ | ⟨g', cap', cur, e, hg, h3, h4, h5, h6⟩
  · cases hi
  · simp only [Value.slice.injEq, true_and] at e
    obtain ⟨rfl, rfl⟩ := e
    exact ⟨_, rfl, h.cells i _ (by simp [u8s, hi])⟩
/-- Cut to its beginning; its room as it was, or cut too. -/
theorem OwnW.cut {w : World} {A : Option Addr} {c : Nat} {l : List Nat} (h : OwnW w (.slice A l.length c) l) {n : Nat} (hn : n ≤ l.length) (c' : Nat) (h1 : n ≤ c') (h2 : c' ≤ c) : OwnW w (.slice A n c') (l.take n) := by
  refine ⟨fun x hx => h.1 x (List.mem_of_mem_take hx), ?_⟩
  have hl : (l.take n).length = n := by rw [List.length_take]; omega
  rcases h.2 with ⟨e, rfl⟩ | ⟨g, cap, cur, e, hg, h3, h4, h5, h6⟩
  · simp only [Value.slice.injEq] at e
    obtain ⟨rfl, _, rfl⟩ := e
    have : n = 0 := by simpa using hn
    subst this
    have : c' = 0 := by omega
    subst this
    exact .inl ⟨rfl, rfl⟩
  · simp only [Value.slice.injEq, true_and] at e
    obtain ⟨rfl, rfl⟩ := e
    refine .inr ⟨g, c', cur, by rw [hl], hg, by omega, by omega, by omega, ?_⟩
    rw [hl]
    have h7 := congrArg (List.take n) h6
    rw [List.take_take, Nat.min_eq_left hn] at h7
    rw [h7]
    simp [u8s, List.map_take]

theorem run_appW (w : World) (t ty : TypeId) (i : TypeInfo) (z : Value) (ht : P.underlying t = some (.slice 5)) (hi : P.info? 5 = some i) (hz : i.zero = some z)
    (hsize : i.size = 1) (hby : i.bytes = 1) (hzs : z.cells.size = 1)
    (v : Value) (l : List Nat) (hown : OwnW w v l) (A : Option Addr) (m c : Nat) (p : List Nat) (hp : Bytes w A m p)
    (hb : l.length + m ≤ 140737488355328) :
    ∃ v' w', (Builtin.append_ #[t, t] ty #[v, .slice A m c]).run P w = .ok v' w' ∧ OwnW w' v' (l ++ p) ∧ w.grownBy w' v.ownBlock ∧ (v'.ownBlock = v.ownBlock ∨ v'.ownBlock = some w.heap.size) := by
  have hmp : m = p.length := hp.1
  have h63 : l.length + m ≤ maxLen := by unfold maxLen; omega
  have h256 : ∀ c ∈ l ++ p, c < 256 := fun c hc => by
    rcases List.mem_append.1 hc with hc | hc
    · exact hown.1 c hc
    · obtain ⟨k, hk⟩ := List.getElem?_of_mem hc
      exact (hp.2.2 k c hk).1
  have hl : (u8s p).length = m * i.size := by rw [u8s_length, hmp, hsize, Nat.mul_one]
  have hfull : l.length + m = (l ++ p).length := by rw [List.length_append, hmp]
  by_cases hm : m = 0
  · have hnil : p = [] := List.eq_nil_of_length_eq_zero (by omega)
    subst hnil
    subst hm
    refine ⟨v, w, ?_, by simpa using hown, ⟨rfl, rfl, rfl, Nat.le_refl _, fun _ _ _ => rfl⟩, .inl rfl⟩
    have hfc : (Builtin.firstCells i.size 0 (.slice A 0 c)).run P w = .ok #[] w := by
      cases A <;> simp [Builtin.firstCells, loadCells, loadCellsFrom]
    obtain ⟨B, cap, rfl, hc1, hc2⟩ := hown.form
    rcases hown.2 with ⟨e, rfl⟩ | ⟨g, cap', cur, e, _⟩
    · simp only [Value.slice.injEq] at e
      obtain ⟨rfl, _, rfl⟩ := e
      simp [Builtin.append_, run_underlying ht, sizeOf, typeInfo, hi, Builtin.lenOf, hfc]
    · simp only [Value.slice.injEq, true_and] at e
      obtain ⟨rfl, rfl⟩ := e
      simp [Builtin.append_, run_underlying ht, sizeOf, typeInfo, hi, Builtin.lenOf, hfc, hc1, storeCells]
  · have hpos : 0 < p.length := by omega
    obtain ⟨_, ad, rfl, _⟩ := hp.2.2 0 p[0] (List.getElem?_eq_getElem hpos)
    have hnews : ∀ (j : Nat) (u : Value), (u8s p)[j]? = some u → w.cell? (ad.add j) = some u := fun j u hj => by
      simp only [u8s, List.getElem?_map, Option.map_eq_some_iff] at hj
      obtain ⟨x, hx, rfl⟩ := hj
      obtain ⟨_, ad', e, hc⟩ := hp.2.2 j x hx
      cases e
      exact hc
    have grown : ∀ (old : Nat), old < l.length + m → ∀ (row : Option Nat),
        OwnW (w.drew.alloc (.cells ((u8s l).toArray ++ (u8s p).toArray ++ Builtin.zeroCells z.cells (grownCap w (l.length + m) old 5 - (l.length + m))) 5)) (.slice (some ⟨w.heap.size, 0, none⟩) (l.length + m) (grownCap w (l.length + m) old 5)) (l ++ p) ∧
        w.grownBy (w.drew.alloc (.cells ((u8s l).toArray ++ (u8s p).toArray ++ Builtin.zeroCells z.cells (grownCap w (l.length + m) old 5 - (l.length + m))) 5)) row := by
      intro old ho row
      have hge := grownCap_ge w (l.length + m) old 5
      have hcm : grownCap w (l.length + m) old 5 ≤ maxLen := grownCap_le_maxLen w (l.length + m) old 5 h63
      refine ⟨⟨h256, .inr ⟨w.heap.size, _, _, by rw [hfull], heap_alloc_new w.drew _, by omega, hcm, ?_, ?_⟩⟩, ⟨rfl, rfl, rfl, by simp, fun k hk _ => heap_alloc_old w.drew _ hk⟩⟩
      · simp only [Array.size_append, List.size_toArray, size_zeroCells, hzs, u8s_length]
        omega
      · simp only [Array.toList_append, List.append_assoc]
        rw [← List.append_assoc, ← u8s_append, ← u8s_length (l ++ p)]
        exact List.take_left
    rcases hown.2 with ⟨rfl, rfl⟩ | ⟨g, cap, cur, rfl, hg, hnc, hcm, hcs, htake⟩
    · have hr := run_append_nil (P := P) w t ty 5 i z ht hi hz ad m c (u8s p) hl hnews (by omega) (by simp only [maxLen] at h63; omega) (by rw [hby]; simp at hb; omega)
      have hgr := grown 0 (by simp; omega) (Value.ownBlock (.slice none 0 0))
      simp only [List.length_nil, Nat.zero_add, List.nil_append, u8s, List.map_nil, Array.empty_append] at hgr hr ⊢
      exact ⟨_, _, hr, hgr.1, hgr.2, .inr rfl⟩
    · by_cases hroom : l.length + m ≤ cap
      · have hfit : l.length * i.size + (u8s p).length ≤ cur.size := by rw [hl, hsize]; omega
        have hr := run_append_room (P := P) w t ty 5 i ht hi g l.length cap cur hg ad m c (u8s p) hl hnews (u8s_one p) hroom hfit
        refine ⟨_, _, hr, ⟨h256, .inr ⟨g, cap, _, by rw [hfull], setRow_heap w g cur _ 5 _ hg, by omega, hcm, ?_, ?_⟩⟩, ⟨rfl, rfl, rfl, by simp, fun k _ hk => setRow_other w g k _ (fun e => hk (by simp [Value.ownBlock, e]))⟩, .inl rfl⟩
        · simp only [List.size_toArray, List.length_append, List.length_take, List.length_drop, Array.length_toList]
          omega
        · rw [hsize, Nat.mul_one, htake, ← u8s_append, ← u8s_length (l ++ p)]
          exact List.take_left
      · have holds : ∀ (j : Nat) (u : Value), (u8s l)[j]? = some u → w.cell? ((⟨g, 0, none⟩ : Addr).add j) = some u := hown.cells
        have hr := run_append_grow (P := P) w t ty 5 i z ht hi hz ⟨g, 0, none⟩ l.length cap (u8s l) (by rw [u8s_length, hsize, Nat.mul_one]) holds ad m c (u8s p) hl hnews (by omega) (by simp only [maxLen] at h63; omega) (growslice_fits (by omega) (by rw [hby]; omega))
        have hgr := grown cap (by omega) (Value.ownBlock (.slice (some ⟨g, 0, none⟩) l.length cap))
        exact ⟨_, _, hr, hgr.1, hgr.2, .inr rfl⟩
end
end Go.Proofs.Ytpdfbkkhmfnnjaa
