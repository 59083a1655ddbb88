/- An item that came in: the tree that it is, and its size against the bulk of what was read. -/
import Derived.Test.YtfdfcceleaodaaaAttrItemsQ3
import Derived.Test.YtfdfcceleaodaaaRows
namespace Go.Proofs.Ytfdfcceleaodaaa
open Go.RowKit Go.ChangeShapes Go.WideShapes Go.Joins Go.Deep
set_option linter.unusedVariables false
set_option linter.unusedSimpArgs false
set_option linter.unnecessarySimpa false

section
variable {H : Type} {enc : TypeId × Value → H} {w : World} {base : Nat} {spare : Nat → Bool} {held : Bool}
theorem tsizes_bulk : ∀ (l : List Tree) (ds : List (DataW H)), l.length = ds.length → (∀ (i : Nat) (t : Tree) (d : DataW H), l[i]? = some t → ds[i]? = some d → tsize t ≤ Rows.uptoBulk d) → tsizes l ≤ Rows.uptoBulkAll ds
  | [], ds, _, _ => by simp [tsizes]
  | t :: l, [], h, _ => by simp at h
  | t :: l, d :: ds, h, hi => by
    have h1 := hi 0 t d rfl rfl
    have h2 := tsizes_bulk l ds (by simpa using h) fun i t d ht hd => hi (i + 1) t d (by simpa using ht) (by simpa using hd)
    simp only [tsizes, Rows.uptoBulkAll]
    omega
theorem open_item_trod {f0 f1 f2 f3 : Field} (ht : Try.prog.underlying 28 = some (.struct #[f0, f1, f2, f3])) (hone : oneCellFields Try.prog #[f0, f1, f2, f3] = true) (hC : Try.prog.cellsOf 28 = 4)
    (h0 : Try.prog.underlying f0.type = some (.int .i64)) (h1 : Try.prog.underlying f1.type = some (.int .u64)) (h2 : Try.prog.underlying f2.type = some .string) (h3 : Try.prog.underlying f3.type = some (.slice 28)) :
    ∀ (fuel : Nat) (cs : List Value) (x : DataW H × List MemPlace), DataW.trod enc Try.prog w base spare held fuel 28 cs = some x → ∃ tr, Holds w tr (.agg cs.toArray) ∧ tsize tr ≤ Rows.uptoBulk x.1 := by
  intro fuel
  induction fuel using Nat.strongRecOn with
  | _ fuel ih =>
    intro cs x h
    obtain ⟨xs, n, hn, rfl, hl, hlen, hf⟩ := DataW.trod_struct ht h
    rw [hC] at hl
    obtain ⟨c0, c1, c2, c3, rfl⟩ := list4 hl
    obtain ⟨y0, y1, y2, y3, rfl⟩ := list4 (show xs.length = 4 by simpa using hlen)
    obtain ⟨o0, k0⟩ := hone_of hone 0 f0 rfl
    obtain ⟨o1, k1⟩ := hone_of hone 1 f1 rfl
    obtain ⟨o2, k2⟩ := hone_of hone 2 f2 rfl
    obtain ⟨o3, k3⟩ := hone_of hone 3 f3 rfl
    have g0 : DataW.trod enc Try.prog w base spare held n f0.type [c0] = some y0 := by simpa [o0, k0] using hf 0 f0 rfl
    have g1 : DataW.trod enc Try.prog w base spare held n f1.type [c1] = some y1 := by simpa [o1, k1] using hf 1 f1 rfl
    have g2 : DataW.trod enc Try.prog w base spare held n f2.type [c2] = some y2 := by simpa [o2, k2] using hf 2 f2 rfl
    have g3 : DataW.trod enc Try.prog w base spare held n f3.type [c3] = some y3 := by simpa [o3, k3] using hf 3 f3 rfl
    obtain ⟨a, e0, rfl, wa⟩ := DataW.trod_int h0 g0
    obtain ⟨b, e1, rfl, wb⟩ := DataW.trod_int h1 g1
    obtain ⟨s, e2, rfl, ws⟩ := DataW.trod_string h2 g2
    simp at e0 e1 e2
    subst e0 e1 e2
    have hb := wf_u64 wb
    have hss : s.data.toList.length = s.size := by rw [Array.length_toList]; rfl
    obtain ⟨bn, rfl⟩ := Int.eq_ofNat_of_zero_le hb.1
    rcases DataW.trod_slice h3 g3 with ⟨e3, rfl⟩ | ⟨A, len, cap, elems, rest, q, hq, e3, rfl, hbA, hle, hcap, hel, helem, _, _⟩
    · simp at e3
      subst e3
      exact ⟨.mk a bn s [], .mk a bn s [] none 0 0 (fun _ => .int .i64 0) wa (by omega) ws rfl (Nat.le_refl _) (Nat.zero_le _) (fun i hi => absurd hi (by omega)) (fun i t hi => by simp at hi), by simp only [List.map_cons, List.map_nil, Rows.uptoBulk, Rows.uptoBulkAll, tsize, tsizes]; omega⟩
    · simp at e3
      subst e3
      have hex : ∀ i, i < len → ∃ p : Tree × List Value, (Holds w p.1 (.agg p.2.toArray) ∧ ∀ y, elems[i]? = some y → tsize p.1 ≤ Rows.uptoBulk y.1) ∧ ∀ j u, p.2[j]? = some u → w.cell? (A.add (4 * i + j)) = some u := by
        intro i hi
        have key := helem i hi
        rw [List.getElem?_eq_getElem (by omega)] at key
        obtain ⟨cs', h1', h2'⟩ := Option.bind_eq_some_iff.1 key
        obtain ⟨tr, htr, hsz⟩ := ih q (by omega) cs' _ h2'
        obtain ⟨_, hlc, hcell⟩ := World.cells?_some h1'
        refine ⟨(tr, cs'), ⟨htr, fun y hy => ?_⟩, fun j u hu => ?_⟩
        · rw [List.getElem?_eq_getElem (by omega)] at hy
          injection hy with hy
          rw [← hy]; exact hsz
        have hj : j < Try.prog.cellsOf 28 := by
          rw [← hlc]
          rcases Nat.lt_or_ge j cs'.length with h | h
          · exact h
          · rw [List.getElem?_eq_none h] at hu; cases hu
        have := hcell j hj
        rw [add_of_add, hC, Nat.mul_comm i 4] at this
        rw [this]; exact hu
      obtain ⟨F, hF⟩ := choose_lt hex
      refine ⟨.mk a bn s ((List.range len).map fun i => (F i).1), .mk a bn s _ (some A) len cap (fun i => .agg (F i).2.toArray) wa (by omega) ws (by simp) hle hcap (fun i hi => ⟨A, rfl, fun j u hu => (hF i hi).2 j u ?_⟩) (fun i t hi => ?_), ?_⟩
      · simpa [Value.cells] using hu
      · simp only [List.getElem?_map, Option.map_eq_some_iff] at hi
        obtain ⟨r, hr, rfl⟩ := hi
        obtain ⟨hlt, hv⟩ := List.getElem?_eq_some_iff.1 hr
        simp at hlt hv
        subst hv
        exact (hF i hlt).1.1
      · have hb2 := tsizes_bulk ((List.range len).map fun i => (F i).1) (elems.map (·.1)) (by simp [hel]) (fun i t d hi hd => by
          simp only [List.getElem?_map, Option.map_eq_some_iff] at hi hd
          obtain ⟨r, hr, rfl⟩ := hi
          obtain ⟨y, hy, rfl⟩ := hd
          obtain ⟨hlt, hv⟩ := List.getElem?_eq_some_iff.1 hr
          simp at hlt hv
          subst hv
          exact (hF i hlt).1.2 y hy)
        simp only [List.map_cons, List.map_nil, Rows.uptoBulk, Rows.uptoBulkAll, tsize]
        omega
set_option maxRecDepth 100000 in
theorem open_item {r : Reach} {b0 : Nat} {v : Value} {d : DataW H} {p : List MemPlace} (hv : Value.okWide Try.prog w r b0 28 v) (h : DataW.Trod enc Try.prog w base spare held 28 v d p) :
    ∃ t, Holds w t v ∧ tsize t ≤ Rows.uptoBulk d := by
  obtain ⟨cs, rfl, hsz⟩ := okWide_struct Try.underlying28 hv
  obtain ⟨fuel, hf⟩ := h
  obtain ⟨tr, h1, h2⟩ := open_item_trod Try.underlying28 (by kernel_rfl) (by kernel_rfl) (by kernel_rfl) (by kernel_rfl) (by kernel_rfl) (by kernel_rfl) fuel _ _ hf
  exact ⟨tr, by simpa [Value.cells] using h1, h2⟩
end
end Go.Proofs.Ytfdfcceleaodaaa
