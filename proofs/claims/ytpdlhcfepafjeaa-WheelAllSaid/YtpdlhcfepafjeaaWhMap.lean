/- A map from ids to ticks that the call has made: what it holds, in timers. -/
import Derived.Test.YtpdlhcfepafjeaaTimers
import Derived.Test.YtpdlhcfepafjeaaIdEq
import Derived.Test.YtpdlhcfepafjeaaReg
import Derived.Maps.Views
import Derived.Maps.Own
import Derived.Maps.OwnOps
import Derived.Maps.OwnSet
import Derived.Maps.RangeWalk
import Derived.Maps.Keyed
import Derived.DeepKeys4
import Derived.Carry
import Derived.WalkKit
import Derived.WalkSpells
import Derived.WalkLawsBesides
import Derived.Deep.RegionHeld3
import Derived.Deep.DrawnRows
import Derived.Deep.DeepCutAuto
import Derived.Deep.DeepFit
import Derived.Lib.Hide
import Derived.BigQuiet
import Derived.Deep.QuietTactic
namespace Go.Proofs.Ytpdlhcfepafjeaa
open Go.RowKit
set_option linter.unusedVariables false
set_option linter.unusedSimpArgs false
set_option maxRecDepth 20000
attribute [local go_sem ↓] Go.wp_at_zero Go.wp_at_succ
attribute [local go_sem] World.cell?_alloc_some frozen_alloc_some
open Go.Maps

/-- All cells stay as they are; maps may have turned. -/
structure Cells (w w' : World) : Prop where
  os : w'.os = w.os
  tape : w'.tape = w.tape
  output : w'.output = w.output
  size : w.heap.size ≤ w'.heap.size
  same : ∀ (k : Nat) (cs : Array Value) (t : TypeId) (f : Nat × Nat), w.heap[k]? = some (Obj.cells cs t f) → w'.heap[k]? = some (Obj.cells cs t f)
theorem Cells.refl (w : World) : Cells w w := ⟨rfl, rfl, rfl, Nat.le_refl _, fun _ _ _ _ h => h⟩
theorem Cells.trans {a b c : World} (h : Cells a b) (k : Cells b c) : Cells a c :=
  ⟨k.os.trans h.os, k.tape.trans h.tape, k.output.trans h.output, Nat.le_trans h.size k.size, fun i cs t f hi => k.same i cs t f (h.same i cs t f hi)⟩
theorem Cells.of_below {w w' : World} (h : Below w.heap.size w w') : Cells w w' :=
  ⟨h.os, h.tape, h.output, h.size, fun k cs t f hk => (h.block k (Array.getElem?_eq_some_iff.1 hk).1).trans hk⟩
theorem Cells.of_map {w w' : World} {b : Nat} {es : Array MapEntry} {c : Nat} (hg : w.grownBy w' (some b)) (hb : w.heap[b]? = some (.map es c)) : Cells w w' :=
  ⟨hg.os, hg.tape, hg.output, hg.size, fun k cs t f hk => (hg.block k (Array.getElem?_eq_some_iff.1 hk).1 (fun e => by
    injection e with e
    subst e
    rw [hb] at hk
    cases hk)).trans hk⟩
theorem Cells.blk {w w' : World} {g : Nat} {t : TypeId} {cs : Array Value} (h : Cells w w') (hb : Blk w g t cs) : Blk w' g t cs := h.same _ _ _ _ hb
theorem Cells.cell {w w' : World} {a : Addr} {v : Value} (h : Cells w w') (hc : w.cell? a = some v) : w'.cell? a = some v := by
  have hlt := World.block_lt_of_cell? _ _ hc
  cases ho : w.heap[a.block]? with
  | none => simp [World.cell?, ho] at hc
  | some o =>
    cases o
    case cells cs t f =>
      have h2 := h.same _ _ _ _ ho
      unfold World.cell? at hc ⊢
      rw [ho] at hc
      rw [h2]
      exact hc
    all_goals simp [World.cell?, ho] at hc
theorem Cells.own {w w' : World} {base : Nat} {e : TypeId} {size : Nat} {v : Value} {n : Nat} {xs : List Value} (hc : Cells w w') (h : w.ownsRow base e size v n xs) : w'.ownsRow base e size v n xs := by
  refine ⟨h.1, ?_⟩
  rcases h.2 with h0 | ⟨g, cap, cur, e1, hbs, hg, rest⟩
  · exact .inl h0
  · exact .inr ⟨g, cap, cur, e1, hbs, hc.same _ _ _ _ hg, rest⟩
theorem Cells.ids {w w' : World} {A : Option Addr} {m : Nat} {l : List IdP} (hc : Cells w w') (h : IdsAt w A m l) : IdsAt w' A m l :=
  ⟨h.1, h.2.1, fun i x hi => by
    obtain ⟨w1, w2, b, o, e, h1, h2⟩ := h.2.2 i x hi
    exact ⟨w1, w2, b, o, e, hc.cell h1, hc.cell h2⟩⟩

abbrev wfI (i : IdP) : Prop := (Lit.int .i64 i.1).wf = true ∧ (Lit.int .i64 i.2).wf = true
abbrev idV (i : IdP) : Value := .agg #[.int .i64 i.1, .int .i64 i.2]
/-- What an id reads as, as a key. -/
def idK (i : IdP) : Lit := .string (keyBytes [.int .i64 i.1, .int .i64 i.2])
theorem idK_key (i : IdP) : WideAt.IsKeyLit (idK i) := trivial
theorem laidOutW : laidOutB Try.prog = true := by kernel_rfl
theorem rowId : (34 : TypeId) < Try.prog.types.size := of_decide_eq_true (by kernel_rfl)
theorem wideId : (match Try.prog.underlying 34 with | some (.array _ _) | some (.struct _) => true | _ => false) = true := by rw [Try.underlying34]
theorem idLaw : Keyed Try.prog 34 := Keyed.of_law (deep_law_laid laidOutW (m := 2) (by omega) rowId (by kernel_rfl) wideId)
theorem cellsId : Try.prog.cellsOf 34 = 2 := by kernel_rfl
theorem cellsInt : Try.prog.cellsOf 3 = 1 := by kernel_rfl
theorem keyTypeId : Try.prog.keyType 34 = true := by kernel_rfl
theorem keyOf_id {i : IdP} (h : wfI i) : keyOf Try.prog 34 (idV i) = some (idK i) := by
  have hf : (idV i).formed Try.prog 34 = true := by simp [Value.formed, Try.underlying34, cellsId]
  obtain ⟨h1, h2⟩ := h
  have hl : ∀ d, Try.prog.keyLits (d + 2) 34 [.int .i64 i.1, .int .i64 i.2] = some [.int .i64 i.1, .int .i64 i.2] := fun d => by
    simp [Program.keyLits, Try.underlying34, Try.underlying3, cellsId, cellsInt, h1, h2]
  obtain ⟨d, hd⟩ : ∃ d, Try.prog.types.size + 1 = d + 2 := ⟨Try.prog.types.size - 1, by have h : (34 : Nat) < Try.prog.types.size := rowId; omega⟩
  unfold keyOf
  rw [Try.underlying34]
  simp only [keyTypeId, hf, Bool.and_self, if_true]
  have hc : (idV i).cells.toList = [.int .i64 i.1, .int .i64 i.2] := rfl
  rw [hc, hd, hl]
  rfl
theorem idK_inj {i k : IdP} (hi : wfI i) (hk : wfI k) (h : idK i = idK k) : i = k := by
  have h1 := keyOf_id hi
  have h2 := keyOf_id hk
  rw [h] at h1
  have e := idLaw.inj h1 h2
  simp only [idV, Value.agg.injEq, Array.mk.injEq, List.cons.injEq, Value.int.injEq, true_and, and_true] at e
  exact Prod.ext e.1 e.2
noncomputable abbrev RI : Value → Option (DataW Unit × List MemPlace) := plainElem Try.prog 3
theorem ri_int {a : Int} (h : (Lit.int .i64 a).wf = true) : RI (.int .i64 a) = some (.lit (.int .i64 a), []) := plainElem_int Try.underlying3 h
theorem zeroInt (w : World) : (zeroValue 3).run Try.prog w = .ok (.int .i64 0) w := by kernel_rfl

/-- The map holds just these timers. -/
structure Rep (D : DataW Unit) (x : List TimT) : Prop where
  has : ∀ t ∈ x, Maps.has D (idK t.1) = true
  at_ : ∀ t ∈ x, ∀ z, D.atKey (idK t.1) z = .lit (.int .i64 t.2)
  only : ∀ kl, Maps.has D kl = true → ∃ t ∈ x, kl = idK t.1
  size : Maps.size D = x.length
  nd : Ids1 x
  wf : ∀ t ∈ x, wfI t.1 ∧ (Lit.int .i64 t.2).wf = true
theorem Rep.nil : Rep (.map [] : DataW Unit) [] :=
  ⟨(fun t h => by cases h), (fun t h => by cases h), (fun kl h => by simp [Maps.has] at h), rfl, List.Pairwise.nil, (fun t h => by cases h)⟩
theorem Rep.miss {D : DataW Unit} {x : List TimT} (h : Rep D x) {i : IdP} (hi : wfI i) (hn : ∀ t ∈ x, t.1 ≠ i) : Maps.has D (idK i) = false := by
  cases hh : Maps.has D (idK i)
  · rfl
  · obtain ⟨t, ht, e⟩ := h.only _ hh
    exact absurd (idK_inj hi (h.wf t ht).1 e).symm (hn t ht)
theorem Rep.hit {D : DataW Unit} {x : List TimT} (h : Rep D x) {i : IdP} (hi : wfI i) : Maps.has D (idK i) = x.any fun t => decide (t.1 = i) := by
  rw [Bool.eq_iff_iff, List.any_eq_true]
  constructor
  · intro hh
    obtain ⟨t, ht, e⟩ := h.only _ hh
    exact ⟨t, ht, by simpa using (idK_inj hi (h.wf t ht).1 e).symm⟩
  · rintro ⟨t, ht, e⟩
    simp only [decide_eq_true_eq] at e
    rw [← e]
    exact h.has t ht
theorem Rep.del {D : DataW Unit} {x : List TimT} (h : Rep D x) (hT : Tidy D) {i : IdP} (hi : wfI i) : Rep (D.del (idK i)) (outT x i) := by
  have hne : ∀ t ∈ outT x i, idK t.1 ≠ idK i := fun t ht e => by
    obtain ⟨h1, h2⟩ := mem_outT.1 ht
    exact h2 (idK_inj (h.wf t h1).1 hi e)
  refine ⟨fun t ht => ?_, fun t ht z => ?_, fun kl hk => ?_, ?_, outT_ids h.nd i, fun t ht => h.wf t (mem_outT.1 ht).1⟩
  · rw [has_del_other (hne t ht)]; exact h.has t (mem_outT.1 ht).1
  · rw [atKey_del_other (hne t ht)]; exact h.at_ t (mem_outT.1 ht).1 z
  · have hki : kl ≠ idK i := fun e => by rw [e, has_del_same] at hk; cases hk
    rw [has_del_other hki] at hk
    obtain ⟨t, ht, e⟩ := h.only kl hk
    exact ⟨t, mem_outT.2 ⟨ht, fun e2 => hki (by rw [e, e2])⟩, e⟩
  · have h1 := size_del (k := idK i) hT
    have h2 := outT_length (i := i) h.nd
    rw [h.hit hi] at h1
    rw [h.size] at h1
    cases ha : x.any (fun t => decide (t.1 = i))
    · rw [ha] at h1 h2
      simp at h1 h2
      omega
    · rw [ha] at h1 h2
      simp at h1 h2
      omega
theorem Rep.put {D : DataW Unit} {x : List TimT} (h : Rep D x) (hT : Tidy D) {t : TimT} (hi : wfI t.1) (ht : (Lit.int .i64 t.2).wf = true) : Rep (D.put (idK t.1) (.lit (.int .i64 t.2))) (setT x t) := by
  have hne : ∀ u ∈ outT x t.1, idK u.1 ≠ idK t.1 := fun u hu e => by
    obtain ⟨h1, h2⟩ := mem_outT.1 hu
    exact h2 (idK_inj (h.wf u h1).1 hi e)
  refine ⟨fun u hu => ?_, fun u hu z => ?_, fun kl hk => ?_, ?_, setT_ids h.nd t, fun u hu => ?_⟩
  · rcases mem_insT.1 hu with rfl | hu
    · exact has_put_same hT.isMap (idK_key _) _
    · rw [has_put_other (hne u hu)]; exact h.has u (mem_outT.1 hu).1
  · rcases mem_insT.1 hu with rfl | hu
    · exact atKey_put_same hT.isMap (idK_key _) _ _
    · rw [atKey_put_other (hne u hu)]; exact h.at_ u (mem_outT.1 hu).1 z
  · by_cases hki : kl = idK t.1
    · exact ⟨t, mem_insT.2 (.inl rfl), hki⟩
    · rw [has_put_other hki] at hk
      obtain ⟨u, hu, e⟩ := h.only kl hk
      exact ⟨u, mem_insT.2 (.inr (mem_outT.2 ⟨hu, fun e2 => hki (by rw [e, e2])⟩)), e⟩
  · rw [size_put hT, setT, insT_length]
    have h2 := outT_length (i := t.1) h.nd
    rw [h.hit hi, h.size]
    cases ha : x.any (fun u => decide (u.1 = t.1))
    · rw [ha] at h2
      simp at h2 ⊢
      omega
    · rw [ha] at h2
      simp at h2 ⊢
      omega
  · rcases mem_insT.1 hu with rfl | hu
    · exact ⟨hi, ht⟩
    · exact h.wf u (mem_outT.1 hu).1
/-- The same timers in another order. -/
theorem Rep.other {D : DataW Unit} {x y : List TimT} (h : Rep D x) (hn : Ids1 y) (hl : y.length = x.length) (hm : ∀ t, t ∈ y ↔ t ∈ x) : Rep D y :=
  ⟨fun t ht => h.has t ((hm t).1 ht), fun t ht => h.at_ t ((hm t).1 ht), fun kl hk => by obtain ⟨t, ht, e⟩ := h.only kl hk; exact ⟨t, (hm t).2 ht, e⟩, h.size.trans hl.symm, hn, fun t ht => h.wf t ((hm t).1 ht)⟩
/-- The tick of an id, 0 where there is none. -/
def atV (x : List TimT) (i : IdP) : Int := match x.find? (fun t => decide (t.1 = i)) with | some t => t.2 | none => 0
theorem atV_hit {x : List TimT} (h : Ids1 x) {t : TimT} (ht : t ∈ x) : atV x t.1 = t.2 := by
  unfold atV
  cases hf : x.find? (fun u => decide (u.1 = t.1)) with
  | none =>
    have := List.find?_eq_none.1 hf t ht
    simp at this
  | some u =>
    have h1 := List.find?_some hf
    rw [ids1_one h (List.mem_of_find?_eq_some hf) ht (by simpa using h1)]
theorem atV_miss {x : List TimT} {i : IdP} (hn : ∀ t ∈ x, t.1 ≠ i) : atV x i = 0 := by
  unfold atV
  cases hf : x.find? (fun u => decide (u.1 = i)) with
  | none => rfl
  | some u =>
    have h1 := List.find?_some hf
    exact absurd (of_decide_eq_true h1) (hn u (List.mem_of_find?_eq_some hf))
theorem Rep.atKey {D : DataW Unit} {x : List TimT} (h : Rep D x) {i : IdP} (hi : wfI i) : D.atKey (idK i) (.lit (.int .i64 0)) = .lit (.int .i64 (atV x i)) := by
  cases ha : x.any (fun t => decide (t.1 = i))
  · have hn : ∀ t ∈ x, t.1 ≠ i := fun t ht e => by
      have : x.any (fun t => decide (t.1 = i)) = true := List.any_eq_true.2 ⟨t, ht, by simpa using e⟩
      rw [ha] at this; cases this
    rw [atKey_of_not_has (h.miss hi hn), atV_miss hn]
  · obtain ⟨t, ht, e⟩ := List.any_eq_true.1 ha
    simp only [decide_eq_true_eq] at e
    subst e
    rw [h.at_ t ht, atV_hit h.nd ht]
/-- The map in a block of the call's own. -/
def MapAt (w : World) (b n : Nat) (x : List TimT) : Prop := ∃ D, w.ownsMap Try.prog 34 RI b n D ∧ Rep D x
theorem MapAt.made (w : World) : MapAt (w.alloc (.map #[] 0)) w.heap.size 0 [] := ⟨_, World.ownsMap_made w _ _ _, Rep.nil⟩
theorem MapAt.kept {w w' : World} {row : Option Nat} {b n : Nat} {x : List TimT} (h : MapAt w b n x) (hg : w.grownBy w' row) (hne : some b ≠ row) : MapAt w' b n x := by
  obtain ⟨D, h1, h2⟩ := h
  exact ⟨D, h1.kept hg hne, h2⟩
theorem MapAt.keep {w w' : World} {b n : Nat} {x : List TimT} (h : MapAt w b n x) (hb : Below w.heap.size w w') : MapAt w' b n x := by
  obtain ⟨D, ⟨es, c, h1, h2⟩, h3⟩ := h
  exact ⟨D, ⟨es, c, (hb.block b (Array.getElem?_eq_some_iff.1 h1).1).trans h1, h2⟩, h3⟩
theorem MapAt.drew {w : World} {b n : Nat} {x : List TimT} (h : MapAt w b n x) : MapAt w.drew b n x := h
theorem MapAt.mono {w : World} {b n n' : Nat} {x : List TimT} (h : MapAt w b n x) (hn : n ≤ n') : MapAt w b n' x := by
  obtain ⟨D, h1, h2⟩ := h
  exact ⟨D, h1.mono hn, h2⟩
theorem MapAt.lt {w : World} {b n : Nat} {x : List TimT} (h : MapAt w b n x) : b < w.heap.size := by
  obtain ⟨D, h1, _⟩ := h
  exact h1.lt
theorem MapAt.is_map {w : World} {b n : Nat} {x : List TimT} (h : MapAt w b n x) : ∃ es c, w.heap[b]? = some (.map es c) := by
  obtain ⟨D, ⟨es, c, h1, _⟩, _⟩ := h
  exact ⟨es, c, h1⟩
theorem MapAt.cells {w w' : World} {b n : Nat} {x : List TimT} (h : MapAt w b n x) (hg : w.grownBy w' (some b)) : Cells w w' := by
  obtain ⟨es, c, hb⟩ := h.is_map
  exact Cells.of_map hg hb
theorem MapAt.wf {w : World} {b n : Nat} {x : List TimT} (h : MapAt w b n x) : ∀ t ∈ x, wfI t.1 ∧ (Lit.int .i64 t.2).wf = true := by
  obtain ⟨D, _, h2⟩ := h
  exact h2.wf
theorem MapAt.len {w : World} {b n : Nat} {x : List TimT} (h : MapAt w b n x) : x.length ≤ n := by
  obtain ⟨D, h1, h2⟩ := h
  rw [← h2.size]
  exact h1.size_le
theorem MapAt.other {w : World} {b n : Nat} {x y : List TimT} (h : MapAt w b n x) (hn : Ids1 y) (hl : y.length = x.length) (hm : ∀ t, t ∈ y ↔ t ∈ x) : MapAt w b n y := by
  obtain ⟨D, h1, h2⟩ := h
  exact ⟨D, h1, h2.other hn hl hm⟩
theorem MapAt.look_ok {w : World} {b n : Nat} {x : List TimT} (h : MapAt w b n x) {i : IdP} (hi : wfI i) :
    (Instr.lookup 96 (.map (some b)) (idV i) true).run Try.prog w = .ok (.tuple #[.int .i64 (atV x i), .bool (x.any fun t => decide (t.1 = i))]) w := by
  obtain ⟨D, h1, h2⟩ := h
  obtain ⟨v, ps, hrun, hv⟩ := h1.look_ok idLaw Try.underlying96 (zeroInt w) (ri_int (a := 0) rfl) (keyOf_id hi)
  rw [h2.atKey hi] at hv
  obtain ⟨c, rfl, hc, _⟩ := plainElem_int_inv Try.underlying3 hv
  have hc2 := congrArg Prod.fst hc
  simp only [DataW.lit.injEq, Lit.int.injEq, true_and] at hc2
  rw [hrun, h2.hit hi, hc2]
theorem MapAt.look {w : World} {b n : Nat} {x : List TimT} (h : MapAt w b n x) {i : IdP} (hi : wfI i) :
    (Instr.lookup 96 (.map (some b)) (idV i) false).run Try.prog w = .ok (.int .i64 (atV x i)) w := by
  obtain ⟨D, h1, h2⟩ := h
  obtain ⟨c, hrun, hat, _⟩ := h1.lookup_int idLaw Try.underlying96 Try.underlying3 (zeroInt w) (keyOf_id hi)
  rw [h2.atKey hi] at hat
  simp only [DataW.lit.injEq, Lit.int.injEq, true_and] at hat
  rw [hrun, hat]
theorem MapAt.store {w : World} {b n : Nat} {x : List TimT} (h : MapAt w b n x) (hn : n < maxLen) {i : IdP} {v : Int} (hi : wfI i) (hv : (Lit.int .i64 v).wf = true) :
    ∃ w', (Instr.mapUpdate 96 (.map (some b)) (idV i) (.int .i64 v)).run Try.prog w = .ok () w' ∧ MapAt w' b (n + 1) (setT x (i, v)) ∧ w.grownBy w' (some b) := by
  obtain ⟨D, h1, h2⟩ := h
  obtain ⟨w', hrun, h3, h4⟩ := h1.update idLaw Try.underlying96 hn (keyOf_id hi) (ri_int hv)
  exact ⟨w', hrun, ⟨_, h3, h2.put (h1.tidy idLaw) (t := (i, v)) hi hv⟩, h4⟩
theorem MapAt.drop {w : World} {b n : Nat} {x : List TimT} (h : MapAt w b n x) {i : IdP} (hi : wfI i) (ty : TypeId) :
    ∃ w', (Builtin.delete_ #[96, 34] ty #[.map (some b), idV i]).run Try.prog w = .ok (.tuple #[]) w' ∧ MapAt w' b n (outT x i) ∧ w.grownBy w' (some b) := by
  obtain ⟨D, h1, h2⟩ := h
  obtain ⟨w', hrun, h3, h4⟩ := h1.drop idLaw Try.underlying96 (keyOf_id hi) ty
  exact ⟨w', hrun, ⟨_, h3, h2.del (h1.tidy idLaw) hi⟩, h4.grown⟩
theorem MapAt.size_ {w : World} {b n : Nat} {x : List TimT} (h : MapAt w b n x) (ty : TypeId) : (Builtin.len_ #[96] ty #[.map (some b)]).run Try.prog w = .ok (.int .i64 (x.length : Nat)) w := by
  obtain ⟨D, h1, h2⟩ := h
  rw [h1.len Try.underlying96 ty, h2.size]
end Go.Proofs.Ytpdlhcfepafjeaa
