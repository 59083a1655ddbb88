/- The append of a text to bytes of the call's own: where the new row lies, and what became of the old one. -/
import Derived.Test.YtfdfcceleaodaaaAttrItemsQ3
import Derived.Lib.AppendStr
namespace Go.Proofs.Ytfdfcceleaodaaa
open Go.RowKit
set_option linter.unusedVariables false
set_option linter.unusedSimpArgs false

theorem cells_txt (s : ByteArray) : Lib.strCells s = u8s (txt s) := by
  simp [Lib.strCells, u8s, txt]

section
variable {P : Program} {w : World}
theorem run_app_text (base : Nat) (t x ty e : TypeId) (i : TypeInfo) (ht : P.underlying t = some (.slice e)) (hx : P.underlying x = some .string) (hi : P.info? e = some i) (hz : i.zero = some (.int .u8 0))
    (hsize : i.size = 1) (hby : i.bytes = 1) (v : Value) (l : List Nat) (hown : w.ownsRow base e 1 v l.length (u8s l)) (s : ByteArray)
    (h63 : l.length + s.size ≤ maxLen) (hbytes : l.length + s.size ≤ 140737488355328) (hbase : base ≤ w.heap.size) :
    ∃ v' w', (Builtin.append_ #[t, x] ty #[v, .string s]).run P w = .ok v' w' ∧ w'.ownsRow base e 1 v' (l.length + (txt s).length) (u8s l ++ u8s (txt s)) ∧ w.grownBy w' v.ownBlock ∧
      (v'.ownBlock = v.ownBlock ∨ v'.ownBlock = some w.heap.size) ∧ w'.ownsRow base e 1 v l.length (u8s l) := by
  obtain ⟨v', w', hr, h2, h3, h4⟩ := Lib.run_append_own_string (P := P) w base t x ty e i ht hx hi hz hsize hby v l.length (u8s l) hown s h63 hbytes hbase
  rw [cells_txt] at h2
  rw [← txt_length] at h2
  refine ⟨v', w', hr, h2, h3, ?_⟩
  rcases hown.2 with ⟨rfl, hl⟩ | ⟨g, cap, cur, rfl, hbg, hg, hnc, hcm, hcs, htake⟩
  · have hl0 : l = [] := List.eq_nil_of_length_eq_zero hl
    subst hl0
    refine ⟨?_, World.ownsRow_nil _ _ _ _⟩
    by_cases hs : s.size = 0
    · rw [h4.2 ⟨rfl, hs⟩]; exact .inl rfl
    · have hr' := run_append_nil_string (P := P) w t x ty e i (.int .u8 0) ht hx hi hz s (by omega) (by unfold maxLen at h63; simp at h63; omega) (by rw [hby]; simp at hbytes; omega)
      rw [hr] at hr'
      injection hr' with hv _
      subst hv
      exact .inr rfl
  · by_cases hroom : l.length + s.size ≤ cap
    · have hr' := Lib.run_append_room_string (P := P) w t x ty e i ht hx hi hsize g l.length cap cur hg s hroom (by omega)
      rw [hr] at hr'
      injection hr' with hv hw
      subst hv hw
      refine ⟨.inl rfl, hown.1, .inr ⟨g, cap, _, rfl, hbg, setRow_heap w g cur _ e _ hg, hnc, hcm, ?_, ?_⟩⟩
      · simp only [List.size_toArray, List.length_append, List.length_take, List.length_drop, Array.length_toList, Lib.strCells_length]
        omega
      · have ht' : cur.toList.take l.length = u8s l := by simpa using htake
        rw [ht', Nat.mul_one, List.append_assoc]
        exact List.take_append_of_le_length (by simp [u8s_length]) |>.trans (List.take_of_length_le (by simp [u8s_length]))
    · have holds : ∀ j u, (u8s l)[j]? = some u → w.cell? ((⟨g, 0, none⟩ : Addr).add j) = some u := hown.cells (g := g) rfl
      have hr' := Lib.run_append_grow_string (P := P) w t x ty e i (.int .u8 0) ht hx hi hz ⟨g, 0, none⟩ l.length cap (u8s l) (by rw [hsize, u8s_length]; omega) holds s (by omega) (by unfold maxLen at h63; omega) (by rw [hby]; exact growslice_fits (by omega) (by omega))
      rw [hr] at hr'
      injection hr' with hv hw
      subst hv hw
      refine ⟨.inr rfl, hown.1, .inr ⟨g, cap, cur, rfl, hbg, ?_, hnc, hcm, hcs, htake⟩⟩
      exact (Below.heap_alloc w.drew _ g (Array.getElem?_eq_some_iff.1 hg).1).trans hg

/-- At the list of a plain region's operations. -/
theorem wpList_app_text {ops : Array Oper} {rest : List Oper} {o : Oper} {a : Act} {Q : Exit → Act → World → Prop} (hgd : o.guard = none) (sl xo : Operand) (t x : TypeId)
    (ho : o.op = .call { callee := .builtin .append, args := #[sl, xo], argTypes := #[t, x] })
    (base : Nat) (e : TypeId) (i : TypeInfo) (ht : P.underlying t = some (.slice e)) (hx : P.underlying x = some .string) (hi : P.info? e = some i) (hz : i.zero = some (.int .u8 0))
    (hsize : i.size = 1) (hby : i.bytes = 1)
    (v : Value) (l : List Nat) (hs : a.eval sl = v) (hown : w.ownsRow base e 1 v l.length (u8s l)) (s : ByteArray) (hxe : a.eval xo = .string s)
    (h63 : l.length + s.size ≤ maxLen) (hbytes : l.length + s.size ≤ 140737488355328) (hbase : base ≤ w.heap.size)
    (h : ∀ v' w', w'.ownsRow base e 1 v' (l.length + (txt s).length) (u8s l ++ u8s (txt s)) → w.grownBy w' v.ownBlock → (v'.ownBlock = v.ownBlock ∨ v'.ownBlock = some w.heap.size) → w'.ownsRow base e 1 v l.length (u8s l) → wpList P ops Q rest (a.put o.dst v') w') : wpList P ops Q (o :: rest) a w := by
  refine wpList_plain hgd fun K hK => ?_
  obtain ⟨v', w', hr, h2, h3, h4, h5⟩ := run_app_text (P := P) (w := w) base t x o.type e i ht hx hi hz hsize hby v l hown s h63 hbytes hbase
  unfold Oper.wp execOp
  simp only [ho, resolve, invoke, builtin, Sem.run_bind, Sem.run_pure, Result.andThen_ok, List.map_toArray, List.map_cons, List.map_nil, hs, hxe, hr]
  exact hK _ _ (h v' w' h2 h3 h4 h5)
end

/-- One call behind the other. -/
theorem Onto.trans {w w1 w2 : World} {base : Nat} {e : TypeId} {b b1 b2 : Value} {l l1 l2 : List Nat} (h : Onto w base e b l w1 b1 l1) (k : Onto w1 base e b1 l1 w2 b2 l2) : Onto w base e b l w2 b2 l2 := by
  obtain ⟨mm, rfl⟩ := h.pre
  obtain ⟨m2, rfl⟩ := k.pre
  refine ⟨k.own, grown_trans' h.grown k.grown h.place, ?_, ?_, ⟨mm ++ m2, by simp⟩, h.lt⟩
  · rcases k.place with hat | ⟨g, hat, hg⟩
    · rw [hat]; exact h.place
    · exact .inr ⟨g, hat, Nat.le_trans h.grown.size hg⟩
  · rcases h.place with hpl | ⟨g, hpl, hgw⟩
    · exact h.old.pre h.own hpl k.old
    · refine h.old.kept k.grown ?_
      cases hbo : b.ownBlock with
      | none => exact .inl rfl
      | some j =>
        right
        rw [hpl]
        intro hj
        injection hj with hj
        have := h.lt j hbo
        omega
theorem Onto.appends {w : World} {base : Nat} {e : TypeId} {b b1 : Value} {l l1 m : List Nat} {w1 w2 : World} {r : Ending} (h : Onto w base e b l w1 b1 l1) (k : Appends w1 base e b1 l1 m r w2) :
    ∃ b2, r = .returned b2 ∧ Onto w base e b l w2 b2 (l1 ++ m) ∧ Onto w1 base e b1 l1 w2 b2 (l1 ++ m) := by
  obtain ⟨b2, hr, hk⟩ := k
  exact ⟨b2, hr, h.trans hk, hk⟩
end Go.Proofs.Ytfdfcceleaodaaa
