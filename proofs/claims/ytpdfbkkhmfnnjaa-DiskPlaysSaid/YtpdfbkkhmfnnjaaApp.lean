/- append onto a row of the call's own, from whatever source: what the new slice owns, where it lies, and that the old slice still reads as it did. -/
import Derived.Test.YtpdfbkkhmfnnjaaBase
import Derived.Maps.AppendAt
import Derived.Deep.AppendLies
import Derived.Deep.RegionLaw
namespace Go.Proofs.Ytpdfbkkhmfnnjaa
open Go.RowKit
section
variable {P : Program} (w : World)

/-- What is appended: m elements at the address A (none where there are none). -/
def Src (w : World) (size : Nat) (A : Option Addr) (m : Nat) (news : List Value) : Prop :=
  news.length = m * size ∧ (∀ j u, news[j]? = some u → ∃ ad, A = some ad ∧ w.cell? (ad.add j) = some u) ∧ ∀ u ∈ news, u.oneCell' = true

theorem run_app (base : Nat) (t ty e : TypeId) (i : TypeInfo) (z : Value) (size bytes : Nat) (ht : P.underlying t = some (.slice e)) (hi : P.info? e = some i) (hz : i.zero = some z)
    (hsize : i.size = size) (hby : i.bytes = bytes) (hzs : z.cells.size = size) (hsz : 0 < size)
    (v : Value) (n : Nat) (xs : List Value) (hown : w.ownsRow base e size v n xs) (A : Option Addr) (m c : Nat) (news : List Value) (hs : Src w size A m news)
    (h63 : n + m ≤ maxLen) (hbytes : (n + m) * bytes ≤ 140737488355328) (hbase : base ≤ w.heap.size) :
    ∃ v' w', (Builtin.append_ #[t, t] ty #[v, .slice A m c]).run P w = .ok v' w' ∧ w'.ownsRow base e size v' (n + m) (xs ++ news) ∧ w.grownBy w' v.ownBlock ∧
      (v'.ownBlock = v.ownBlock ∨ v'.ownBlock = some w.heap.size) ∧ w'.ownsRow base e size v n xs := by
  obtain ⟨hl, hsrc, h1⟩ := hs
  by_cases hm0 : m = 0
  · -- nothing is appended
    subst hm0
    have hn : news = [] := List.eq_nil_of_length_eq_zero (by simpa using hl)
    subst hn
    refine ⟨v, w, ?_, by simpa using hown, ⟨rfl, rfl, rfl, Nat.le_refl _, fun _ _ _ => rfl⟩, .inl rfl, hown⟩
    have hfc : ∀ s : Nat, (Builtin.firstCells s 0 (.slice A 0 c)).run P w = .ok #[] w := by
      intro s
      cases A <;> simp [Builtin.firstCells, loadCells, loadCellsFrom]
    rcases hown.2 with ⟨rfl, rfl⟩ | ⟨g, cap, cur, rfl, _, _, hnc, _⟩
    · simp [Builtin.append_, run_underlying ht, sizeOf, typeInfo, hi, Builtin.lenOf, hfc]
    · simp [Builtin.append_, run_underlying ht, sizeOf, typeInfo, hi, Builtin.lenOf, hfc, hnc, storeCells]
  · have hpos : 0 < news.length := by rw [hl]; exact Nat.mul_pos (by omega) hsz
    obtain ⟨ad, rfl, _⟩ := hsrc 0 news[0] (List.getElem?_eq_getElem hpos)
    have hnews : ∀ j u, news[j]? = some u → w.cell? (ad.add j) = some u := fun j u hj => by
      obtain ⟨ad', he, hc⟩ := hsrc j u hj
      cases he
      exact hc
    obtain ⟨v', w', hr, h2, h3, _, h5⟩ := run_append_own_at (P := P) w base t ty e i z size bytes ht hi hz hsize hby hzs hsz v n xs hown ad m c news hl hnews h1 h63 hbytes hbase
    refine ⟨v', w', hr, h2, h3, h5, ?_⟩
    subst hsize
    subst hby
    rcases hown.2 with ⟨rfl, rfl⟩ | ⟨g, cap, cur, rfl, hbg, hg, hnc, hcm, hcs, htake⟩
    · have hx : xs = [] := List.eq_nil_of_length_eq_zero (by simpa using hown.1)
      subst hx
      exact World.ownsRow_nil _ _ _ _
    · by_cases hroom : n + m ≤ cap
      · have hfit : n * i.size + news.length ≤ cur.size := by rw [hl, hcs, ← Nat.add_mul]; exact Nat.mul_le_mul_right _ hroom
        have hr' := run_append_room (P := P) w t ty e i ht hi g n cap cur hg ad m c news hl hnews h1 hroom hfit
        rw [hr] at hr'
        injection hr' with _ hw
        subst hw
        refine ⟨hown.1, .inr ⟨g, cap, _, rfl, hbg, setRow_heap w g cur _ e _ hg, hnc, hcm, ?_, ?_⟩⟩
        · simp only [List.size_toArray, List.length_append, List.length_take, List.length_drop, Array.length_toList]
          omega
        · rw [htake, List.append_assoc, ← hown.1]
          exact List.take_left
      · have holds : ∀ j u, xs[j]? = some u → w.cell? ((⟨g, 0, none⟩ : Addr).add j) = some u := hown.cells (g := g) rfl
        have hr' := run_append_grow (P := P) w t ty e i z ht hi hz ⟨g, 0, none⟩ n cap xs hown.1 holds ad m c news hl hnews (by omega) (by simp only [maxLen] at h63; omega) (growslice_fits (by omega) hbytes)
        rw [hr] at hr'
        injection hr' with _ hw
        subst hw
        refine ⟨hown.1, .inr ⟨g, cap, cur, rfl, hbg, ?_, hnc, hcm, hcs, htake⟩⟩
        exact (Below.heap_alloc w.drew _ g (Array.getElem?_eq_some_iff.1 hg).1).trans hg

theorem wp_app {o : Oper} {a : Act} {K : Act → World → Prop} {Q : Exit → Act → World → Prop} (s x : Operand) (t : TypeId)
    (ho : o.op = .call { callee := .builtin .append, args := #[s, x], argTypes := #[t, t] })
    (base : Nat) (e : TypeId) (i : TypeInfo) (z : Value) (size bytes : Nat) (ht : P.underlying t = some (.slice e)) (hi : P.info? e = some i) (hz : i.zero = some z)
    (hsize : i.size = size) (hby : i.bytes = bytes) (hzs : z.cells.size = size) (hsz : 0 < size)
    (v : Value) (n : Nat) (xs : List Value) (hs : a.eval s = v) (hown : w.ownsRow base e size v n xs)
    (A : Option Addr) (m c : Nat) (news : List Value) (hx : a.eval x = .slice A m c) (hsrc : Src w size A m news)
    (h63 : n + m ≤ maxLen) (hbytes : (n + m) * bytes ≤ 140737488355328) (hbase : base ≤ w.heap.size)
    (h : ∀ v' w', w'.ownsRow base e size v' (n + m) (xs ++ news) → w.grownBy w' v.ownBlock → (v'.ownBlock = v.ownBlock ∨ v'.ownBlock = some w.heap.size) → w'.ownsRow base e size v n xs → K (a.put o.dst v') w') : o.wp P a w K Q := by
  obtain ⟨v', w', hr, h2, h3, h4, h5⟩ := run_app (P := P) w base t o.type e i z size bytes ht hi hz hsize hby hzs hsz v n xs hown A m c news hsrc h63 hbytes hbase
  unfold Oper.wp execOp
  simp only [ho, resolve, invoke, builtin, Sem.run_bind, Sem.run_pure, Result.andThen_ok, List.map_toArray, List.map_cons, List.map_nil, hs, hx, hr]
  exact h v' w' h2 h3 h4 h5

/-- At the list of a plain region's operations. -/
theorem wpList_app {ops : Array Oper} {rest : List Oper} {o : Oper} {a : Act} {Q : Exit → Act → World → Prop} (hgd : o.guard = none) (s x : Operand) (t : TypeId)
    (ho : o.op = .call { callee := .builtin .append, args := #[s, x], argTypes := #[t, t] })
    (base : Nat) (e : TypeId) (i : TypeInfo) (z : Value) (size bytes : Nat) (ht : P.underlying t = some (.slice e)) (hi : P.info? e = some i) (hz : i.zero = some z)
    (hsize : i.size = size) (hby : i.bytes = bytes) (hzs : z.cells.size = size) (hsz : 0 < size)
    (v : Value) (n : Nat) (xs : List Value) (hs : a.eval s = v) (hown : w.ownsRow base e size v n xs)
    (A : Option Addr) (m c : Nat) (news : List Value) (hx : a.eval x = .slice A m c) (hsrc : Src w size A m news)
    (h63 : n + m ≤ maxLen) (hbytes : (n + m) * bytes ≤ 140737488355328) (hbase : base ≤ w.heap.size)
    (h : ∀ v' w', w'.ownsRow base e size v' (n + m) (xs ++ news) → w.grownBy w' v.ownBlock → (v'.ownBlock = v.ownBlock ∨ v'.ownBlock = some w.heap.size) → w'.ownsRow base e size v n xs → wpList P ops Q rest (a.put o.dst v') w') : wpList P ops Q (o :: rest) a w :=
  wpList_plain hgd fun _ hK => wp_app w s x t ho base e i z size bytes ht hi hz hsize hby hzs hsz v n xs hs hown A m c news hx hsrc h63 hbytes hbase fun v' w' h2 h3 h4 h5 => hK _ _ (h v' w' h2 h3 h4 h5)

/-- At a step of a region that draws its order. -/
theorem step_app {ops : Array Oper} {o : Oper} {a : Act} {K : Act → World → Prop} {Q : Exit → Act → World → Prop} {E : Prop} (hgd : o.guard = none) (s x : Operand) (t : TypeId)
    (ho : o.op = .call { callee := .builtin .append, args := #[s, x], argTypes := #[t, t] })
    (base : Nat) (e : TypeId) (i : TypeInfo) (z : Value) (size bytes : Nat) (ht : P.underlying t = some (.slice e)) (hi : P.info? e = some i) (hz : i.zero = some z)
    (hsize : i.size = size) (hby : i.bytes = bytes) (hzs : z.cells.size = size) (hsz : 0 < size)
    (v : Value) (n : Nat) (xs : List Value) (hs : a.eval s = v) (hown : w.ownsRow base e size v n xs)
    (A : Option Addr) (m c : Nat) (news : List Value) (hx : a.eval x = .slice A m c) (hsrc : Src w size A m news)
    (h63 : n + m ≤ maxLen) (hbytes : (n + m) * bytes ≤ 140737488355328) (hbase : base ≤ w.heap.size)
    (h : ∀ v' w', w'.ownsRow base e size v' (n + m) (xs ++ news) → w.grownBy w' v.ownBlock → (v'.ownBlock = v.ownBlock ∨ v'.ownBlock = some w.heap.size) → w'.ownsRow base e size v n xs → K (a.put o.dst v') w') :
    if Region.wanted o (yielded ops a.tmps) = true then Oper.wp P o a w K Q else E := by
  have hw : Region.wanted o (yielded ops a.tmps) = true := by simp [Region.wanted, hgd]
  rw [if_pos hw]
  exact wp_app w s x t ho base e i z size bytes ht hi hz hsize hby hzs hsz v n xs hs hown A m c news hx hsrc h63 hbytes hbase h
end

/-- The block laid before the last one is still there behind a call. -/
theorem new_keep2 {w w1 : World} {c : Array Value} {t : TypeId} {o : Obj} (hb : Below ((w.alloc (.cells c t)).alloc o).heap.size ((w.alloc (.cells c t)).alloc o) w1) (i : Nat) {v : Value} (h : c[i]? = some v) :
    w1.cell? ⟨w.heap.size, i, none⟩ = some v := cell_keep hb (cell_alloc (new_cell w c t i h).1)
theorem new_keep2_drew {w w1 : World} {c : Array Value} {t : TypeId} {o : Obj} (hb : Below ((w.alloc (.cells c t)).alloc o).drew.heap.size ((w.alloc (.cells c t)).alloc o).drew w1) (i : Nat) {v : Value} (h : c[i]? = some v) :
    w1.cell? ⟨w.heap.size, i, none⟩ = some v := cell_keep hb (cell_alloc (new_cell w c t i h).1)
/-! ### Bytes -/
/-- The cells of a row of bytes. -/
def u8s (l : List Nat) : List Value := l.map fun (c : Nat) => Value.int .u8 (c : Int)
theorem u8s_length (l : List Nat) : (u8s l).length = l.length := by simp [u8s]
theorem u8s_append (a b : List Nat) : u8s (a ++ b) = u8s a ++ u8s b := by simp [u8s]
theorem u8s_one (l : List Nat) : ∀ u ∈ u8s l, u.oneCell' = true := fun u hu => by
  simp only [u8s, List.mem_map] at hu
  obtain ⟨c, _, rfl⟩ := hu
  rfl
theorem Src.of_bytes {w : World} {A : Option Addr} {n : Nat} {l : List Nat} (h : Bytes w A n l) : Src w 1 A n (u8s l) :=
  ⟨by rw [u8s_length, h.1, Nat.mul_one], fun j u hu => by
    simp only [u8s, List.getElem?_map, Option.map_eq_some_iff] at hu
    obtain ⟨c, hc, rfl⟩ := hu
    exact (h.2.2 j c hc).2, u8s_one l⟩
/-- A byte slice of the call's own that reads as l: it lies in a block from base on, and may be written. -/
def OwnB (w : World) (base : Nat) (e : TypeId) (v : Value) (l : List Nat) : Prop := w.ownsRow base e 1 v l.length (u8s l) ∧ ∀ c ∈ l, c < 256
theorem OwnB.bytes {w : World} {base : Nat} {e : TypeId} {A : Option Addr} {n c : Nat} {l : List Nat} (h : OwnB w base e (.slice A n c) l) : n = l.length ∧ n ≤ c ∧ Bytes w A n l := by
  have hn : n = l.length ∧ n ≤ c ∧ l.length ≤ maxLen := by
    rcases h.1.2 with ⟨hv, hl⟩ | ⟨g, cap, cur, hv, _, _, hle, hcap, _⟩
    · cases hv; rw [hl]; exact ⟨rfl, Nat.le_refl _, Nat.zero_le _⟩
    · cases hv; exact ⟨rfl, hle, by omega⟩
  refine ⟨hn.1, hn.2.1, hn.1, by have := hn.2.2; omega, fun i x hi => ⟨h.2 x (List.mem_of_getElem? hi), ?_⟩⟩
  have hx : (u8s l)[i]? = some (.int .u8 (x : Int)) := by simp [u8s, hi]
  rcases h.1.2 with ⟨_, hl⟩ | ⟨g, cap, cur, hv, _⟩
  · have : l = [] := List.eq_nil_of_length_eq_zero hl
    subst this
    simp at hi
  · cases hv
    exact ⟨_, rfl, h.1.cells (g := g) rfl i _ hx⟩
theorem OwnB.form {w : World} {base : Nat} {e : TypeId} {v : Value} {l : List Nat} (h : OwnB w base e v l) : ∃ A c, v = .slice A l.length c ∧ l.length ≤ c ∧ c ≤ maxLen := by
  rcases h.1.2 with ⟨rfl, hl⟩ | ⟨g, cap, cur, rfl, _, _, hle, hm, _⟩
  · exact ⟨none, 0, by rw [hl], by omega, Nat.zero_le _⟩
  · exact ⟨_, cap, rfl, hle, hm⟩
theorem OwnB.nil_ (w : World) (base : Nat) (e : TypeId) : OwnB w base e (.slice none 0 0) [] := ⟨World.ownsRow_nil _ _ _ _, by simp⟩
theorem OwnB.made {w : World} {base : Nat} {e : TypeId} (hb : base ≤ w.heap.size) : OwnB (w.alloc (.cells #[] e)) base e (.slice (some ⟨w.heap.size, 0, none⟩) 0 0) [] :=
  ⟨World.ownsRow_made w #[] 0 hb (Nat.zero_le _) (by simp), by simp⟩
theorem grown_of_below {w w' : World} (hb : Below w.heap.size w w') (row : Option Nat) : w.grownBy w' row := ⟨hb.os, hb.tape, hb.output, hb.size, fun k hk _ => hb.block k hk⟩
theorem OwnB.keep {w w' : World} {base : Nat} {e : TypeId} {v : Value} {l : List Nat} (h : OwnB w base e v l) (hb : Below w.heap.size w w') : OwnB w' base e v l :=
  ⟨h.1.kept (grown_of_below hb none) (by cases v.ownBlock <;> simp), h.2⟩
theorem OwnB.kept {w w' : World} {base : Nat} {e : TypeId} {v : Value} {l : List Nat} {row : Option Nat} (h : OwnB w base e v l) (hg : w.grownBy w' row) (hne : v.ownBlock = none ∨ v.ownBlock ≠ row) : OwnB w' base e v l :=
  ⟨h.1.kept hg hne, h.2⟩
/-- Behind an append all below the base is as it was. -/
theorem below_app {B base : Nat} {a w w' : World} {e : TypeId} {size : Nat} {v : Value} {n : Nat} {xs : List Value} (h : Below B a w) (hown : w.ownsRow base e size v n xs) (hg : w.grownBy w' v.ownBlock) (hB : B ≤ base) (hs : B ≤ w.heap.size) : Below B a w' :=
  h.grown hg hs fun k hk => by have := (hown.lt k hk).1; omega
theorem Bytes.below {B : Nat} {w w' : World} {A : Option Addr} {n : Nat} {l : List Nat} (h : Bytes w A n l) (hb : Below B w w') (hB : w.heap.size ≤ B) : Bytes w' A n l := h.keep (hb.mono hB)
theorem Bytes.of_block {w : World} {g : Nat} {e : TypeId} {fr : Nat × Nat} {l : List Nat} (h : w.heap[g]? = some (.cells (u8s l).toArray e fr)) (hl : ∀ c ∈ l, c < 256) (hm : l.length ≤ maxLen) :
    Bytes w (some ⟨g, 0, none⟩) l.length l :=
  ⟨rfl, hm, fun i x hi => ⟨hl x (List.mem_of_getElem? hi), _, rfl, by
    have hadd : (⟨g, 0, none⟩ : Addr).add i = ⟨g, i, none⟩ := by unfold Addr.add; split <;> simp_all
    rw [hadd, cell_of_row w g i _ e fr h]
    simp [u8s, hi]⟩⟩
theorem texts_nil {w : World} : Texts w none 0 [] := ⟨rfl, Nat.zero_le _, fun i l h => by simp at h⟩
theorem texts_rows {w : World} {x : Addr} {n : Nat} {A : Nat → Option Addr} {L C : Nat → Nat} {Z : Nat → List Int} (hn : n ≤ maxLen)
    (h : ∀ r, r < n → w.cell? (x.add r) = some (.slice (A r) (L r) (C r)) ∧ L r ≤ C r ∧ C r ≤ maxLen ∧ (Z r).length = C r ∧ (∀ m ∈ Z r, (Lit.int .u8 m).wf = true) ∧ (A r = none → C r = 0) ∧
        ∀ a', A r = some a' → ∀ c, c < C r → w.cell? (a'.add c) = some (.int .u8 ((Z r).getD c 0))) :
    Texts w (some x) n ((List.range n).map fun r => ((Z r).take (L r)).map Int.toNat) :=
  ⟨by simp, hn, fun i l hi => by
    simp only [List.getElem?_map, Option.map_eq_some_iff] at hi
    obtain ⟨r, hr, rfl⟩ := hi
    obtain ⟨hlt, hv⟩ := List.getElem?_eq_some_iff.1 hr
    simp at hlt hv
    subst hv
    obtain ⟨h1, h2, h3, h4, h5, h6, h7⟩ := h i hlt
    refine ⟨x, A i, L i, C i, rfl, h1, Bytes.of_ints ⟨by omega, by omega, fun j hj => ?_⟩⟩
    cases hA : A i with
    | none => have := h6 hA; omega
    | some a' => exact ⟨a', rfl, h7 a' hA j (by omega), h5 _ (getD_mem (by omega))⟩⟩
/-- A slice of one slice of bytes; of two; of four. -/
theorem texts1 {w : World} {g : Nat} {B : Option Addr} {m c : Nat} {l : List Nat} (h0 : w.cell? ⟨g, 0, none⟩ = some (.slice B m c)) (hb : Bytes w B m l) : Texts w (some ⟨g, 0, none⟩) 1 [l] :=
  ⟨rfl, by decide, fun i x hi => by
    match i with
    | 0 => simp at hi; subst hi; exact ⟨_, B, m, c, rfl, by simpa [Addr.add] using h0, hb⟩
    | i + 1 => simp at hi⟩
theorem texts2 {w : World} {g : Nat} {B0 B1 : Option Addr} {m0 c0 m1 c1 : Nat} {l0 l1 : List Nat} (h0 : w.cell? ⟨g, 0, none⟩ = some (.slice B0 m0 c0)) (h1 : w.cell? ⟨g, 1, none⟩ = some (.slice B1 m1 c1))
    (b0 : Bytes w B0 m0 l0) (b1 : Bytes w B1 m1 l1) : Texts w (some ⟨g, 0, none⟩) 2 [l0, l1] :=
  ⟨rfl, by decide, fun i x hi => by
    match i with
    | 0 => simp at hi; subst hi; exact ⟨_, B0, m0, c0, rfl, by simpa [Addr.add] using h0, b0⟩
    | 1 => simp at hi; subst hi; exact ⟨_, B1, m1, c1, rfl, by simpa [Addr.add] using h1, b1⟩
    | i + 2 => simp at hi⟩
theorem texts4 {w : World} {g : Nat} {B0 B1 B2 B3 : Option Addr} {m0 c0 m1 c1 m2 c2 m3 c3 : Nat} {l0 l1 l2 l3 : List Nat}
    (h0 : w.cell? ⟨g, 0, none⟩ = some (.slice B0 m0 c0)) (h1 : w.cell? ⟨g, 1, none⟩ = some (.slice B1 m1 c1)) (h2 : w.cell? ⟨g, 2, none⟩ = some (.slice B2 m2 c2)) (h3 : w.cell? ⟨g, 3, none⟩ = some (.slice B3 m3 c3))
    (b0 : Bytes w B0 m0 l0) (b1 : Bytes w B1 m1 l1) (b2 : Bytes w B2 m2 l2) (b3 : Bytes w B3 m3 l3) : Texts w (some ⟨g, 0, none⟩) 4 [l0, l1, l2, l3] :=
  ⟨rfl, by decide, fun i x hi => by
    match i with
    | 0 => simp at hi; subst hi; exact ⟨_, B0, m0, c0, rfl, by simpa [Addr.add] using h0, b0⟩
    | 1 => simp at hi; subst hi; exact ⟨_, B1, m1, c1, rfl, by simpa [Addr.add] using h1, b1⟩
    | 2 => simp at hi; subst hi; exact ⟨_, B2, m2, c2, rfl, by simpa [Addr.add] using h2, b2⟩
    | 3 => simp at hi; subst hi; exact ⟨_, B3, m3, c3, rfl, by simpa [Addr.add] using h3, b3⟩
    | i + 4 => simp at hi⟩
end Go.Proofs.Ytpdfbkkhmfnnjaa
