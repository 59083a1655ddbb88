/- What stays right of a disk behind each deed, in plain Lean. -/
import Derived.Test.YtpdfbkkhmfnnjaaDiskPl
namespace Go.Proofs.Ytpdfbkkhmfnnjaa
set_option linter.unusedVariables false
set_option linter.unusedSimpArgs false

theorem totD_ins (f : DF) : ∀ l : List DF, totD (insBy Prod.fst f l) = totD l + f.2.1.length
  | [] => by simp [insBy, totD]
  | u :: r => by
    have ih := totD_ins f r
    unfold insBy
    split
    · simp only [totD, List.map_cons, List.sum_cons]; omega
    · simp only [totD, List.map_cons, List.sum_cons] at ih ⊢; omega
theorem totD_upd {u : DF → DF} {s : NmT} : ∀ {l : List DF}, AscBy Prod.fst l → ∀ {f : DF}, f ∈ l → f.1 = s → totD (updBy Prod.fst s u l) + f.2.1.length = totD l + (u f).2.1.length
  | [], _, _, h, _ => by cases h
  | v :: r, h, f, hf, e => by
    obtain ⟨h1, h2⟩ := List.pairwise_cons.1 h
    by_cases hv : v.1 = s
    · have hvf : f = v := asc_one h hf (by simp) (e.trans hv.symm)
      subst hvf
      have hr : updBy Prod.fst s u r = r := by
        unfold updBy
        conv => rhs; rw [← List.map_id r]
        apply List.map_congr_left
        intro x hx
        rw [if_neg]
        · rfl
        · intro e2
          have := h1 x hx
          rw [e, e2] at this
          exact nm_irrefl _ this
      have : updBy Prod.fst s u (f :: r) = u f :: updBy Prod.fst s u r := by simp [updBy, hv]
      rw [this, hr]
      simp only [totD, List.map_cons, List.sum_cons]
      omega
    · rcases List.mem_cons.1 hf with rfl | hf
      · exact absurd e hv
      · have ih := totD_upd (u := u) h2 hf e
        have : updBy Prod.fst s u (v :: r) = v :: updBy Prod.fst s u r := by simp [updBy, hv]
        rw [this]
        simp only [totD, List.map_cons, List.sum_cons] at ih ⊢
        omega
theorem totD_out {s : NmT} : ∀ {l : List DF}, AscBy Prod.fst l → ∀ {f : DF}, f ∈ l → f.1 = s → totD (outBy Prod.fst s l) + f.2.1.length = totD l
  | [], _, _, h, _ => by cases h
  | v :: r, h, f, hf, e => by
    obtain ⟨h1, h2⟩ := List.pairwise_cons.1 h
    by_cases hv : v.1 = s
    · have hvf : f = v := asc_one h hf (by simp) (e.trans hv.symm)
      subst hvf
      have hr : outBy Prod.fst s r = r := outBy_same fun x hx e2 => by
        have := h1 x hx
        rw [e, e2] at this
        exact nm_irrefl _ this
      have : outBy Prod.fst s (f :: r) = outBy Prod.fst s r := by simp [outBy, hv]
      rw [this, hr]
      simp only [totD, List.map_cons, List.sum_cons]
      omega
    · rcases List.mem_cons.1 hf with rfl | hf
      · exact absurd e hv
      · have ih := totD_out h2 hf e
        have : outBy Prod.fst s (v :: r) = v :: outBy Prod.fst s r := by simp [outBy, hv]
        rw [this]
        simp only [totD, List.map_cons, List.sum_cons] at ih ⊢
        omega
theorem totD_out_le (s : NmT) (l : List DF) : totD (outBy Prod.fst s l) ≤ totD l := by
  induction l with
  | nil => simp [outBy, totD]
  | cons v r ih =>
    by_cases hv : v.1 = s
    · have : outBy Prod.fst s (v :: r) = outBy Prod.fst s r := by simp [outBy, hv]
      rw [this]
      simp only [totD, List.map_cons, List.sum_cons] at ih ⊢
      omega
    · have : outBy Prod.fst s (v :: r) = v :: outBy Prod.fst s r := by simp [outBy, hv]
      rw [this]
      simp only [totD, List.map_cons, List.sum_cons] at ih ⊢
      omega
theorem isNm_len {s : NmT} (h : isNm s = true) : s.length ≤ 16 := by
  unfold isNm at h
  simp only [Bool.and_eq_true, decide_eq_true_eq] at h
  exact h.1.2
theorem mem_updBy {α : Type} {nm : α → NmT} {s : NmT} {u : α → α} {l : List α} {t : α} (h : t ∈ updBy nm s u l) : ∃ x ∈ l, (t = x ∧ nm x ≠ s) ∨ (t = u x ∧ nm x = s) := by
  unfold updBy at h
  obtain ⟨x, hx, rfl⟩ := List.mem_map.1 h
  by_cases e : nm x = s
  · exact ⟨x, hx, .inr ⟨by simp [e], e⟩⟩
  · exact ⟨x, hx, .inl ⟨by simp [e], e⟩⟩
variable {d : DkT} {s : NmT}
/-- One file turns. -/
theorem DkOk.upd (h : DkOk d) {f : DF} (hf : findBy Prod.fst s d.l = some f) {u : DF → DF} (hn : ∀ x, (u x).1 = x.1) (ht : (totD d.l : Int) + (u f).2.1.length ≤ d.room + f.2.1.length) (hs : (u f).2.2 ≤ (u f).2.1.length) (fu : Int) (hfu : -1 ≤ fu ∧ fu ≤ 9223372036854775807) (dn : Bool) :
    DkOk { d with l := updBy Prod.fst s u d.l, fuse := fu, down := dn } := by
  obtain ⟨h1, h2⟩ := findBy_some hf
  refine ⟨?_, h.room0, h.room1, by simp [updBy]; exact h.len, hfu.1, hfu.2, fun t ht => ?_, fun t ht => ?_, updBy_asc h.asc hn⟩
  · have := totD_upd (u := u) h.asc h1 h2
    simp only
    omega
  · obtain ⟨x, hx, ⟨rfl, _⟩ | ⟨rfl, e⟩⟩ := mem_updBy ht
    · exact h.sure _ hx
    · rw [asc_one h.asc hx h1 (e.trans h2.symm)]; exact hs
  · obtain ⟨x, hx, ⟨rfl, _⟩ | ⟨rfl, e⟩⟩ := mem_updBy ht
    · exact h.nms _ hx
    · rw [hn]; exact h.nms _ hx
theorem DkOk.fu (h : DkOk d) (fu : Int) (hfu : -1 ≤ fu ∧ fu ≤ 9223372036854775807) (dn : Bool) : DkOk { d with fuse := fu, down := dn } :=
  ⟨h.tot, h.room0, h.room1, h.len, hfu.1, hfu.2, h.sure, h.nms, h.asc⟩
theorem DkOk.out (h : DkOk d) (s : NmT) : DkOk { d with l := outBy Prod.fst s d.l } :=
  ⟨by have := totD_out_le s d.l; have := h.tot; simp only; omega, h.room0, h.room1, Nat.le_trans (List.length_filter_le _ _) h.len, h.fuse0, h.fuse1, fun f hf => h.sure f (mem_outBy.1 hf).1, fun f hf => h.nms f (mem_outBy.1 hf).1, outBy_asc h.asc s⟩
theorem DkOk.ins (h : DkOk d) {f : DF} (hn : ∀ x ∈ d.l, x.1 ≠ f.1) (hl : f.1.length ≤ 16) (h16 : d.l.length < 16) (ht : (totD d.l : Int) + f.2.1.length ≤ d.room) (hs : f.2.2 ≤ f.2.1.length) : DkOk { d with l := insBy Prod.fst f d.l } := by
  refine ⟨?_, h.room0, h.room1, by rw [insBy_length]; exact h16, h.fuse0, h.fuse1, fun t ht => ?_, fun t ht => ?_, insBy_asc h.asc hn⟩
  · have := totD_ins f d.l
    simp only
    omega
  · rcases mem_insBy.1 ht with rfl | ht
    · exact hs
    · exact h.sure t ht
  · rcases mem_insBy.1 ht with rfl | ht
    · exact hl
    · exact h.nms t ht
theorem appC_ok (h : DkOk d) (p : List Nat) : DkOk { d with l := (appC d.room d.l s p).2 } := by
  unfold appC
  split
  · exact h
  · next hn =>
    split
    · exact h
    · next hp =>
      cases hf : findBy Prod.fst s d.l with
      | none =>
        simp only
        split
        · exact h
        · next h16 =>
          have hl := isNm_len (by simpa using hn)
          refine h.ins (f := (s, p, 0)) (findBy_none.1 hf) hl (by have := h.len; omega) (by simp only; omega) (Nat.zero_le _)
      | some f =>
        simp only
        have h1 := h.upd (s := s) hf (u := fun f => (f.1, f.2.1 ++ p, f.2.2)) (fun _ => rfl) (by simp only [List.length_append]; omega) (by simp only [List.length_append]; have := h.sure f (findBy_some hf).1; omega) d.fuse ⟨h.fuse0, h.fuse1⟩ d.down
        exact h1
theorem syncC_ok (h : DkOk d) : DkOk { d with l := (syncC d.l s).2 } := by
  unfold syncC
  cases hf : findBy Prod.fst s d.l with
  | none => exact h
  | some f => exact h.upd (s := s) hf (u := fun f => (f.1, f.2.1, f.2.1.length)) (fun _ => rfl) (by have := h.tot; simp only; omega) (Nat.le_refl _) d.fuse ⟨h.fuse0, h.fuse1⟩ d.down
theorem cutC_ok (h : DkOk d) (n : Int) : DkOk { d with l := (cutC d.l s n).2 } := by
  unfold cutC
  cases hf : findBy Prod.fst s d.l with
  | none => exact h
  | some f =>
    simp only
    split
    · exact h
    · next hn =>
      exact h.upd (s := s) hf (u := fun f => (f.1, f.2.1.take n.toNat, n.toNat)) (fun _ => rfl) (by have := h.tot; simp only [List.length_take]; omega) (by simp only [List.length_take]; omega) d.fuse ⟨h.fuse0, h.fuse1⟩ d.down
theorem remC_ok (h : DkOk d) : DkOk { d with l := (remC d.l s).2 } := by
  unfold remC
  cases hf : findBy Prod.fst s d.l with
  | none => exact h
  | some f => exact h.out s
theorem moveC_ok (h : DkOk d) (t : NmT) : DkOk { d with l := (moveC d.l s t).2 } := by
  unfold moveC
  cases hf : findBy Prod.fst s d.l with
  | none => exact h
  | some f =>
    simp only
    split
    · exact h
    · next hn =>
      have hl := isNm_len (by simpa using hn)
      obtain ⟨h1, h2⟩ := findBy_some hf
      have g1 := totD_out h.asc h1 h2
      have g2 := totD_out_le t (outBy Prod.fst s d.l)
      have g3 := h.tot
      have g4 := outBy_length h.asc h1
      rw [h2] at g4
      have g5 : (outBy Prod.fst t (outBy Prod.fst s d.l)).length ≤ (outBy Prod.fst s d.l).length := List.length_filter_le _ _
      have g6 := h.len
      exact ((h.out s).out t).ins (f := (t, f.2.1, f.2.1.length)) (fun x hx => (mem_outBy.1 hx).2) hl (by simp only; omega) (by simp only; omega) (Nat.le_refl _)
theorem bootF_nm (f : DF) (ks : List Int) : (bootF f ks).1.1 = f.1 := by
  unfold bootF
  split
  · cases ks <;> rfl
  · rfl
theorem bootF_ok (f : DF) (ks : List Int) : (bootF f ks).1.2.1.length ≤ f.2.1.length ∧ (bootF f ks).1.2.2 ≤ (bootF f ks).1.2.1.length := by
  unfold bootF
  split
  · cases ks with
    | nil => exact ⟨Nat.le_refl _, Nat.le_refl _⟩
    | cons k ks =>
      simp only [List.length_take]
      omega
  · exact ⟨Nat.le_refl _, Nat.le_refl _⟩
theorem bootGo_snoc : ∀ (l : List DF) (f : DF) (ks : List Int), bootGo (l ++ [f]) ks = ((bootGo l ks).1 ++ [(bootF f (bootGo l ks).2).1], (bootF f (bootGo l ks).2).2)
  | [], f, ks => by simp [bootGo]
  | g :: r, f, ks => by simp [bootGo, bootGo_snoc r f]
theorem bootGo_length : ∀ (l : List DF) (ks : List Int), (bootGo l ks).1.length = l.length
  | [], _ => rfl
  | f :: r, ks => by simp [bootGo, bootGo_length r]
theorem bootGo_nms : ∀ (l : List DF) (ks : List Int), (bootGo l ks).1.map Prod.fst = l.map Prod.fst
  | [], _ => rfl
  | f :: r, ks => by simp [bootGo, bootF_nm, bootGo_nms r]
theorem bootGo_tot : ∀ (l : List DF) (ks : List Int), totD (bootGo l ks).1 ≤ totD l
  | [], _ => by simp [bootGo, totD]
  | f :: r, ks => by
    have ih := bootGo_tot r (bootF f ks).2
    have h := (bootF_ok f ks).1
    simp only [totD, bootGo, List.map_cons, List.sum_cons] at ih ⊢
    omega
theorem bootGo_sure : ∀ (l : List DF) (ks : List Int), ∀ f ∈ (bootGo l ks).1, f.2.2 ≤ f.2.1.length
  | [], _, f, h => by simp [bootGo] at h
  | g :: r, ks, f, h => by
    simp only [bootGo, List.mem_cons] at h
    rcases h with rfl | h
    · exact (bootF_ok g ks).2
    · exact bootGo_sure r _ f h
theorem bootD_ok (h : DkOk d) (ks : List Int) : DkOk (bootD d ks) := by
  have hn := bootGo_nms d.l ks
  refine ⟨by have h1 := bootGo_tot d.l ks; have h2 := h.tot; simp only [bootD, bootL]; omega, h.room0, h.room1, by simp only [bootD, bootL, bootGo_length]; exact h.len, by simp [bootD], by simp [bootD], bootGo_sure _ _, fun f hf => ?_, ?_⟩
  · have : f.1 ∈ (bootGo d.l ks).1.map Prod.fst := List.mem_map.2 ⟨f, hf, rfl⟩
    rw [hn] at this
    obtain ⟨g, hg, e⟩ := List.mem_map.1 this
    rw [← e]
    exact h.nms g hg
  · have h1 : ((bootGo d.l ks).1.map Prod.fst).Pairwise (· < ·) := by rw [hn]; exact List.pairwise_map.2 h.asc
    exact List.pairwise_map.1 h1
theorem upd_mid {α : Type} {nm : α → NmT} {u : α → α} {P R : List α} {x : α} (h : AscBy nm (P ++ x :: R)) : updBy nm (nm x) u (P ++ x :: R) = P ++ u x :: R := by
  obtain ⟨h1, h2, h3⟩ := List.pairwise_append.1 h
  have h4 := (List.pairwise_cons.1 h2).1
  unfold updBy
  rw [List.map_append, List.map_cons, if_pos rfl]
  congr 1
  · conv => rhs; rw [← List.map_id P]
    apply List.map_congr_left
    intro y hy
    rw [if_neg]
    · rfl
    · intro e
      have := h3 y hy x (by simp)
      rw [e] at this
      exact nm_irrefl _ this
  · congr 1
    conv => rhs; rw [← List.map_id R]
    apply List.map_congr_left
    intro y hy
    rw [if_neg]
    · rfl
    · intro e
      have := h4 y hy
      rw [e] at this
      exact nm_irrefl _ this
end Go.Proofs.Ytpdfbkkhmfnnjaa
