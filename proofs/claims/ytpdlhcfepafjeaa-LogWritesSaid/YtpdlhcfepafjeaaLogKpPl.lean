/- The disk of the law LogKeeps, in plain Lean. -/
import Derived.Test.YtpdlhcfepafjeaaLogPlC
import Derived.Test.YtpdlhcfepafjeaaDiskPl
namespace Go.Proofs.Ytpdlhcfepafjeaa
set_option linter.unusedVariables false
set_option linter.unusedSimpArgs false

abbrev nL : NmT := [108, 111, 103]
theorem nm_L : isNm nL = true := by decide
theorem frm_le (p : List Nat) (h : p.length ≤ 100) : (frm p).length ≤ 105 := by
  rw [frm_length]
  have : size p.length = 1 := by simp [size]; omega
  omega
theorem allF_le : ∀ (ls : List (List Nat)), (∀ x ∈ ls, x.length ≤ 100) → (allF ls).length ≤ 105 * ls.length
  | [], _ => by simp [allF]
  | x :: ls, h => by
    have h1 := frm_le x (h x (List.mem_cons_self ..))
    have h2 := allF_le ls fun y hy => h y (List.mem_cons_of_mem _ hy)
    rw [allF_cons, List.length_append, List.length_cons]
    omega
/-- The log's file, of which the first su bytes are sure. -/
def glF (su : Nat) (ls : List (List Nat)) : List DF := if ls = [] then [] else [(nL, allF ls, su)]
theorem app_gl (su : Nat) (ls : List (List Nat)) (p : List Nat) (h : (allF ls).length + (frm p).length ≤ 10000) (hsu : ls = [] → su = 0) : appC 10000 (glF su ls) nL (frm p) = (0, glF su (ls ++ [p])) := by
  have e2 : glF su (ls ++ [p]) = [(nL, allF ls ++ frm p, su)] := by
    unfold glF
    rw [if_neg (by simp), allF_append, allF_cons, allF_nil, List.append_nil]
  unfold appC
  rw [if_neg (by rw [nm_L]; decide), e2]
  by_cases hl : ls = []
  · subst hl
    have h0 : su = 0 := hsu rfl
    subst h0
    have h1 : ¬ ((10000 : Int) - (totD (glF 0 []) : Nat) < ((frm p).length : Int)) := by simp [totD, glF]; simp [allF] at h; omega
    rw [if_neg h1]
    rfl
  · have e1 : glF su ls = [(nL, allF ls, su)] := by unfold glF; rw [if_neg hl]
    rw [e1]
    have h1 : ¬ ((10000 : Int) - (totD [((nL, allF ls, su) : DF)] : Nat) < ((frm p).length : Int)) := by simp [totD]; omega
    rw [if_neg h1]
    rfl
/-- A record more, where no fuse burns. -/
theorem kp_add (a : List (List Nat)) (i : Nat) (p : List Nat) (hi : a[i]? = some p) (h : ∀ x ∈ a, x.length ≤ 100) (hl : a.length ≤ 10) :
    deedD ⟨glF 0 (a.take i), 10000, -1, false⟩ (fun l => appC 10000 l nL (frm p)) = (0, ⟨glF 0 (a.take (i + 1)), 10000, -1, false⟩) := by
  have hp := frm_le p (h p (List.mem_of_getElem? hi))
  have h1 := allF_le (a.take i) fun x hx => h x (List.mem_of_mem_take hx)
  have h2 : (a.take i).length ≤ 10 := by rw [List.length_take]; omega
  have ha := app_gl 0 (a.take i) p (by omega) (fun _ => rfl)
  rw [show a.take (i + 1) = a.take i ++ [p] by rw [List.take_add_one, hi]; rfl]
  unfold deedD
  rw [if_neg (by simp)]
  simp only [ha]
  rfl
/-- Flushed. -/
theorem kp_flush (a : List (List Nat)) : ∃ v, deedD ⟨glF 0 a, 10000, -1, false⟩ (fun l => syncC l nL) = (v, ⟨glF (allF a).length a, 10000, -1, false⟩) ∧ (if v = 8 then (0 : Int) else v) = 0 := by
  by_cases ha : a = []
  · subst ha
    exact ⟨8, rfl, rfl⟩
  · refine ⟨0, ?_, rfl⟩
    have e1 : ∀ su, glF su a = [(nL, allF a, su)] := fun su => by unfold glF; rw [if_neg ha]
    rw [e1, e1]
    rfl
/-- The disk while records are added behind a, the power failing somewhere. -/
def KpI (a b : List (List Nat)) (i : Nat) (d : DkT) : Prop := d.room = 10000 ∧ ∃ j, j ≤ i ∧ d.l = glF (allF a).length (a ++ b.take j) ∧ (j = i ∨ d.down = true ∨ d.fuse = 0)
theorem kp_start (a b : List (List Nat)) (f : Int) : KpI a b 0 (fuseD ⟨glF (allF a).length a, 10000, -1, false⟩ f) := ⟨rfl, 0, Nat.le_refl _, by simp [fuseD], .inl rfl⟩
theorem kp_step (a b : List (List Nat)) (i : Nat) (d : DkT) (p : List Nat) (hi : b[i]? = some p) (ha : ∀ x ∈ a, x.length ≤ 100) (hb : ∀ x ∈ b, x.length ≤ 100) (hal : a.length ≤ 10) (hbl : b.length ≤ 10) (h : KpI a b i d) :
    KpI a b (i + 1) (deedD d (fun l => appC d.room l nL (frm p))).2 := by
  obtain ⟨hr, j, hj, hl, hc⟩ := h
  unfold deedD
  by_cases hd : d.down = true ∨ d.fuse = 0
  · rw [if_pos hd]
    exact ⟨hr, j, by omega, hl, .inr (.inl rfl)⟩
  · rw [if_neg hd]
    have hji : j = i := by
      rcases hc with h | h | h
      · exact h
      · exact absurd (Or.inl h) hd
      · exact absurd (Or.inr h) hd
    subst hji
    have hp := frm_le p (hb p (List.mem_of_getElem? hi))
    have h1 := allF_le (a ++ b.take j) fun x hx => by
      rcases List.mem_append.1 hx with hx | hx
      · exact ha x hx
      · exact hb x (List.mem_of_mem_take hx)
    have h2 : (a ++ b.take j).length ≤ 20 := by rw [List.length_append, List.length_take]; omega
    have hap := app_gl (allF a).length (a ++ b.take j) p (by omega) (fun e => by
      have : a = [] := (List.append_eq_nil_iff.1 e).1
      rw [this]; rfl)
    refine ⟨hr, j + 1, Nat.le_refl _, ?_, .inl rfl⟩
    simp only [hr, hl, hap]
    rw [List.take_add_one, hi, List.append_assoc]
    rfl
/-- What is there when the power is back. -/
theorem kp_boot (a b : List (List Nat)) (d : DkT) (keep : Int) (ha : ∀ x ∈ a, x.length ≤ 100) (hb : ∀ x ∈ b, x.length ≤ 100) (hal : a.length ≤ 10) (hbl : b.length ≤ 10) (h : KpI a b b.length d) :
    ∃ r e0 l d'', readD (bootD d [keep]) nL = (r, e0) ∧ (e0 = 0 ∨ e0 = 8) ∧ r.getD [] = l ∧ l.length ≤ 1000000000 ∧
      (if scanW l < l.length then deedD (bootD d [keep]) (fun f => cutC f nL (scanW l)) = (0, d'') else d'' = bootD d [keep]) ∧ ∃ i, i ≤ b.length ∧ scanL l = a ++ b.take i := by
  obtain ⟨hr, j, hj, hl, _⟩ := h
  by_cases hn : a ++ b.take j = []
  · have e1 : d.l = [] := by rw [hl]; unfold glF; rw [if_pos hn]
    have ea : a = [] := (List.append_eq_nil_iff.1 hn).1
    refine ⟨none, 8, [], bootD d [keep], ?_, .inr rfl, rfl, by simp, ?_, 0, Nat.zero_le _, ?_⟩
    · unfold readD bootD; rw [if_neg (by simp)]; simp [e1, bootL, bootGo, findBy]
    · rw [if_neg (by simp [scanW_nil])]
    · rw [ea]; rfl
  · have e1 : d.l = [(nL, allF (a ++ b.take j), (allF a).length)] := by rw [hl]; unfold glF; rw [if_neg hn]
    have hm : ∀ x ∈ a ++ b.take j, x.length ≤ 100 := fun x hx => by
      rcases List.mem_append.1 hx with hx | hx
      · exact ha x hx
      · exact hb x (List.mem_of_mem_take hx)
    have hle := allF_le (a ++ b.take j) hm
    have hlen : (a ++ b.take j).length ≤ 20 := by rw [List.length_append, List.length_take]; omega
    obtain ⟨k, k1, k2⟩ : ∃ k, (allF a).length ≤ k ∧ (bootD d [keep]).l = [(nL, (allF (a ++ b.take j)).take k, min k (allF (a ++ b.take j)).length)] := by
      by_cases hs : (allF a).length < (allF (a ++ b.take j)).length
      · refine ⟨(allF a).length + (min (max keep 0) ((((allF (a ++ b.take j)).length - (allF a).length : Nat)) : Int)).toNat, by omega, ?_⟩
        unfold bootD bootL
        rw [e1]
        simp only [bootGo, bootF]
        rw [if_pos hs]
        simp only [List.cons.injEq, Prod.mk.injEq, true_and, and_true]
        omega
      · refine ⟨(allF (a ++ b.take j)).length, by rw [allF_append, List.length_append]; omega, ?_⟩
        unfold bootD bootL
        rw [e1]
        simp only [bootGo, bootF]
        rw [if_neg hs]
        simp
    have hx : ((allF (a ++ b.take j)).take k).length ≤ 10000 := by rw [List.length_take]; omega
    obtain ⟨i, hi, hsc⟩ := scan_behind a (b.take j) k (fun x hx => Nat.le_trans (ha x hx) (by omega)) (fun x hx => Nat.le_trans (hb x (List.mem_of_mem_take hx)) (by omega)) k1
    rw [← allF_append] at hsc
    have hsw : scanW ((allF (a ++ b.take j)).take k) ≤ ((allF (a ++ b.take j)).take k).length := by
      have := (lastE_le ((allF (a ++ b.take j)).take k).length 0 ((allF (a ++ b.take j)).take k)).2
      unfold scanW recs
      omega
    have hex : ∃ d'', (if scanW ((allF (a ++ b.take j)).take k) < ((allF (a ++ b.take j)).take k).length then deedD (bootD d [keep]) (fun f => cutC f nL (scanW ((allF (a ++ b.take j)).take k))) = (0, d'') else d'' = bootD d [keep]) := by
      split
      · refine ⟨(deedD (bootD d [keep]) (fun f => cutC f nL (scanW ((allF (a ++ b.take j)).take k)))).2, ?_⟩
        refine Prod.ext ?_ rfl
        unfold deedD
        rw [if_neg (by simp [bootD])]
        simp only [k2]
        unfold cutC
        simp only [findBy, List.find?_cons_of_pos, decide_true]
        rw [if_neg (by omega)]
      · exact ⟨_, rfl⟩
    obtain ⟨d'', hd''⟩ := hex
    refine ⟨some ((allF (a ++ b.take j)).take k), 0, (allF (a ++ b.take j)).take k, d'', ?_, .inl rfl, rfl, by omega, hd'', min i j, ?_, ?_⟩
    · unfold readD
      rw [if_neg (by simp [bootD]), k2]
      simp [findBy]
    · omega
    · rw [hsc, List.take_take]
end Go.Proofs.Ytpdlhcfepafjeaa
