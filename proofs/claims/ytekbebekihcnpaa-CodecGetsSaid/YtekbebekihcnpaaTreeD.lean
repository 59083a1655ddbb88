/- What is read as a tree: where it ends, that it is right, and that it has the form of the bytes it was read of. Plain: no program in sight. -/
import Derived.Test.YtekbebekihcnpaaTreeC
namespace Go.Proofs.Ytekbebekihcnpaa
set_option linter.unusedVariables false

theorem tsize_form (t : Tree) : ∀ d, check t d = 0 → tsize t ≤ (tform t).length := by
  refine Tree.ind (P := fun t => ∀ d, check t d = 0 → tsize t ≤ (tform t).length) ?_ t
  intro k n s l ih d hc
  obtain ⟨hb, hd16, hcl⟩ := check_node hc
  have key : ∀ m : List Tree, (∀ t ∈ m, t ∈ l) → tsizes m ≤ (tforms m).length := by
    intro m
    induction m with
    | nil => intro _; simp [tsizes, tforms]
    | cons t m ihm =>
      intro hm
      have h1 := ih t (hm t (by simp)) (d + 1) (checks_zero.1 hcl t (hm t (by simp)))
      have h2 := ihm fun v hv => hm v (by simp [hv])
      simp only [tsizes, tforms, List.length_append]
      omega
  have hk := key l fun t h => h
  rcases bad_parts hb with ⟨rfl, rfl, rfl⟩ | ⟨rfl, rfl, rfl⟩ | ⟨rfl, rfl, rfl⟩
  · have e0 : ByteArray.empty.size = 0 := rfl
    simp [tsize, tform, tsizes, e0]
  · simp [tsize, tform, tsizes, txt_length]
    omega
  · have e0 : ByteArray.empty.size = 0 := rfl
    simp [tsize, tform, e0]
    omega

theorem ntake_back {r : List Nat} (hr : ∀ c ∈ r, c < 256) (h : (ntake r).2.2 = 0) :
    r = form (ntake r).1 ++ r.drop (ntake r).2.1 ∧ (ntake r).2.1 = (form (ntake r).1).length ∧ (ntake r).2.1 ≤ r.length ∧ (ntake r).1 < 2 ^ 64 := by
  cases r with
  | nil => simp [ntake] at h
  | cons b0 r =>
    have hb0 := hr b0 (List.mem_cons_self ..)
    have hr' : ∀ c ∈ r, c < 256 := fun c hc => hr c (List.mem_cons_of_mem _ hc)
    by_cases h1 : b0 < 248
    · have e : ntake (b0 :: r) = (b0, 1, 0) := by simp [ntake, h1]
      rw [e]
      simp only [form, if_pos h1]
      exact ⟨rfl, rfl, by simp, by omega⟩
    · by_cases h2 : r.length < b0 - 247
      · simp [ntake, h1, h2] at h
      · by_cases h3 : size (beval (r.take (b0 - 247))) = 1 + (b0 - 247)
        · have e : ntake (b0 :: r) = (beval (r.take (b0 - 247)), 1 + (b0 - 247), 0) := by simp [ntake, h1, h2, h3]
          rw [e]
          have hf := (form_iff hb0 hr' (by omega) (by omega)).2 h3
          simp only [hf]
          have hlen : (r.take (b0 - 247)).length = b0 - 247 := by rw [List.length_take]; omega
          refine ⟨?_, ?_, ?_, ?_⟩
          · rw [Nat.add_comm 1, List.drop_succ_cons, List.cons_append, List.take_append_drop]
          · simp [hlen]; omega
          · simp; omega
          · have hv := beval_lt (r.take (b0 - 247)) fun c hc => hr' c (List.mem_of_mem_take hc)
            rw [hlen] at hv
            have h8 : 256 ^ (b0 - 247) ≤ 256 ^ 8 := Nat.pow_le_pow_right (by decide) (by omega)
            have h9 : 256 ^ 8 = 2 ^ 64 := by decide
            omega
        · simp [ntake, h1, h2, h3] at h
theorem ntake_errs (r : List Nat) : (ntake r).2.2 = 0 ∨ (ntake r).2.2 = 2 ∨ (ntake r).2.2 = 4 := by
  cases r with
  | nil => simp [ntake]
  | cons b0 r =>
    simp only [ntake]
    split
    · simp
    · split
      · simp
      · split <;> simp
theorem ntake_le (r : List Nat) : (ntake r).2.1 ≤ r.length := by
  cases r with
  | nil => simp [ntake]
  | cons b0 r =>
    simp only [ntake]
    split
    · simp
    · split
      · simp
      · split
        · simp; omega
        · simp

theorem gtake_good : ∀ (fuel d : Nat) (t : Tree) (r r1 : List Nat) (a a1 : Nat), fuel + d = 16 → r.length < 2 ^ 62 → (∀ c ∈ r, c < 256) → gtake fuel r a = .ok (t, r1, a1) →
    check t d = 0 ∧ Fit t ∧ r = tform t ++ r1 ∧ a1 = a + (tform t).length := by
  intro fuel
  induction fuel with
  | zero =>
    intro d t r r1 a a1 hd hlen hr h
    cases r <;> simp [gtake] at h
  | succ fuel ih =>
    intro d t r r1 a a1 hd hlen hr h
    cases r with
    | nil => simp [gtake] at h
    | cons k r =>
      have hr' : ∀ c ∈ r, c < 256 := fun c hc => hr c (List.mem_cons_of_mem _ hc)
      simp only [List.length_cons] at hlen
      simp only [gtake] at h
      by_cases hk : 2 < k
      · rw [if_pos hk] at h; cases h
      rw [if_neg hk] at h
      by_cases hn : (ntake r).2.2 ≠ 0
      · rw [if_pos hn] at h; cases h
      rw [if_neg hn] at h
      obtain ⟨n1, n2, n3, n4⟩ := ntake_back hr' (Classical.byContradiction hn)
      generalize (ntake r).1 = v at *
      generalize (ntake r).2.1 = m at *
      have e0 : ByteArray.empty.size = 0 := rfl
      have hd16 : ¬ d = 16 := by omega
      by_cases k0 : k = 0
      · rw [if_pos k0] at h
        simp only [Except.ok.injEq, Prod.mk.injEq] at h
        obtain ⟨rfl, rfl, rfl⟩ := h
        subst k0
        refine ⟨by simp [check, bad, checks, e0, hd16], .mk 0 v _ [] n4 (by decide) (by decide) (fun t ht => by cases ht), ?_, ?_⟩
        · simp only [tform, if_true, List.cons_append, ← n1]
        · simp [tform, n2]; omega
      rw [if_neg k0] at h
      by_cases hl : (r.drop m).length < v
      · rw [if_pos hl] at h; cases h
      rw [if_neg hl] at h
      have hdr : ∀ c ∈ r.drop m, c < 256 := fun c hc => hr' c (List.mem_of_mem_drop hc)
      have hdl : (r.drop m).length ≤ r.length := by simp
      by_cases k1 : k = 1
      · rw [if_pos k1] at h
        simp only [Except.ok.injEq, Prod.mk.injEq] at h
        obtain ⟨rfl, rfl, rfl⟩ := h
        subst k1
        have hsz : (ofBytes ((r.drop m).take v)).size = v := by rw [ofBytes_size, List.length_take]; omega
        have htx : txt (ofBytes ((r.drop m).take v)) = (r.drop m).take v := txt_ofBytes _ fun c hc => hdr c (List.mem_of_mem_take hc)
        refine ⟨by simp [check, bad, checks, hd16], .mk 1 0 _ [] (by decide) (by rw [hsz]; omega) (by decide) (fun t ht => by cases ht), ?_, ?_⟩
        · simp only [tform, if_neg (show ¬ (1 : Int) = 0 by decide), if_true, hsz, htx, List.cons_append, List.append_assoc, List.take_append_drop, ← n1]
        · simp only [tform, if_neg (show ¬ (1 : Int) = 0 by decide), if_true, hsz, htx, List.length_cons, List.length_append, ← n2, List.length_take]
          omega
      rw [if_neg k1] at h
      obtain rfl : k = 2 := by omega
      cases hm : gmany (gtake fuel) v (r.drop m) (a + 1 + m) with
      | error e => rw [hm] at h; cases h
      | ok y =>
        obtain ⟨l, r2, a2⟩ := y
        rw [hm] at h
        simp only [Except.ok.injEq, Prod.mk.injEq] at h
        obtain ⟨rfl, rfl, rfl⟩ := h
        have ih2 : ∀ (t : Tree) (r r1 : List Nat) (a a1 : Nat), (r.length < 2 ^ 62) → (∀ c ∈ r, c < 256) → gtake fuel r a = .ok (t, r1, a1) → check t (d + 1) = 0 ∧ Fit t ∧ r = tform t ++ r1 ∧ a1 = a + (tform t).length := fun t r r1 a a1 hl hb hg => ih (d + 1) t r r1 a a1 (by omega) hl hb hg
        have key : ∀ (n : Nat) (l : List Tree) (r r1 : List Nat) (a a1 : Nat), r.length < 2 ^ 62 → (∀ c ∈ r, c < 256) → gmany (gtake fuel) n r a = .ok (l, r1, a1) →
            l.length = n ∧ checks l (d + 1) = 0 ∧ (∀ t ∈ l, Fit t) ∧ r = tforms l ++ r1 ∧ a1 = a + (tforms l).length := by
          intro n
          induction n with
          | zero =>
            intro l r r1 a a1 hl hr h
            simp only [gmany, Except.ok.injEq, Prod.mk.injEq] at h
            obtain ⟨rfl, rfl, rfl⟩ := h
            exact ⟨rfl, rfl, fun t ht => (by cases ht), rfl, rfl⟩
          | succ n ihn =>
            intro l r r1 a a1 hl hr h
            cases hg : gtake fuel r a with
            | error e => rw [gmany_succ_error hg] at h; cases h
            | ok x =>
              obtain ⟨t, r2, a2⟩ := x
              rw [gmany_succ_ok hg] at h
              obtain ⟨h1, h2, h3, h4⟩ := ih2 t r r2 a a2 hl hr hg
              cases hm : gmany (gtake fuel) n r2 a2 with
              | error e => rw [hm] at h; cases h
              | ok y =>
                obtain ⟨l', r3, a3⟩ := y
                rw [hm] at h
                simp only [Except.ok.injEq, Prod.mk.injEq] at h
                obtain ⟨rfl, rfl, rfl⟩ := h
                obtain ⟨g1, g2, g3, g4, g5⟩ := ihn l' r2 r3 a2 a3 (by have := congrArg List.length h3; simp at this; omega) (fun c hc => hr c (by rw [h3]; exact List.mem_append_right _ hc)) hm
                refine ⟨by simp [g1], by simp [checks, h1, g2], fun u hu => ?_, by rw [h3, g4]; simp [tforms], by rw [g5, h4]; simp [tforms, Nat.add_assoc]⟩
                rcases List.mem_cons.1 hu with rfl | hu
                · exact h2
                · exact g3 u hu
        obtain ⟨g1, g2, g3, g4, g5⟩ := key v l (r.drop m) r2 (a + 1 + m) a2 (by omega) hdr hm
        refine ⟨by simp [check, bad, g2, e0, hd16], .mk 2 0 _ l (by decide) (by decide) (by omega) g3, ?_, ?_⟩
        · simp only [tform, if_neg (show ¬ (2 : Int) = 0 by decide), if_neg (show ¬ (2 : Int) = 1 by decide), List.cons_append, List.append_assoc, g1, ← g4, ← n1]
        · simp only [tform, if_neg (show ¬ (2 : Int) = 0 by decide), if_neg (show ¬ (2 : Int) = 1 by decide), List.length_cons, List.length_append, g1, g5, ← n2]
          omega

theorem gtake_error : ∀ (fuel : Nat) (r : List Nat) (a e p : Nat), gtake fuel r a = .error (e, p) → e = 2 ∨ e = 4 ∨ e = 12 := by
  intro fuel
  induction fuel with
  | zero =>
    intro r a e p h
    cases r <;> simp [gtake] at h <;> omega
  | succ fuel ih =>
    intro r a e p h
    cases r with
    | nil => simp [gtake] at h; omega
    | cons k r =>
      simp only [gtake] at h
      split at h
      · simp at h; omega
      · split at h
        · have := ntake_errs r
          simp at h; omega
        · split at h
          · cases h
          · split at h
            · simp at h; omega
            · split at h
              · cases h
              · have key : ∀ (n : Nat) (r : List Nat) (a e p : Nat), gmany (gtake fuel) n r a = .error (e, p) → e = 2 ∨ e = 4 ∨ e = 12 := by
                  intro n
                  induction n with
                  | zero => intro r a e p h; simp [gmany] at h
                  | succ n ihn =>
                    intro r a e p h
                    cases hg : gtake fuel r a with
                    | error x =>
                      rw [gmany_succ_error hg] at h
                      obtain ⟨e', p'⟩ := x
                      simp at h
                      have := ih r a e' p' hg
                      omega
                    | ok x =>
                      obtain ⟨t, r2, a2⟩ := x
                      rw [gmany_succ_ok hg] at h
                      cases hm : gmany (gtake fuel) n r2 a2 with
                      | error y =>
                        obtain ⟨e', p'⟩ := y
                        rw [hm] at h
                        simp at h
                        have := ihn r2 a2 e' p' hm
                        omega
                      | ok y => rw [hm] at h; cases h
                cases hm : gmany (gtake fuel) (ntake r).1 (r.drop (ntake r).2.1) (a + 1 + (ntake r).2.1) with
                | error y =>
                  obtain ⟨e', p'⟩ := y
                  rw [hm] at h
                  simp at h
                  have := key _ _ _ _ _ hm
                  omega
                | ok y => rw [hm] at h; cases h

/-- What is cut off is short. -/
theorem gtake_cut (t : Tree) : ∀ (d fuel a k : Nat), Fit t → check t d = 0 → fuel + d = 16 → k < (tform t).length → ∃ p, gtake fuel ((tform t).take k) a = .error (2, p) := by
  refine Tree.ind (P := fun t => ∀ (d fuel a k : Nat), Fit t → check t d = 0 → fuel + d = 16 → k < (tform t).length → ∃ p, gtake fuel ((tform t).take k) a = .error (2, p)) ?_ t
  intro k n s l ih d fuel a j hf hc hd hj
  obtain ⟨hb, hd16, hcl⟩ := check_node hc
  obtain ⟨hn, hs, hl, hsub⟩ := hf.out
  cases fuel with
  | zero => omega
  | succ fuel =>
  cases j with
  | zero => exact ⟨a, by simp [gtake]⟩
  | succ j =>
    -- a number that is cut
    have num : ∀ (v : Nat) (rest : List Nat) (q : Nat), j < size v → ∃ p, gtake (fuel + 1) (q :: (form v ++ rest).take j) a = .error (2, p) ∨ 2 < q := by
      intro v rest q hjv
      by_cases hq : 2 < q
      · exact ⟨0, .inr hq⟩
      have h1 : (form v ++ rest).take j = (form v).take j := by
        rw [List.take_append_of_le_length]; rw [size_form]; omega
      have h2 := ntake_cut v j hjv
      refine ⟨a + 1, .inl ?_⟩
      rw [h1]
      simp only [gtake, h2]
      rw [if_neg hq, if_pos (by simp)]
    have whole : ∀ (v : Nat) (rest : List Nat), size v ≤ j → (form v ++ rest).take j = form v ++ rest.take (j - size v) := by
      intro v rest h
      rw [List.take_append, size_form, List.take_of_length_le (by rw [size_form]; exact h)]
    rcases bad_parts hb with ⟨rfl, rfl, rfl⟩ | ⟨rfl, rfl, rfl⟩ | ⟨rfl, rfl, rfl⟩
    · simp [tform, size_form] at hj
      obtain ⟨p, h | h⟩ := num n [] 0 (by omega)
      · exact ⟨p, by simpa [tform] using h⟩
      · omega
    · simp [tform, size_form, txt_length] at hj
      simp only [tform, if_neg (show ¬ (1 : Int) = 0 by decide), if_true, List.take_succ_cons]
      by_cases hjs : j < size s.size
      · obtain ⟨p, h | h⟩ := num s.size (txt s) 1 hjs
        · exact ⟨p, h⟩
        · omega
      · rw [whole _ _ (by omega)]
        have h1 := ntake_form s.size ((txt s).take (j - size s.size))
        have h2 : (form s.size ++ (txt s).take (j - size s.size)).drop (size s.size) = (txt s).take (j - size s.size) := by rw [← size_form]; exact List.drop_left
        refine ⟨a + 1 + size s.size, ?_⟩
        simp only [gtake, h1, h2]
        rw [if_neg (by omega), if_neg (by simp), if_neg (by omega), if_pos (by rw [List.length_take, txt_length]; omega)]
    · simp [tform, size_form] at hj
      simp only [tform, if_neg (show ¬ (2 : Int) = 0 by decide), if_neg (show ¬ (2 : Int) = 1 by decide), List.take_succ_cons]
      by_cases hjs : j < size l.length
      · obtain ⟨p, h | h⟩ := num l.length (tforms l) 2 hjs
        · exact ⟨p, h⟩
        · omega
      · rw [whole _ _ (by omega)]
        have h1 := ntake_form l.length ((tforms l).take (j - size l.length))
        have h2 : (form l.length ++ (tforms l).take (j - size l.length)).drop (size l.length) = (tforms l).take (j - size l.length) := by rw [← size_form]; exact List.drop_left
        simp only [gtake, h1, h2]
        rw [if_neg (by omega), if_neg (by simp), if_neg (by omega)]
        by_cases hsh : ((tforms l).take (j - size l.length)).length < l.length
        · exact ⟨a + 1 + size l.length, by rw [if_pos hsh]⟩
        · rw [if_neg hsh, if_neg (by omega)]
          have key : ∀ (m : List Tree) (a q : Nat), (∀ t ∈ m, t ∈ l) → checks m (d + 1) = 0 → q < (tforms m).length → ∃ p, gmany (gtake fuel) m.length ((tforms m).take q) a = .error (2, p) := by
            intro m
            induction m with
            | nil => intro a q _ _ hq; simp [tforms] at hq
            | cons t m ihm =>
              intro a q hm hcm hq
              rw [checks_zero] at hcm
              have ht := hm t (by simp)
              simp only [tforms, List.length_append] at hq
              simp only [tforms, List.length_cons]
              by_cases hqt : q < (tform t).length
              · rw [List.take_append_of_le_length (by omega)]
                obtain ⟨p, hp⟩ := ih t ht (d + 1) fuel a q (hsub t ht) (hcm t (by simp)) (by omega) hqt
                exact ⟨p, gmany_succ_error hp⟩
              · rw [List.take_append, List.take_of_length_le (by omega)]
                have h5 := gtake_form t (d + 1) fuel a ((tforms m).take (q - (tform t).length)) (hsub t ht) (hcm t (by simp)) (by omega)
                rw [gmany_succ_ok h5]
                obtain ⟨p, hp⟩ := ihm (a + (tform t).length) (q - (tform t).length) (fun v hv => hm v (by simp [hv])) (checks_zero.2 fun v hv => hcm v (by simp [hv])) (by omega)
                rw [hp]
                exact ⟨p, rfl⟩
          obtain ⟨p, hp⟩ := key l (a + 1 + size l.length) (j - size l.length) (fun t h => h) hcl (by omega)
          rw [hp]
          exact ⟨p, rfl⟩
end Go.Proofs.Ytekbebekihcnpaa
