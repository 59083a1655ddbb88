/- What is read of bytes as a tree. Plain: no program in sight. -/
import Derived.Test.YtekbebekihcnpaaTreeB
namespace Go.Proofs.Ytekbebekihcnpaa
set_option linter.unusedVariables false

/-- A text of bytes. -/
def ofBytes (l : List Nat) : ByteArray := ⟨(l.map fun c => UInt8.ofNat c).toArray⟩
theorem txt_ofBytes (l : List Nat) (h : ∀ c ∈ l, c < 256) : txt (ofBytes l) = l := by
  simp only [txt, ofBytes, List.map_map]
  conv => rhs; rw [← List.map_id l]
  apply List.map_congr_left
  intro c hc
  have := h c hc
  simp [Nat.mod_eq_of_lt this]
theorem ofBytes_size (l : List Nat) : (ofBytes l).size = l.length := by simp [ofBytes, ByteArray.size]
theorem ofBytes_txt (s : ByteArray) : ofBytes (txt s) = s := txt_inj (txt_ofBytes _ (txt_lt s))

abbrev Got := Except (Nat × Nat) (Tree × List Nat × Nat)
abbrev Gots := Except (Nat × Nat) (List Tree × List Nat × Nat)
/-- So many trees, one behind the other. -/
def gmany (g : List Nat → Nat → Got) : Nat → List Nat → Nat → Gots
  | 0, r, a => .ok ([], r, a)
  | n + 1, r, a =>
    match g r a with
    | .error e => .error e
    | .ok (t, r1, a1) =>
      match gmany g n r1 a1 with
      | .error e => .error e
      | .ok (l, r2, a2) => .ok (t :: l, r2, a2)
/-- The tree at the front of r, which begins at place a; so many lists may still be opened. -/
def gtake : Nat → List Nat → Nat → Got
  | _, [], a => .error (2, a)
  | 0, _ :: _, a => .error (12, a)
  | fuel + 1, k :: r, a =>
    if 2 < k then .error (4, a)
    else if (ntake r).2.2 ≠ 0 then .error ((ntake r).2.2, a + 1)
    else if k = 0 then .ok (.mk 0 (ntake r).1 ByteArray.empty [], r.drop (ntake r).2.1, a + 1 + (ntake r).2.1)
    else if (r.drop (ntake r).2.1).length < (ntake r).1 then .error (2, a + 1 + (ntake r).2.1)
    else if k = 1 then .ok (.mk 1 0 (ofBytes ((r.drop (ntake r).2.1).take (ntake r).1)) [], (r.drop (ntake r).2.1).drop (ntake r).1, a + 1 + (ntake r).2.1 + (ntake r).1)
    else
      match gmany (gtake fuel) (ntake r).1 (r.drop (ntake r).2.1) (a + 1 + (ntake r).2.1) with
      | .error e => .error e
      | .ok (l, r2, a2) => .ok (.mk 2 0 ByteArray.empty l, r2, a2)
theorem gmany_succ_ok {g : List Nat → Nat → Got} {n a a1 : Nat} {r r1 : List Nat} {t : Tree} (h : g r a = .ok (t, r1, a1)) :
    gmany g (n + 1) r a = match gmany g n r1 a1 with | .error e => .error e | .ok (l, r2, a2) => .ok (t :: l, r2, a2) := by simp only [gmany, h]
theorem gmany_succ_error {g : List Nat → Nat → Got} {n a : Nat} {r : List Nat} {e : Nat × Nat} (h : g r a = .error e) : gmany g (n + 1) r a = .error e := by simp only [gmany, h]
/-- What is put is read. -/
theorem gtake_form (t : Tree) : ∀ (d fuel a : Nat) (r : List Nat), Fit t → check t d = 0 → fuel + d = 16 → gtake fuel (tform t ++ r) a = .ok (t, r, a + (tform t).length) := by
  refine Tree.ind (P := fun t => ∀ (d fuel a : Nat) (r : List Nat), Fit t → check t d = 0 → fuel + d = 16 → gtake fuel (tform t ++ r) a = .ok (t, r, a + (tform t).length)) ?_ t
  intro k n s l ih d fuel a r hf hc hd
  obtain ⟨hb, hd16, hcl⟩ := check_node hc
  obtain ⟨hn, hs, hl, hsub⟩ := hf.out
  cases fuel with
  | zero => omega
  | succ fuel =>
    rcases bad_parts hb with ⟨rfl, rfl, rfl⟩ | ⟨rfl, rfl, rfl⟩ | ⟨rfl, rfl, rfl⟩
    · have h1 := ntake_form n r
      have h2 : (form n ++ r).drop (size n) = r := by rw [← size_form]; exact List.drop_left
      simp [tform, gtake, h1, h2, size_form]
      omega
    · have h1 := ntake_form s.size (txt s ++ r)
      have h2 : (form s.size ++ (txt s ++ r)).drop (size s.size) = txt s ++ r := by rw [← size_form]; exact List.drop_left
      have h3 : (txt s ++ r).take s.size = txt s := by rw [← txt_length]; exact List.take_left
      have h4 : (txt s ++ r).drop s.size = r := by rw [← txt_length]; exact List.drop_left
      simp only [tform, if_neg (show ¬ (1 : Int) = 0 by decide), if_true, List.cons_append, List.append_assoc, gtake, h1, h2, h3, h4]
      rw [if_neg (by omega), if_neg (by simp), if_neg (by omega), if_neg (by simp [txt_length]), ofBytes_txt]
      simp [size_form, txt_length]
      omega
    · have h1 := ntake_form l.length (tforms l ++ r)
      have h2 : (form l.length ++ (tforms l ++ r)).drop (size l.length) = tforms l ++ r := by rw [← size_form]; exact List.drop_left
      have hlen : ∀ m : List Tree, m.length ≤ (tforms m).length := by
        intro m
        induction m with
        | nil => simp
        | cons t m ihm =>
          obtain ⟨k, n, s, q⟩ := t
          have : 1 ≤ (tform (.mk k n s q)).length := by
            simp only [tform]; split
            · simp
            · split <;> simp
          simp only [tforms, List.length_append, List.length_cons]
          omega
      have key : ∀ (m : List Tree) (a : Nat), (∀ t ∈ m, t ∈ l) → checks m (d + 1) = 0 → gmany (gtake fuel) m.length (tforms m ++ r) a = .ok (m, r, a + (tforms m).length) := by
        intro m
        induction m with
        | nil => intro a _ _; simp [gmany, tforms]
        | cons t m ihm =>
          intro a hm hcm
          rw [checks_zero] at hcm
          have h5 := ih t (hm t (by simp)) (d + 1) fuel a (tforms m ++ r) (hsub t (hm t (by simp))) (hcm t (by simp)) (by omega)
          simp only [tforms, List.append_assoc, List.length_cons]
          rw [gmany_succ_ok h5, ihm _ (fun v hv => hm v (by simp [hv])) (checks_zero.2 fun v hv => hcm v (by simp [hv]))]
          simp [Nat.add_assoc]
      have h6 := key l (a + 1 + size l.length) (fun t h => h) hcl
      simp only [tform, if_neg (show ¬ (2 : Int) = 0 by decide), if_neg (show ¬ (2 : Int) = 1 by decide), List.cons_append, List.append_assoc, gtake, h1, h2]
      rw [if_neg (by omega), if_neg (by simp), if_neg (by omega), if_neg (by have := hlen l; simp; omega), if_neg (by omega), h6]
      simp [size_form]
      omega
end Go.Proofs.Ytekbebekihcnpaa
