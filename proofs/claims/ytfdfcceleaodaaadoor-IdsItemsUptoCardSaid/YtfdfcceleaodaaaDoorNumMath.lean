/- Plain law of the numbers of package num: their forms as lists of bytes, and what is taken of bytes. No program in sight. -/
import Derived.Lib.BitFns
namespace Go.Proofs.YtfdfcceleaodaaaDoor
set_option linter.unusedVariables false

/-- How many bytes a number has, at least one. -/
def wid (v : Nat) : Nat := if h : v < 256 then 1 else wid (v / 256) + 1
termination_by v
decreasing_by omega
/-- A number's bytes, the highest first. -/
def be (v : Nat) : List Nat := if h : v < 256 then [v] else be (v / 256) ++ [v % 256]
termination_by v
decreasing_by omega
def form (v : Nat) : List Nat := if v < 248 then [v] else (247 + wid v) :: be v
def size (v : Nat) : Nat := if v < 248 then 1 else 1 + wid v
/-- What bytes are as a number, the highest first. -/
def beval (l : List Nat) : Nat := l.foldl (fun v c => v * 256 + c) 0

theorem wid_lt {v : Nat} (h : v < 256) : wid v = 1 := by rw [wid, dif_pos h]
theorem wid_ge {v : Nat} (h : 256 ≤ v) : wid v = wid (v / 256) + 1 := by rw [wid, dif_neg (by omega)]
theorem be_lt {v : Nat} (h : v < 256) : be v = [v] := by rw [be, dif_pos h]
theorem be_ge {v : Nat} (h : 256 ≤ v) : be v = be (v / 256) ++ [v % 256] := by rw [be, dif_neg (by omega)]
theorem wid_pos (v : Nat) : 1 ≤ wid v := by rw [wid]; split <;> omega
theorem be_length (v : Nat) : (be v).length = wid v := by
  induction v using Nat.strongRecOn with
  | _ v ih =>
    rcases Nat.lt_or_ge v 256 with h | h
    · rw [be_lt h, wid_lt h]; rfl
    · rw [be_ge h, wid_ge h, List.length_append, ih _ (by omega)]; rfl
theorem be_bytes (v : Nat) : ∀ c ∈ be v, c < 256 := by
  induction v using Nat.strongRecOn with
  | _ v ih =>
    rcases Nat.lt_or_ge v 256 with h | h
    · rw [be_lt h]; simpa using h
    · rw [be_ge h]
      intro c hc
      rcases List.mem_append.1 hc with hc | hc
      · exact ih _ (by omega) c hc
      · have : c = v % 256 := by simpa using hc
        omega
theorem beval_snoc (l : List Nat) (c : Nat) : beval (l ++ [c]) = beval l * 256 + c := by simp [beval]
theorem beval_be (v : Nat) : beval (be v) = v := by
  induction v using Nat.strongRecOn with
  | _ v ih =>
    rcases Nat.lt_or_ge v 256 with h | h
    · rw [be_lt h]; simp [beval]
    · rw [be_ge h, beval_snoc, ih _ (by omega)]; omega
theorem snocInd {P : List Nat → Prop} (h0 : P []) (h1 : ∀ l c, P l → P (l ++ [c])) (l : List Nat) : P l := by
  rw [← List.reverse_reverse l]
  generalize l.reverse = r
  induction r with
  | nil => exact h0
  | cons c r ih => rw [List.reverse_cons]; exact h1 _ c ih
theorem beval_lt (l : List Nat) (hl : ∀ c ∈ l, c < 256) : beval l < 256 ^ l.length := by
  revert hl
  refine snocInd (P := fun l => (∀ c ∈ l, c < 256) → beval l < 256 ^ l.length) ?_ ?_ l
  · intro _; simp [beval]
  · intro l c ih hl
    have h1 := ih (fun x hx => hl x (by simp [hx]))
    have h2 := hl c (by simp)
    rw [beval_snoc, List.length_append, List.length_singleton, Nat.pow_succ]
    omega
theorem wid_le {v n : Nat} (hn : 1 ≤ n) (h : v < 256 ^ n) : wid v ≤ n := by
  induction n generalizing v with
  | zero => omega
  | succ n ih =>
    rcases Nat.lt_or_ge v 256 with h1 | h1
    · rw [wid_lt h1]; omega
    · rw [wid_ge h1]
      have : v / 256 < 256 ^ n := by rw [Nat.pow_succ] at h; omega
      rcases Nat.eq_zero_or_pos n with rfl | hp
      · simp at h; omega
      · have := ih hp this; omega
theorem wid_bound {v : Nat} (h : v < 2 ^ 64) : wid v ≤ 8 := wid_le (by omega) (by simpa using h)
/-- Bytes that are as many as their number has are its bytes. -/
theorem be_beval (l : List Nat) (hl : ∀ c ∈ l, c < 256) (h : wid (beval l) = l.length) : be (beval l) = l := by
  revert hl h
  refine snocInd (P := fun l => (∀ c ∈ l, c < 256) → wid (beval l) = l.length → be (beval l) = l) ?_ ?_ l
  · intro _ h; have := wid_pos (beval []); simp at h; omega
  · intro l c ih hl h
    have h2 := hl c (by simp)
    rw [beval_snoc] at h ⊢
    rcases Nat.lt_or_ge (beval l * 256 + c) 256 with h1 | h1
    · rw [wid_lt h1] at h
      have : l = [] := by
        simp at h; exact h
      subst this
      rw [be_lt h1]; simp [beval]
    · rw [wid_ge h1, show (beval l * 256 + c) / 256 = beval l by omega, List.length_append, List.length_singleton] at h
      rw [be_ge h1, show (beval l * 256 + c) / 256 = beval l by omega, show (beval l * 256 + c) % 256 = c by omega, ih (fun x hx => hl x (by simp [hx])) (by omega)]
theorem size_form (v : Nat) : (form v).length = size v := by
  unfold form size
  split
  · rfl
  · rw [List.length_cons, be_length]; omega
theorem form_bytes {v : Nat} (h : v < 2 ^ 64) : ∀ c ∈ form v, c < 256 := by
  unfold form
  split
  · intro c hc; have : c = v := by simpa using hc
    omega
  · intro c hc
    rcases List.mem_cons.1 hc with rfl | hc
    · have := wid_bound h; omega
    · exact be_bytes v c hc
/-- The first n bytes of a number of w bytes. -/
def beTo (v w n : Nat) : List Nat := (List.range n).map fun i => v / 256 ^ (w - 1 - i) % 256
theorem beTo_succ (v w n : Nat) : beTo v w (n + 1) = beTo v w n ++ [v / 256 ^ (w - 1 - n) % 256] := by
  simp [beTo, List.range_succ]
theorem beTo_shift (v w n : Nat) (h : n ≤ w) : beTo v (w + 1) n = beTo (v / 256) w n := by
  unfold beTo
  apply List.map_congr_left
  intro i hi
  have hi' : i < n := by simpa using hi
  rw [show w + 1 - 1 - i = (w - 1 - i) + 1 by omega, Nat.pow_succ, Nat.mul_comm, Nat.div_div_eq_div_mul]
theorem beTo_wid (v : Nat) : beTo v (wid v) (wid v) = be v := by
  induction v using Nat.strongRecOn with
  | _ v ih =>
    rcases Nat.lt_or_ge v 256 with h | h
    · rw [be_lt h, wid_lt h]
      simp [beTo]
      omega
    · rw [be_ge h, wid_ge h, beTo_succ, beTo_shift _ _ _ (Nat.le_refl _), ih _ (by omega)]
      simp
/-- How many halvings till nothing is left. -/
def bl (x : Nat) : Nat := if h : x = 0 then 0 else 1 + bl (x / 2)
termination_by x
decreasing_by omega
theorem bl_zero : bl 0 = 0 := by rw [bl, dif_pos rfl]
theorem bl_pos {x : Nat} (h : 0 < x) : bl x = 1 + bl (x / 2) := by rw [bl, dif_neg (by omega)]
theorem bl_aux (f x : Nat) (h : x < 2 ^ f) : Go.Lib.bitLenAux f x = bl x := by
  induction f generalizing x with
  | zero => have : x = 0 := by simpa using h
            subst this; rw [bl_zero]; rfl
  | succ f ih =>
    rw [Go.Lib.bitLenAux]
    split
    · rename_i h0; rw [h0, bl_zero]
    · rw [bl_pos (by omega), ih (x / 2) (by rw [Nat.pow_succ] at h; omega)]
theorem bl_le (k x : Nat) (h : x < 2 ^ k) : bl x ≤ k := by
  induction k generalizing x with
  | zero => have : x = 0 := by simpa using h
            subst this; rw [bl_zero]; omega
  | succ k ih =>
    rcases Nat.eq_zero_or_pos x with rfl | h0
    · rw [bl_zero]; omega
    · rw [bl_pos h0]; have := ih (x / 2) (by rw [Nat.pow_succ] at h; omega); omega
theorem bl_shift (x : Nat) (h : 256 ≤ x) : bl x = bl (x / 256) + 8 := by
  rw [bl_pos (by omega), bl_pos (x := x / 2) (by omega), bl_pos (x := x / 2 / 2) (by omega), bl_pos (x := x / 2 / 2 / 2) (by omega), bl_pos (x := x / 2 / 2 / 2 / 2) (by omega),
    bl_pos (x := x / 2 / 2 / 2 / 2 / 2) (by omega), bl_pos (x := x / 2 / 2 / 2 / 2 / 2 / 2) (by omega), bl_pos (x := x / 2 / 2 / 2 / 2 / 2 / 2 / 2) (by omega),
    show x / 2 / 2 / 2 / 2 / 2 / 2 / 2 / 2 = x / 256 by omega]
  omega
/-- What the code reckons by the number's bits. -/
theorem wid_bl (v : Nat) : max 1 ((bl v + 7) / 8) = wid v := by
  induction v using Nat.strongRecOn with
  | _ v ih =>
    rcases Nat.lt_or_ge v 256 with h | h
    · have := bl_le 8 v (by omega)
      rw [wid_lt h]; omega
    · have h1 := ih (v / 256) (by omega)
      have h2 : 1 ≤ bl (v / 256) := by rw [bl_pos (by omega)]; omega
      rw [wid_ge h, ← h1, bl_shift v h]
      omega
theorem wid_bits {v : Nat} (h : v < 2 ^ 64) : max 1 ((Go.Lib.bitLen v + 7) / 8) = wid v := by
  unfold Go.Lib.bitLen
  rw [bl_aux 64 v h, wid_bl]

/-- What is taken of bytes: the number, how many bytes, an error's number. -/
def ntake (l : List Nat) : Nat × Nat × Nat :=
  match l with
  | [] => (0, 0, 2)
  | b0 :: r =>
    if b0 < 248 then (b0, 1, 0)
    else if r.length < b0 - 247 then (0, 0, 2)
    else if size (beval (r.take (b0 - 247))) = 1 + (b0 - 247) then (beval (r.take (b0 - 247)), 1 + (b0 - 247), 0) else (0, 0, 4)
theorem ntake_form (v : Nat) (rest : List Nat) : ntake (form v ++ rest) = (v, size v, 0) := by
  unfold form size
  split
  · rename_i h
    simp [ntake, h]
  · rename_i h
    have hw := wid_pos v
    simp only [List.cons_append, ntake]
    rw [if_neg (by omega), if_neg (by simp [be_length])]
    have e : (be v ++ rest).take (247 + wid v - 247) = be v := by
      rw [show 247 + wid v - 247 = (be v).length by rw [be_length]; omega]
      exact List.take_left
    rw [e, beval_be]
    have hs : size v = 1 + wid v := by unfold size; rw [if_neg h]
    rw [hs, if_pos (by omega)]
    simp
theorem ntake_cut (v k : Nat) (h : k < size v) : ntake ((form v).take k) = (0, 0, 2) := by
  rcases Nat.eq_zero_or_pos k with rfl | hk
  · simp [ntake]
  · unfold size at h
    unfold form
    split at h
    · omega
    · rename_i hv
      rw [if_neg hv]
      obtain ⟨j, rfl⟩ : ∃ j, k = j + 1 := ⟨k - 1, by omega⟩
      have hw := wid_pos v
      simp only [List.take_succ_cons, ntake]
      rw [if_neg (by omega), if_pos (by rw [List.length_take, be_length]; omega)]
theorem form_prefix {a b : Nat} (h : a ≠ b) : (form b).take (size a) ≠ form a := by
  intro he
  have h1 := ntake_form b []
  have h2 := ntake_form a ((form b).drop (size a))
  rw [← he, List.take_append_drop] at h2
  rw [List.append_nil, h2] at h1
  exact h (by injection h1)
theorem wid_mono {a b : Nat} (h : a ≤ b) : wid a ≤ wid b := by
  induction b using Nat.strongRecOn generalizing a with
  | _ b ih =>
    rcases Nat.lt_or_ge a 256 with h1 | h1
    · rw [wid_lt h1]; exact wid_pos b
    · rw [wid_ge h1, wid_ge (by omega : 256 ≤ b)]
      have := ih (b / 256) (by omega) (a := a / 256) (by omega)
      omega
theorem size_mono {a b : Nat} (h : a ≤ b) : size a ≤ size b := by
  unfold size
  have := wid_mono h
  split <;> split <;> omega
/-- The document's way to tell whether the form is right. -/
theorem form_iff {b0 : Nat} {r : List Nat} (hb0 : b0 < 256) (hr : ∀ c ∈ r, c < 256) (h248 : 248 ≤ b0) (hl : b0 - 247 ≤ r.length) :
    form (beval (r.take (b0 - 247))) = b0 :: r.take (b0 - 247) ↔ size (beval (r.take (b0 - 247))) = 1 + (b0 - 247) := by
  have hlen : (r.take (b0 - 247)).length = b0 - 247 := by rw [List.length_take]; omega
  constructor
  · intro h
    rw [← size_form, h, List.length_cons, hlen]; omega
  · intro h
    unfold size at h
    unfold form
    split at h
    · omega
    · rename_i hv
      have hw : wid (beval (r.take (b0 - 247))) = (r.take (b0 - 247)).length := by rw [hlen]; omega
      rw [if_neg hv, be_beval _ (fun c hc => hr c (List.mem_of_mem_take hc)) hw, hw, hlen, show 247 + (b0 - 247) = b0 by omega]
end Go.Proofs.YtfdfcceleaodaaaDoor
