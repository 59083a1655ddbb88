/- Plain law of the numbers of package num: their forms as lists of bytes, and what is taken of bytes. No program in sight. Trees of numbers, texts and lists: what is wrong with one, its form, its size. Plain: no program in sight. The conversion of a text to bytes: what lies behind it. The append of a text to bytes of the call's own: where the new row lies, and what became of the old one. -/
import Derived.Test.YtmgiholmhhjpaaaDoorRecChecksQ3
import Derived.Lib.BitFns
import Derived.Lib.ConvBytes
import Derived.Lib.AppendStr
namespace Go.Proofs.YtmgiholmhhjpaaaDoor
set_option linter.unusedVariables false

/-- How many bytes a number has, at least one. -/
def wid (v : Nat) : Nat := if h : v < 256 then 1 else wid (v / 256) + 1
termination_by v
decreasing_by omega
/-- A number's bytes, the highest first. -/
def be (v : Nat) : List Nat := if h : v < 256 then [v] else be (v / 256) ++ [v % 256]
termination_by v
decreasing_by omega
def form (v : Nat) : List Nat := if v < 248 then [v] else (247 + wid v) :: be v
def size (v : Nat) : Nat := if v < 248 then 1 else 1 + wid v
/-- What bytes are as a number, the highest first. -/
def beval (l : List Nat) : Nat := l.foldl (fun v c => v * 256 + c) 0

theorem wid_lt {v : Nat} (h : v < 256) : wid v = 1 := by rw [wid, dif_pos h]
theorem wid_ge {v : Nat} (h : 256 ≤ v) : wid v = wid (v / 256) + 1 := by rw [wid, dif_neg (by omega)]
theorem be_lt {v : Nat} (h : v < 256) : be v = [v] := by rw [be, dif_pos h]
theorem be_ge {v : Nat} (h : 256 ≤ v) : be v = be (v / 256) ++ [v % 256] := by rw [be, dif_neg (by omega)]
theorem wid_pos (v : Nat) : 1 ≤ wid v := by rw [wid]; split <;> omega
theorem be_length (v : Nat) : (be v).length = wid v := by
  induction v using Nat.strongRecOn with
  | _ v ih =>
    rcases Nat.lt_or_ge v 256 with h | h
    · rw [be_lt h, wid_lt h]; rfl
    · rw [be_ge h, wid_ge h, List.length_append, ih _ (by omega)]; rfl
theorem be_bytes (v : Nat) : ∀ c ∈ be v, c < 256 := by
  induction v using Nat.strongRecOn with
  | _ v ih =>
    rcases Nat.lt_or_ge v 256 with h | h
    · rw [be_lt h]; simpa using h
    · rw [be_ge h]
      intro c hc
      rcases List.mem_append.1 hc with hc | hc
      · exact ih _ (by omega) c hc
      · have : c = v % 256 := by simpa using hc
        omega
theorem beval_snoc (l : List Nat) (c : Nat) : beval (l ++ [c]) = beval l * 256 + c := by simp [beval]
theorem beval_be (v : Nat) : beval (be v) = v := by
  induction v using Nat.strongRecOn with
  | _ v ih =>
    rcases Nat.lt_or_ge v 256 with h | h
    · rw [be_lt h]; simp [beval]
    · rw [be_ge h, beval_snoc, ih _ (by omega)]; omega
theorem snocInd {P : List Nat → Prop} (h0 : P []) (h1 : ∀ l c, P l → P (l ++ [c])) (l : List Nat) : P l := by
  rw [← List.reverse_reverse l]
  generalize l.reverse = r
  induction r with
  | nil => exact h0
  | cons c r ih => rw [List.reverse_cons]; exact h1 _ c ih
theorem beval_lt (l : List Nat) (hl : ∀ c ∈ l, c < 256) : beval l < 256 ^ l.length := by
  revert hl
  refine snocInd (P := fun l => (∀ c ∈ l, c < 256) → beval l < 256 ^ l.length) ?_ ?_ l
  · intro _; simp [beval]
  · intro l c ih hl
    have h1 := ih (fun x hx => hl x (by simp [hx]))
    have h2 := hl c (by simp)
    rw [beval_snoc, List.length_append, List.length_singleton, Nat.pow_succ]
    omega
theorem wid_le {v n : Nat} (hn : 1 ≤ n) (h : v < 256 ^ n) : wid v ≤ n := by
  induction n generalizing v with
  | zero => omega
  | succ n ih =>
    rcases Nat.lt_or_ge v 256 with h1 | h1
    · rw [wid_lt h1]; omega
    · rw [wid_ge h1]
      have : v / 256 < 256 ^ n := by rw [Nat.pow_succ] at h; omega
      rcases Nat.eq_zero_or_pos n with rfl | hp
      · simp at h; omega
      · have := ih hp this; omega
theorem wid_bound {v : Nat} (h : v < 2 ^ 64) : wid v ≤ 8 := wid_le (by omega) (by simpa using h)
/-- Bytes that are as many as their number has are its bytes. -/
theorem be_beval (l : List Nat) (hl : ∀ c ∈ l, c < 256) (h : wid (beval l) = l.length) : be (beval l) = l := by
  revert hl h
  refine snocInd (P := fun l => (∀ c ∈ l, c < 256) → wid (beval l) = l.length → be (beval l) = l) ?_ ?_ l
  · intro _ h; have := wid_pos (beval []); simp at h; omega
  · intro l c ih hl h
    have h2 := hl c (by simp)
    rw [beval_snoc] at h ⊢
    rcases Nat.lt_or_ge (beval l * 256 + c) 256 with h1 | h1
    · rw [wid_lt h1] at h
      have : l = [] := by
        simp at h; exact h
      subst this
      rw [be_lt h1]; simp [beval]
    · rw [wid_ge h1, show (beval l * 256 + c) / 256 = beval l by omega, List.length_append, List.length_singleton] at h
      rw [be_ge h1, show (beval l * 256 + c) / 256 = beval l by omega, show (beval l * 256 + c) % 256 = c by omega, ih (fun x hx => hl x (by simp [hx])) (by omega)]
theorem size_form (v : Nat) : (form v).length = size v := by
  unfold form size
  split
  · rfl
  · rw [List.length_cons, be_length]; omega
theorem form_bytes {v : Nat} (h : v < 2 ^ 64) : ∀ c ∈ form v, c < 256 := by
  unfold form
  split
  · intro c hc; have : c = v := by simpa using hc
    omega
  · intro c hc
    rcases List.mem_cons.1 hc with rfl | hc
    · have := wid_bound h; omega
    · exact be_bytes v c hc
/-- The first n bytes of a number of w bytes. -/
def beTo (v w n : Nat) : List Nat := (List.range n).map fun i => v / 256 ^ (w - 1 - i) % 256
theorem beTo_succ (v w n : Nat) : beTo v w (n + 1) = beTo v w n ++ [v / 256 ^ (w - 1 - n) % 256] := by
  simp [beTo, List.range_succ]
theorem beTo_shift (v w n : Nat) (h : n ≤ w) : beTo v (w + 1) n = beTo (v / 256) w n := by
  unfold beTo
  apply List.map_congr_left
  intro i hi
  have hi' : i < n := by simpa using hi
  rw [show w + 1 - 1 - i = (w - 1 - i) + 1 by omega, Nat.pow_succ, Nat.mul_comm, Nat.div_div_eq_div_mul]
theorem beTo_wid (v : Nat) : beTo v (wid v) (wid v) = be v := by
  induction v using Nat.strongRecOn with
  | _ v ih =>
    rcases Nat.lt_or_ge v 256 with h | h
    · rw [be_lt h, wid_lt h]
      simp [beTo]
      omega
    · rw [be_ge h, wid_ge h, beTo_succ, beTo_shift _ _ _ (Nat.le_refl _), ih _ (by omega)]
      simp
/-- How many halvings till nothing is left. -/
def bl (x : Nat) : Nat := if h : x = 0 then 0 else 1 + bl (x / 2)
termination_by x
decreasing_by omega
theorem bl_zero : bl 0 = 0 := by rw [bl, dif_pos rfl]
theorem bl_pos {x : Nat} (h : 0 < x) : bl x = 1 + bl (x / 2) := by rw [bl, dif_neg (by omega)]
theorem bl_aux (f x : Nat) (h : x < 2 ^ f) : Go.Lib.bitLenAux f x = bl x := by
  induction f generalizing x with
  | zero => have : x = 0 := by simpa using h
            subst this; rw [bl_zero]; rfl
  | succ f ih =>
    rw [Go.Lib.bitLenAux]
    split
    · rename_i h0; rw [h0, bl_zero]
    · rw [bl_pos (by omega), ih (x / 2) (by rw [Nat.pow_succ] at h; omega)]
theorem bl_le (k x : Nat) (h : x < 2 ^ k) : bl x ≤ k := by
  induction k generalizing x with
  | zero => have : x = 0 := by simpa using h
            subst this; rw [bl_zero]; omega
  | succ k ih =>
    rcases Nat.eq_zero_or_pos x with rfl | h0
    · rw [bl_zero]; omega
    · rw [bl_pos h0]; have := ih (x / 2) (by rw [Nat.pow_succ] at h; omega); omega
theorem bl_shift (x : Nat) (h : 256 ≤ x) : bl x = bl (x / 256) + 8 := by
  rw [bl_pos (by omega), bl_pos (x := x / 2) (by omega), bl_pos (x := x / 2 / 2) (by omega), bl_pos (x := x / 2 / 2 / 2) (by omega), bl_pos (x := x / 2 / 2 / 2 / 2) (by omega),
    bl_pos (x := x / 2 / 2 / 2 / 2 / 2) (by omega), bl_pos (x := x / 2 / 2 / 2 / 2 / 2 / 2) (by omega), bl_pos (x := x / 2 / 2 / 2 / 2 / 2 / 2 / 2) (by omega),
    show x / 2 / 2 / 2 / 2 / 2 / 2 / 2 / 2 = x / 256 by omega]
  omega
/-- What the code reckons by the number's bits. -/
theorem wid_bl (v : Nat) : max 1 ((bl v + 7) / 8) = wid v := by
  induction v using Nat.strongRecOn with
  | _ v ih =>
    rcases Nat.lt_or_ge v 256 with h | h
    · have := bl_le 8 v (by omega)
      rw [wid_lt h]; omega
    · have h1 := ih (v / 256) (by omega)
      have h2 : 1 ≤ bl (v / 256) := by rw [bl_pos (by omega)]; omega
      rw [wid_ge h, ← h1, bl_shift v h]
      omega
theorem wid_bits {v : Nat} (h : v < 2 ^ 64) : max 1 ((Go.Lib.bitLen v + 7) / 8) = wid v := by
  unfold Go.Lib.bitLen
  rw [bl_aux 64 v h, wid_bl]

/-- What is taken of bytes: the number, how many bytes, an error's number. -/
def ntake (l : List Nat) : Nat × Nat × Nat :=
  match l with
  | [] => (0, 0, 2)
  | b0 :: r =>
    if b0 < 248 then (b0, 1, 0)
    else if r.length < b0 - 247 then (0, 0, 2)
    else if size (beval (r.take (b0 - 247))) = 1 + (b0 - 247) then (beval (r.take (b0 - 247)), 1 + (b0 - 247), 0) else (0, 0, 4)
theorem ntake_form (v : Nat) (rest : List Nat) : ntake (form v ++ rest) = (v, size v, 0) := by
  unfold form size
  split
  · rename_i h
    simp [ntake, h]
  · rename_i h
    have hw := wid_pos v
    simp only [List.cons_append, ntake]
    rw [if_neg (by omega), if_neg (by simp [be_length])]
    have e : (be v ++ rest).take (247 + wid v - 247) = be v := by
      rw [show 247 + wid v - 247 = (be v).length by rw [be_length]; omega]
      exact List.take_left
    rw [e, beval_be]
    have hs : size v = 1 + wid v := by unfold size; rw [if_neg h]
    rw [hs, if_pos (by omega)]
    simp
theorem ntake_cut (v k : Nat) (h : k < size v) : ntake ((form v).take k) = (0, 0, 2) := by
  rcases Nat.eq_zero_or_pos k with rfl | hk
  · simp [ntake]
  · unfold size at h
    unfold form
    split at h
    · omega
    · rename_i hv
      rw [if_neg hv]
      obtain ⟨j, rfl⟩ : ∃ j, k = j + 1 := ⟨k - 1, by omega⟩
      have hw := wid_pos v
      simp only [List.take_succ_cons, ntake]
      rw [if_neg (by omega), if_pos (by rw [List.length_take, be_length]; omega)]
theorem form_prefix {a b : Nat} (h : a ≠ b) : (form b).take (size a) ≠ form a := by
  intro he
  have h1 := ntake_form b []
  have h2 := ntake_form a ((form b).drop (size a))
  rw [← he, List.take_append_drop] at h2
  rw [List.append_nil, h2] at h1
  exact h (by injection h1)
theorem wid_mono {a b : Nat} (h : a ≤ b) : wid a ≤ wid b := by
  induction b using Nat.strongRecOn generalizing a with
  | _ b ih =>
    rcases Nat.lt_or_ge a 256 with h1 | h1
    · rw [wid_lt h1]; exact wid_pos b
    · rw [wid_ge h1, wid_ge (by omega : 256 ≤ b)]
      have := ih (b / 256) (by omega) (a := a / 256) (by omega)
      omega
theorem size_mono {a b : Nat} (h : a ≤ b) : size a ≤ size b := by
  unfold size
  have := wid_mono h
  split <;> split <;> omega
/-- The document's way to tell whether the form is right. -/
theorem form_iff {b0 : Nat} {r : List Nat} (hb0 : b0 < 256) (hr : ∀ c ∈ r, c < 256) (h248 : 248 ≤ b0) (hl : b0 - 247 ≤ r.length) :
    form (beval (r.take (b0 - 247))) = b0 :: r.take (b0 - 247) ↔ size (beval (r.take (b0 - 247))) = 1 + (b0 - 247) := by
  have hlen : (r.take (b0 - 247)).length = b0 - 247 := by rw [List.length_take]; omega
  constructor
  · intro h
    rw [← size_form, h, List.length_cons, hlen]; omega
  · intro h
    unfold size at h
    unfold form
    split at h
    · omega
    · rename_i hv
      have hw : wid (beval (r.take (b0 - 247))) = (r.take (b0 - 247)).length := by rw [hlen]; omega
      rw [if_neg hv, be_beval _ (fun c hc => hr c (List.mem_of_mem_take hc)) hw, hw, hlen, show 247 + (b0 - 247) = b0 by omega]
end Go.Proofs.YtmgiholmhhjpaaaDoor

namespace Go.Proofs.YtmgiholmhhjpaaaDoor
set_option linter.unusedVariables false

inductive Tree where
  | mk (kind : Int) (n : Nat) (s : ByteArray) (l : List Tree)

instance : Inhabited Tree := ⟨.mk 0 0 ByteArray.empty []⟩
theorem Tree.ind {P : Tree → Prop} (h : ∀ k n s l, (∀ t ∈ l, P t) → P (.mk k n s l)) : ∀ t, P t
  | .mk k n s l => h k n s l fun t ht => Tree.ind h t
termination_by t => SizeOf.sizeOf t
decreasing_by
  have := List.sizeOf_lt_of_mem ht
  simp
  omega

/-- The bytes of a text. -/
def txt (s : ByteArray) : List Nat := s.data.toList.map UInt8.toNat
theorem txt_length (s : ByteArray) : (txt s).length = s.size := by rw [txt, List.length_map]; rfl
theorem txt_lt (s : ByteArray) : ∀ c ∈ txt s, c < 256 := by
  intro c hc
  simp only [txt, List.mem_map] at hc
  obtain ⟨u, _, rfl⟩ := hc
  exact u.toNat_lt

/-- A node that is wrong by itself. -/
def bad (k : Int) (n : Nat) (s : ByteArray) (l : List Tree) : Bool := decide (¬ (k = 0 ∨ k = 1 ∨ k = 2) ∨ k ≠ 0 ∧ n ≠ 0 ∨ k ≠ 1 ∧ s.size ≠ 0 ∨ k ≠ 2 ∧ 0 < l.length)
mutual
/-- What is wrong with a tree that is nested so deep: an error's number. -/
def check : Tree → Nat → Nat
  | .mk k n s l, d => if bad k n s l = true then 4 else if d = 16 then 12 else checks l (d + 1)
def checks : List Tree → Nat → Nat
  | [], _ => 0
  | t :: l, d => if check t d = 0 then checks l d else check t d
end
mutual
/-- A tree's form. -/
def tform : Tree → List Nat
  | .mk k n s l => if k = 0 then 0 :: form n else if k = 1 then 1 :: (form s.size ++ txt s) else 2 :: (form l.length ++ tforms l)
def tforms : List Tree → List Nat
  | [] => []
  | t :: l => tform t ++ tforms l
end
mutual
def tsize : Tree → Nat
  | .mk k n s l => 1 + s.size + tsizes l
def tsizes : List Tree → Nat
  | [] => 0
  | t :: l => tsize t + tsizes l
end
theorem tforms_append (a b : List Tree) : tforms (a ++ b) = tforms a ++ tforms b := by
  induction a with
  | nil => rfl
  | cons t a ih => simp only [List.cons_append, tforms, ih, List.append_assoc]
theorem tforms_take {l : List Tree} {k : Nat} {t : Tree} (h : l[k]? = some t) : tforms (l.take (k + 1)) = tforms (l.take k) ++ tform t := by
  rw [List.take_add_one, h, tforms_append]
  simp [tforms]
theorem tsizes_append (a b : List Tree) : tsizes (a ++ b) = tsizes a + tsizes b := by
  induction a with
  | nil => simp [tsizes]
  | cons t a ih => simp only [List.cons_append, tsizes, ih]; omega
theorem tsizes_mem {l : List Tree} {t : Tree} (h : t ∈ l) : tsize t ≤ tsizes l := by
  induction l with
  | nil => cases h
  | cons u l ih =>
    simp only [tsizes]
    rcases List.mem_cons.1 h with rfl | h
    · omega
    · have := ih h; omega
theorem tsizes_len (l : List Tree) : l.length ≤ tsizes l := by
  induction l with
  | nil => simp
  | cons t l ih => obtain ⟨k, n, s, m⟩ := t; simp only [List.length_cons, tsizes, tsize]; omega
/-- The first that is wrong. -/
theorem checks_zero {l : List Tree} {d : Nat} : checks l d = 0 ↔ ∀ t ∈ l, check t d = 0 := by
  induction l with
  | nil => simp [checks]
  | cons t l ih =>
    simp only [checks]
    by_cases h : check t d = 0
    · rw [if_pos h, ih]; simp [h]
    · rw [if_neg h]; simp [h]
theorem checks_first {l : List Tree} {d k : Nat} {t : Tree} (hk : l[k]? = some t) (h0 : checks (l.take k) d = 0) (h : check t d ≠ 0) : checks l d = check t d := by
  induction l generalizing k with
  | nil => simp at hk
  | cons u l ih =>
    cases k with
    | zero => simp at hk; subst hk; simp only [checks]; rw [if_neg h]
    | succ k =>
      simp only [List.take_succ_cons, checks] at h0
      by_cases hu : check u d = 0
      · rw [if_pos hu] at h0
        simp only [checks]
        rw [if_pos hu]
        exact ih (by simpa using hk) h0
      · rw [if_neg hu] at h0; exact absurd h0 hu
theorem checks_take {l : List Tree} {d k : Nat} {t : Tree} (hk : l[k]? = some t) (h0 : checks (l.take k) d = 0) (h : check t d = 0) : checks (l.take (k + 1)) d = 0 := by
  rw [checks_zero] at h0 ⊢
  intro u hu
  rw [List.take_add_one, hk] at hu
  rcases List.mem_append.1 hu with hu | hu
  · exact h0 u hu
  · simp at hu; subst hu; exact h
theorem check_errs (t : Tree) : ∀ d, check t d = 0 ∨ check t d = 4 ∨ check t d = 12 := by
  refine Tree.ind (P := fun t => ∀ d, check t d = 0 ∨ check t d = 4 ∨ check t d = 12) ?_ t
  intro k n s l ih d
  simp only [check]
  split
  · exact .inr (.inl rfl)
  · split
    · exact .inr (.inr rfl)
    · have : ∀ m : List Tree, (∀ u ∈ m, u ∈ l) → (checks m (d + 1) = 0 ∨ checks m (d + 1) = 4 ∨ checks m (d + 1) = 12) := by
        intro m
        induction m with
        | nil => intro _; exact .inl rfl
        | cons u m ihm =>
          intro hm
          simp only [checks]
          split
          · exact ihm fun v hv => hm v (by simp [hv])
          · exact ih u (hm u (by simp)) (d + 1)
      exact this l fun u hu => hu

/-- A right tree's node. -/
theorem check_node {k : Int} {n : Nat} {s : ByteArray} {l : List Tree} {d : Nat} (h : check (.mk k n s l) d = 0) : bad k n s l = false ∧ d ≠ 16 ∧ checks l (d + 1) = 0 := by
  simp only [check] at h
  split at h
  · cases h
  · rename_i hb
    split at h
    · cases h
    · rename_i hd
      exact ⟨by simpa using hb, hd, h⟩

mutual
/-- How many items and bytes there are, up to so many, and so deep. -/
def csize (most : Nat) : Nat → Tree → Nat
  | 0, _ => most + 1
  | d + 1, .mk k n s l => csizes most d (1 + s.size) l
def csizes (most : Nat) : Nat → Nat → List Tree → Nat
  | _, acc, [] => acc
  | d, acc, t :: l => if acc ≤ most then csizes most d (acc + csize most d t) l else acc
end
theorem form_len {v : Nat} (h : v < 2 ^ 64) : (form v).length ≤ 9 := by
  rw [size_form]; have := wid_bound h; unfold size; split <;> omega
end Go.Proofs.YtmgiholmhhjpaaaDoor

namespace Go.Proofs.YtmgiholmhhjpaaaDoor
open Go.RowKit
set_option linter.unusedVariables false
set_option linter.unusedSimpArgs false
theorem text_below (w : World) (e : TypeId) (s : ByteArray) : Below w.heap.size w (Lib.bytesWorld w e s) :=
  ⟨rfl, rfl, rfl, by rw [Lib.bytesWorld_size]; omega, fun j hj => Lib.bytesWorld_at_old w e s j hj⟩
theorem text_bytes (w : World) (e : TypeId) (s : ByteArray) (hs : s.size ≤ maxLen) : Bytes (Lib.bytesWorld w e s) (some ⟨w.heap.size, 0, none⟩) s.size (txt s) :=
  ⟨(txt_length s).symm, hs, fun i c hi => ⟨txt_lt s c (List.mem_of_getElem? hi), _, rfl, by
    have hl : i < s.size := by
      rw [← txt_length s]
      rcases Nat.lt_or_ge i (txt s).length with h | h
      · exact h
      · rw [List.getElem?_eq_none h] at hi; cases hi
    have hadd : (⟨w.heap.size, 0, none⟩ : Addr).add i = ⟨w.heap.size, i, none⟩ := by unfold Addr.add; split <;> simp_all
    rw [hadd, Lib.bytesWorld_cell w e s i hl]
    have hg : s.data.toList[i]? = some (s.data.toList[i]'(by rw [Array.length_toList]; exact hl)) := List.getElem?_eq_getElem _
    simp only [txt, List.getElem?_map, hg, Option.map_some, Option.some.injEq] at hi
    simp only [List.getD, hg, Option.getD_some]
    rw [hi]⟩⟩
end Go.Proofs.YtmgiholmhhjpaaaDoor

namespace Go.Proofs.YtmgiholmhhjpaaaDoor
open Go.RowKit
set_option linter.unusedVariables false
set_option linter.unusedSimpArgs false

theorem cells_txt (s : ByteArray) : Lib.strCells s = u8s (txt s) := by
  simp [Lib.strCells, u8s, txt]

section
variable {P : Program} {w : World}
theorem run_app_text (base : Nat) (t x ty e : TypeId) (i : TypeInfo) (ht : P.underlying t = some (.slice e)) (hx : P.underlying x = some .string) (hi : P.info? e = some i) (hz : i.zero = some (.int .u8 0))
    (hsize : i.size = 1) (hby : i.bytes = 1) (v : Value) (l : List Nat) (hown : w.ownsRow base e 1 v l.length (u8s l)) (s : ByteArray)
    (h63 : l.length + s.size ≤ maxLen) (hbytes : l.length + s.size ≤ 140737488355328) (hbase : base ≤ w.heap.size) :
    ∃ v' w', (Builtin.append_ #[t, x] ty #[v, .string s]).run P w = .ok v' w' ∧ w'.ownsRow base e 1 v' (l.length + (txt s).length) (u8s l ++ u8s (txt s)) ∧ w.grownBy w' v.ownBlock ∧
      (v'.ownBlock = v.ownBlock ∨ v'.ownBlock = some w.heap.size) ∧ w'.ownsRow base e 1 v l.length (u8s l) := by
  obtain ⟨v', w', hr, h2, h3, h4⟩ := Lib.run_append_own_string (P := P) w base t x ty e i ht hx hi hz hsize hby v l.length (u8s l) hown s h63 hbytes hbase
  rw [cells_txt] at h2
  rw [← txt_length] at h2
  refine ⟨v', w', hr, h2, h3, ?_⟩
  rcases hown.2 with ⟨rfl, hl⟩ | ⟨g, cap, cur, rfl, hbg, hg, hnc, hcm, hcs, htake⟩
  · have hl0 : l = [] := List.eq_nil_of_length_eq_zero hl
    subst hl0
    refine ⟨?_, World.ownsRow_nil _ _ _ _⟩
    by_cases hs : s.size = 0
    · rw [h4.2 ⟨rfl, hs⟩]; exact .inl rfl
    · have hr' := run_append_nil_string (P := P) w t x ty e i (.int .u8 0) ht hx hi hz s (by omega) (by unfold maxLen at h63; simp at h63; omega) (by rw [hby]; simp at hbytes; omega)
      rw [hr] at hr'
      injection hr' with hv _
      subst hv
      exact .inr rfl
  · by_cases hroom : l.length + s.size ≤ cap
    · have hr' := Lib.run_append_room_string (P := P) w t x ty e i ht hx hi hsize g l.length cap cur hg s hroom (by omega)
      rw [hr] at hr'
      injection hr' with hv hw
      subst hv hw
      refine ⟨.inl rfl, hown.1, .inr ⟨g, cap, _, rfl, hbg, setRow_heap w g cur _ e _ hg, hnc, hcm, ?_, ?_⟩⟩
      · simp only [List.size_toArray, List.length_append, List.length_take, List.length_drop, Array.length_toList, Lib.strCells_length]
        omega
      · have ht' : cur.toList.take l.length = u8s l := by simpa using htake
        rw [ht', Nat.mul_one, List.append_assoc]
        exact List.take_append_of_le_length (by simp [u8s_length]) |>.trans (List.take_of_length_le (by simp [u8s_length]))
    · have holds : ∀ j u, (u8s l)[j]? = some u → w.cell? ((⟨g, 0, none⟩ : Addr).add j) = some u := hown.cells (g := g) rfl
      have hr' := Lib.run_append_grow_string (P := P) w t x ty e i (.int .u8 0) ht hx hi hz ⟨g, 0, none⟩ l.length cap (u8s l) (by rw [hsize, u8s_length]; omega) holds s (by omega) (by unfold maxLen at h63; omega) (by rw [hby]; exact growslice_fits (by omega) (by omega))
      rw [hr] at hr'
      injection hr' with hv hw
      subst hv hw
      refine ⟨.inr rfl, hown.1, .inr ⟨g, cap, cur, rfl, hbg, ?_, hnc, hcm, hcs, htake⟩⟩
      exact (Below.heap_alloc w.drew _ g (Array.getElem?_eq_some_iff.1 hg).1).trans hg

/-- At the list of a plain region's operations. -/
theorem wpList_app_text {ops : Array Oper} {rest : List Oper} {o : Oper} {a : Act} {Q : Exit → Act → World → Prop} (hgd : o.guard = none) (sl xo : Operand) (t x : TypeId)
    (ho : o.op = .call { callee := .builtin .append, args := #[sl, xo], argTypes := #[t, x] })
    (base : Nat) (e : TypeId) (i : TypeInfo) (ht : P.underlying t = some (.slice e)) (hx : P.underlying x = some .string) (hi : P.info? e = some i) (hz : i.zero = some (.int .u8 0))
    (hsize : i.size = 1) (hby : i.bytes = 1)
    (v : Value) (l : List Nat) (hs : a.eval sl = v) (hown : w.ownsRow base e 1 v l.length (u8s l)) (s : ByteArray) (hxe : a.eval xo = .string s)
    (h63 : l.length + s.size ≤ maxLen) (hbytes : l.length + s.size ≤ 140737488355328) (hbase : base ≤ w.heap.size)
    (h : ∀ v' w', w'.ownsRow base e 1 v' (l.length + (txt s).length) (u8s l ++ u8s (txt s)) → w.grownBy w' v.ownBlock → (v'.ownBlock = v.ownBlock ∨ v'.ownBlock = some w.heap.size) → w'.ownsRow base e 1 v l.length (u8s l) → wpList P ops Q rest (a.put o.dst v') w') : wpList P ops Q (o :: rest) a w := by
  refine wpList_plain hgd fun K hK => ?_
  obtain ⟨v', w', hr, h2, h3, h4, h5⟩ := run_app_text (P := P) (w := w) base t x o.type e i ht hx hi hz hsize hby v l hown s h63 hbytes hbase
  unfold Oper.wp execOp
  simp only [ho, resolve, invoke, builtin, Sem.run_bind, Sem.run_pure, Result.andThen_ok, List.map_toArray, List.map_cons, List.map_nil, hs, hxe, hr]
  exact hK _ _ (h v' w' h2 h3 h4 h5)
end

/-- One call behind the other. -/
theorem Onto.trans {w w1 w2 : World} {base : Nat} {e : TypeId} {b b1 b2 : Value} {l l1 l2 : List Nat} (h : Onto w base e b l w1 b1 l1) (k : Onto w1 base e b1 l1 w2 b2 l2) : Onto w base e b l w2 b2 l2 := by
  obtain ⟨mm, rfl⟩ := h.pre
  obtain ⟨m2, rfl⟩ := k.pre
  refine ⟨k.own, grown_trans' h.grown k.grown h.place, ?_, ?_, ⟨mm ++ m2, by simp⟩, h.lt⟩
  · rcases k.place with hat | ⟨g, hat, hg⟩
    · rw [hat]; exact h.place
    · exact .inr ⟨g, hat, Nat.le_trans h.grown.size hg⟩
  · rcases h.place with hpl | ⟨g, hpl, hgw⟩
    · exact h.old.pre h.own hpl k.old
    · refine h.old.kept k.grown ?_
      cases hbo : b.ownBlock with
      | none => exact .inl rfl
      | some j =>
        right
        rw [hpl]
        intro hj
        injection hj with hj
        have := h.lt j hbo
        omega
theorem Onto.appends {w : World} {base : Nat} {e : TypeId} {b b1 : Value} {l l1 m : List Nat} {w1 w2 : World} {r : Ending} (h : Onto w base e b l w1 b1 l1) (k : Appends w1 base e b1 l1 m r w2) :
    ∃ b2, r = .returned b2 ∧ Onto w base e b l w2 b2 (l1 ++ m) ∧ Onto w1 base e b1 l1 w2 b2 (l1 ++ m) := by
  obtain ⟨b2, hr, hk⟩ := k
  exact ⟨b2, hr, h.trans hk, hk⟩
end Go.Proofs.YtmgiholmhhjpaaaDoor
