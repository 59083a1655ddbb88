/- Plain law of the numbers of package num: their forms as lists of bytes, and what is taken of bytes. No program in sight. The contracts of the library's functions at this dump, laid by the shelf's own tool in plain declarations. The walks of package num (wide, Size, Put, Take) and of the document's numbers (package stonecropref01: digits, Put, Take, Same). The document's Same of bytes (package stonecropref01). -/
import Derived.Test.YtfdfcceleaodaaaAttrItemsQ1
import Derived.Lib.BitFns
import Derived.Shelf.Small.Bits
import Derived.Shelf.Small.Wraps
import Derived.Shelf.Strconv.Itoa0
import Derived.Ground.Names2Prog
import Derived.Shelf.Slices.SearchI
import Derived.Test.YtfdfcceleaodaaaProg
namespace Go.Proofs.Ytfdfcceleaodaaa
set_option linter.unusedVariables false

/-- How many bytes a number has, at least one. -/
def wid (v : Nat) : Nat := if h : v < 256 then 1 else wid (v / 256) + 1
termination_by v
decreasing_by omega
/-- A number's bytes, the highest first. -/
def be (v : Nat) : List Nat := if h : v < 256 then [v] else be (v / 256) ++ [v % 256]
termination_by v
decreasing_by omega
def form (v : Nat) : List Nat := if v < 248 then [v] else (247 + wid v) :: be v
def size (v : Nat) : Nat := if v < 248 then 1 else 1 + wid v
/-- What bytes are as a number, the highest first. -/
def beval (l : List Nat) : Nat := l.foldl (fun v c => v * 256 + c) 0

theorem wid_lt {v : Nat} (h : v < 256) : wid v = 1 := by rw [wid, dif_pos h]
theorem wid_ge {v : Nat} (h : 256 ≤ v) : wid v = wid (v / 256) + 1 := by rw [wid, dif_neg (by omega)]
theorem be_lt {v : Nat} (h : v < 256) : be v = [v] := by rw [be, dif_pos h]
theorem be_ge {v : Nat} (h : 256 ≤ v) : be v = be (v / 256) ++ [v % 256] := by rw [be, dif_neg (by omega)]
theorem wid_pos (v : Nat) : 1 ≤ wid v := by rw [wid]; split <;> omega
theorem be_length (v : Nat) : (be v).length = wid v := by
  induction v using Nat.strongRecOn with
  | _ v ih =>
    rcases Nat.lt_or_ge v 256 with h | h
    · rw [be_lt h, wid_lt h]; rfl
    · rw [be_ge h, wid_ge h, List.length_append, ih _ (by omega)]; rfl
theorem be_bytes (v : Nat) : ∀ c ∈ be v, c < 256 := by
  induction v using Nat.strongRecOn with
  | _ v ih =>
    rcases Nat.lt_or_ge v 256 with h | h
    · rw [be_lt h]; simpa using h
    · rw [be_ge h]
      intro c hc
      rcases List.mem_append.1 hc with hc | hc
      · exact ih _ (by omega) c hc
      · have : c = v % 256 := by simpa using hc
        omega
theorem beval_snoc (l : List Nat) (c : Nat) : beval (l ++ [c]) = beval l * 256 + c := by simp [beval]
theorem beval_be (v : Nat) : beval (be v) = v := by
  induction v using Nat.strongRecOn with
  | _ v ih =>
    rcases Nat.lt_or_ge v 256 with h | h
    · rw [be_lt h]; simp [beval]
    · rw [be_ge h, beval_snoc, ih _ (by omega)]; omega
theorem snocInd {P : List Nat → Prop} (h0 : P []) (h1 : ∀ l c, P l → P (l ++ [c])) (l : List Nat) : P l := by
  rw [← List.reverse_reverse l]
  generalize l.reverse = r
  induction r with
  | nil => exact h0
  | cons c r ih => rw [List.reverse_cons]; exact h1 _ c ih
theorem beval_lt (l : List Nat) (hl : ∀ c ∈ l, c < 256) : beval l < 256 ^ l.length := by
  revert hl
  refine snocInd (P := fun l => (∀ c ∈ l, c < 256) → beval l < 256 ^ l.length) ?_ ?_ l
  · intro _; simp [beval]
  · intro l c ih hl
    have h1 := ih (fun x hx => hl x (by simp [hx]))
    have h2 := hl c (by simp)
    rw [beval_snoc, List.length_append, List.length_singleton, Nat.pow_succ]
    omega
theorem wid_le {v n : Nat} (hn : 1 ≤ n) (h : v < 256 ^ n) : wid v ≤ n := by
  induction n generalizing v with
  | zero => omega
  | succ n ih =>
    rcases Nat.lt_or_ge v 256 with h1 | h1
    · rw [wid_lt h1]; omega
    · rw [wid_ge h1]
      have : v / 256 < 256 ^ n := by rw [Nat.pow_succ] at h; omega
      rcases Nat.eq_zero_or_pos n with rfl | hp
      · simp at h; omega
      · have := ih hp this; omega
theorem wid_bound {v : Nat} (h : v < 2 ^ 64) : wid v ≤ 8 := wid_le (by omega) (by simpa using h)
/-- Bytes that are as many as their number has are its bytes. -/
theorem be_beval (l : List Nat) (hl : ∀ c ∈ l, c < 256) (h : wid (beval l) = l.length) : be (beval l) = l := by
  revert hl h
  refine snocInd (P := fun l => (∀ c ∈ l, c < 256) → wid (beval l) = l.length → be (beval l) = l) ?_ ?_ l
  · intro _ h; have := wid_pos (beval []); simp at h; omega
  · intro l c ih hl h
    have h2 := hl c (by simp)
    rw [beval_snoc] at h ⊢
    rcases Nat.lt_or_ge (beval l * 256 + c) 256 with h1 | h1
    · rw [wid_lt h1] at h
      have : l = [] := by
        simp at h; exact h
      subst this
      rw [be_lt h1]; simp [beval]
    · rw [wid_ge h1, show (beval l * 256 + c) / 256 = beval l by omega, List.length_append, List.length_singleton] at h
      rw [be_ge h1, show (beval l * 256 + c) / 256 = beval l by omega, show (beval l * 256 + c) % 256 = c by omega, ih (fun x hx => hl x (by simp [hx])) (by omega)]
theorem size_form (v : Nat) : (form v).length = size v := by
  unfold form size
  split
  · rfl
  · rw [List.length_cons, be_length]; omega
theorem form_bytes {v : Nat} (h : v < 2 ^ 64) : ∀ c ∈ form v, c < 256 := by
  unfold form
  split
  · intro c hc; have : c = v := by simpa using hc
    omega
  · intro c hc
    rcases List.mem_cons.1 hc with rfl | hc
    · have := wid_bound h; omega
    · exact be_bytes v c hc
/-- The first n bytes of a number of w bytes. -/
def beTo (v w n : Nat) : List Nat := (List.range n).map fun i => v / 256 ^ (w - 1 - i) % 256
theorem beTo_succ (v w n : Nat) : beTo v w (n + 1) = beTo v w n ++ [v / 256 ^ (w - 1 - n) % 256] := by
  simp [beTo, List.range_succ]
theorem beTo_shift (v w n : Nat) (h : n ≤ w) : beTo v (w + 1) n = beTo (v / 256) w n := by
  unfold beTo
  apply List.map_congr_left
  intro i hi
  have hi' : i < n := by simpa using hi
  rw [show w + 1 - 1 - i = (w - 1 - i) + 1 by omega, Nat.pow_succ, Nat.mul_comm, Nat.div_div_eq_div_mul]
theorem beTo_wid (v : Nat) : beTo v (wid v) (wid v) = be v := by
  induction v using Nat.strongRecOn with
  | _ v ih =>
    rcases Nat.lt_or_ge v 256 with h | h
    · rw [be_lt h, wid_lt h]
      simp [beTo]
      omega
    · rw [be_ge h, wid_ge h, beTo_succ, beTo_shift _ _ _ (Nat.le_refl _), ih _ (by omega)]
      simp
/-- How many halvings till nothing is left. -/
def bl (x : Nat) : Nat := if h : x = 0 then 0 else 1 + bl (x / 2)
termination_by x
decreasing_by omega
theorem bl_zero : bl 0 = 0 := by rw [bl, dif_pos rfl]
theorem bl_pos {x : Nat} (h : 0 < x) : bl x = 1 + bl (x / 2) := by rw [bl, dif_neg (by omega)]
theorem bl_aux (f x : Nat) (h : x < 2 ^ f) : Go.Lib.bitLenAux f x = bl x := by
  induction f generalizing x with
  | zero => have : x = 0 := by simpa using h
            subst this; rw [bl_zero]; rfl
  | succ f ih =>
    rw [Go.Lib.bitLenAux]
    split
    · rename_i h0; rw [h0, bl_zero]
    · rw [bl_pos (by omega), ih (x / 2) (by rw [Nat.pow_succ] at h; omega)]
theorem bl_le (k x : Nat) (h : x < 2 ^ k) : bl x ≤ k := by
  induction k generalizing x with
  | zero => have : x = 0 := by simpa using h
            subst this; rw [bl_zero]; omega
  | succ k ih =>
    rcases Nat.eq_zero_or_pos x with rfl | h0
    · rw [bl_zero]; omega
    · rw [bl_pos h0]; have := ih (x / 2) (by rw [Nat.pow_succ] at h; omega); omega
theorem bl_shift (x : Nat) (h : 256 ≤ x) : bl x = bl (x / 256) + 8 := by
  rw [bl_pos (by omega), bl_pos (x := x / 2) (by omega), bl_pos (x := x / 2 / 2) (by omega), bl_pos (x := x / 2 / 2 / 2) (by omega), bl_pos (x := x / 2 / 2 / 2 / 2) (by omega),
    bl_pos (x := x / 2 / 2 / 2 / 2 / 2) (by omega), bl_pos (x := x / 2 / 2 / 2 / 2 / 2 / 2) (by omega), bl_pos (x := x / 2 / 2 / 2 / 2 / 2 / 2 / 2) (by omega),
    show x / 2 / 2 / 2 / 2 / 2 / 2 / 2 / 2 = x / 256 by omega]
  omega
/-- What the code reckons by the number's bits. -/
theorem wid_bl (v : Nat) : max 1 ((bl v + 7) / 8) = wid v := by
  induction v using Nat.strongRecOn with
  | _ v ih =>
    rcases Nat.lt_or_ge v 256 with h | h
    · have := bl_le 8 v (by omega)
      rw [wid_lt h]; omega
    · have h1 := ih (v / 256) (by omega)
      have h2 : 1 ≤ bl (v / 256) := by rw [bl_pos (by omega)]; omega
      rw [wid_ge h, ← h1, bl_shift v h]
      omega
theorem wid_bits {v : Nat} (h : v < 2 ^ 64) : max 1 ((Go.Lib.bitLen v + 7) / 8) = wid v := by
  unfold Go.Lib.bitLen
  rw [bl_aux 64 v h, wid_bl]

/-- What is taken of bytes: the number, how many bytes, an error's number. -/
def ntake (l : List Nat) : Nat × Nat × Nat :=
  match l with
  | [] => (0, 0, 2)
  | b0 :: r =>
    if b0 < 248 then (b0, 1, 0)
    else if r.length < b0 - 247 then (0, 0, 2)
    else if size (beval (r.take (b0 - 247))) = 1 + (b0 - 247) then (beval (r.take (b0 - 247)), 1 + (b0 - 247), 0) else (0, 0, 4)
theorem ntake_form (v : Nat) (rest : List Nat) : ntake (form v ++ rest) = (v, size v, 0) := by
  unfold form size
  split
  · rename_i h
    simp [ntake, h]
  · rename_i h
    have hw := wid_pos v
    simp only [List.cons_append, ntake]
    rw [if_neg (by omega), if_neg (by simp [be_length])]
    have e : (be v ++ rest).take (247 + wid v - 247) = be v := by
      rw [show 247 + wid v - 247 = (be v).length by rw [be_length]; omega]
      exact List.take_left
    rw [e, beval_be]
    have hs : size v = 1 + wid v := by unfold size; rw [if_neg h]
    rw [hs, if_pos (by omega)]
    simp
theorem ntake_cut (v k : Nat) (h : k < size v) : ntake ((form v).take k) = (0, 0, 2) := by
  rcases Nat.eq_zero_or_pos k with rfl | hk
  · simp [ntake]
  · unfold size at h
    unfold form
    split at h
    · omega
    · rename_i hv
      rw [if_neg hv]
      obtain ⟨j, rfl⟩ : ∃ j, k = j + 1 := ⟨k - 1, by omega⟩
      have hw := wid_pos v
      simp only [List.take_succ_cons, ntake]
      rw [if_neg (by omega), if_pos (by rw [List.length_take, be_length]; omega)]
theorem form_prefix {a b : Nat} (h : a ≠ b) : (form b).take (size a) ≠ form a := by
  intro he
  have h1 := ntake_form b []
  have h2 := ntake_form a ((form b).drop (size a))
  rw [← he, List.take_append_drop] at h2
  rw [List.append_nil, h2] at h1
  exact h (by injection h1)
theorem wid_mono {a b : Nat} (h : a ≤ b) : wid a ≤ wid b := by
  induction b using Nat.strongRecOn generalizing a with
  | _ b ih =>
    rcases Nat.lt_or_ge a 256 with h1 | h1
    · rw [wid_lt h1]; exact wid_pos b
    · rw [wid_ge h1, wid_ge (by omega : 256 ≤ b)]
      have := ih (b / 256) (by omega) (a := a / 256) (by omega)
      omega
theorem size_mono {a b : Nat} (h : a ≤ b) : size a ≤ size b := by
  unfold size
  have := wid_mono h
  split <;> split <;> omega
/-- The document's way to tell whether the form is right. -/
theorem form_iff {b0 : Nat} {r : List Nat} (hb0 : b0 < 256) (hr : ∀ c ∈ r, c < 256) (h248 : 248 ≤ b0) (hl : b0 - 247 ≤ r.length) :
    form (beval (r.take (b0 - 247))) = b0 :: r.take (b0 - 247) ↔ size (beval (r.take (b0 - 247))) = 1 + (b0 - 247) := by
  have hlen : (r.take (b0 - 247)).length = b0 - 247 := by rw [List.length_take]; omega
  constructor
  · intro h
    rw [← size_form, h, List.length_cons, hlen]; omega
  · intro h
    unfold size at h
    unfold form
    split at h
    · omega
    · rename_i hv
      have hw : wid (beval (r.take (b0 - 247))) = (r.take (b0 - 247)).length := by rw [hlen]; omega
      rw [if_neg hv, be_beval _ (fun c hc => hr c (List.mem_of_mem_take hc)) hw, hw, hlen, show 247 + (b0 - 247) = b0 by omega]
end Go.Proofs.Ytfdfcceleaodaaa

namespace Go.Proofs
open Go.Shelf
def Try.lays128_ren : Go.Shelf.Ren := ⟨fun | 128 => 67 | n => n, fun | 51 => 87 | 3 => 3 | 4 => 4 | 46 => 76 | 5 => 5 | 9 => 9 | n => n, fun | n => n⟩
theorem Try.lays128 : Go.Proofs.Lays.n128 Try.prog Try.lays128_ren := {
  mixed := by kernel_rfl
  f128 := Try.func67.trans (congrArg some (by kernel_rfl))
  t3 := Try.underlying3
  a3 := Try.isAgg3
  z3 := Try.sizeOf3
  v3 := Try.zeroValue3
  t4 := Try.underlying4
  a4 := Try.isAgg4
  z4 := Try.sizeOf4
  v4 := Try.zeroValue4
  t5 := Try.underlying5
  a5 := Try.isAgg5
  z5 := Try.sizeOf5
  v5 := Try.zeroValue5
  t9 := Try.underlying9
  a9 := Try.isAgg9
  z9 := Try.sizeOf9
  v9 := Try.zeroValue9
  t46 := Try.underlying76
  a46 := Try.isAgg76
  z46 := Try.sizeOf76
  v46 := Try.zeroValue76
  t51 := Try.underlying87
  a51 := Try.isAgg87
  z51 := Try.sizeOf87
  v51 := Try.zeroValue87 }
/-- bits.Len32: "Len32 returns the minimum number of bits required to represent x; the result is 0 for x == 0.": IT RETURNS 'Lib.bitLen x'; the world is as it was. ('h0', 'h1': x is a uint32.) (LAID: no walk: one application.) -/
theorem Try.bits_Len32 (x : Int) (w : World) (h0 : 0 ≤ x) (h1 : x ≤ 4294967295) :
    Calls Try.prog 67 #[.int .u32 x] w fun e w' => e = .returned (.int .i64 (Lib.bitLen x.toNat)) ∧ w' = w := Any.bits_Len32 Try.lays128 x w h0 h1
def Try.lays125_ren : Go.Shelf.Ren := ⟨fun | 125 => 56 | 128 => 67 | 129 => 68 | n => n, fun | 46 => 76 | 3 => 3 | 51 => 87 | 53 => 25 | 4 => 4 | 5 => 5 | 9 => 9 | n => n, fun | n => n⟩
theorem Try.lays125 : Go.Proofs.Lays.n125 Try.prog Try.lays125_ren := {
  mixed := by kernel_rfl
  f125 := Try.func56.trans (congrArg some (by kernel_rfl))
  f128 := Try.func67.trans (congrArg some (by kernel_rfl))
  f129 := Try.func68.trans (congrArg some (by kernel_rfl))
  t3 := Try.underlying3
  a3 := Try.isAgg3
  z3 := Try.sizeOf3
  v3 := Try.zeroValue3
  t4 := Try.underlying4
  a4 := Try.isAgg4
  z4 := Try.sizeOf4
  v4 := Try.zeroValue4
  t5 := Try.underlying5
  a5 := Try.isAgg5
  z5 := Try.sizeOf5
  v5 := Try.zeroValue5
  t9 := Try.underlying9
  a9 := Try.isAgg9
  z9 := Try.sizeOf9
  v9 := Try.zeroValue9
  t46 := Try.underlying76
  a46 := Try.isAgg76
  z46 := Try.sizeOf76
  v46 := Try.zeroValue76
  t51 := Try.underlying87
  a51 := Try.isAgg87
  z51 := Try.sizeOf87
  v51 := Try.zeroValue87
  t53 := Try.underlying25
  a53 := Try.isAgg25
  z53 := Try.sizeOf25
  v53 := Try.zeroValue25 }
/-- bits.Len: "Len returns the minimum number of bits required to represent x; the result is 0 for x == 0.": IT RETURNS 'Lib.bitLen x'; the world is as it was. (A uint has 64 bits in the model.) ITS CALLEE bits.Len64 IS MET BY ITS OWN CONTRACT OFF THE SHELF (lay that first). (LAID: no walk: one application.) -/
theorem Try.bits_Len (x : Int) (w : World) (h0 : 0 ≤ x) (h1 : x ≤ 18446744073709551615) :
    Calls Try.prog 56 #[.int .u64 x] w fun e w' => e = .returned (.int .i64 (Lib.bitLen x.toNat)) ∧ w' = w := Any.bits_Len Try.lays125 x w h0 h1
def Try.lays215_ren : Go.Shelf.Ren := ⟨fun | 215 => 69 | n => n, fun | 3 => 3 | 4 => 4 | n => n, fun | n => n⟩
theorem Try.lays215 : Go.Proofs.Lays.n215 Try.prog Try.lays215_ren := {
  mixed := by kernel_rfl
  f215 := Try.func69.trans (congrArg some (by kernel_rfl))
  t3 := Try.underlying3
  a3 := Try.isAgg3
  z3 := Try.sizeOf3
  v3 := Try.zeroValue3
  t4 := Try.underlying4
  a4 := Try.isAgg4
  z4 := Try.sizeOf4
  v4 := Try.zeroValue4 }
open Go.RowKit in
/-- cmp.isNaN at int: 'x != x': false. (LAID: no walk: one application.) -/
theorem Try.cmp_isNaN_int (x : Int) (w : World) :
    Calls Try.prog 69 #[.int .i64 x] w fun e w' => e = .returned (.bool false) ∧ w' = w := Any.cmp_isNaN_int Try.lays215 x w
def Try.lays122_ren : Go.Shelf.Ren := ⟨fun | 122 => 58 | 215 => 69 | n => n, fun | 3 => 3 | 4 => 4 | n => n, fun | n => n⟩
theorem Try.lays122 : Go.Proofs.Lays.n122 Try.prog Try.lays122_ren := {
  mixed := by kernel_rfl
  f122 := Try.func58.trans (congrArg some (by kernel_rfl))
  f215 := Try.func69.trans (congrArg some (by kernel_rfl))
  t3 := Try.underlying3
  a3 := Try.isAgg3
  z3 := Try.sizeOf3
  v3 := Try.zeroValue3
  t4 := Try.underlying4
  a4 := Try.isAgg4
  z4 := Try.sizeOf4
  v4 := Try.zeroValue4 }
open Go.RowKit in
/-- cmp.Compare at int: "Compare returns -1 if x is less than y, 0 if x equals y, +1 if x is greater than y.": IT RETURNS 'Lib.compareInt x y'; the world is as it was. (LAID: no walk: one application.) -/
theorem Try.cmp_Compare_int (x y : Int) (w : World) :
    Calls Try.prog 58 #[.int .i64 x, .int .i64 y] w fun e w' => e = .returned (.int .i64 (Lib.compareInt x y)) ∧ w' = w := Any.cmp_Compare_int Try.lays122 x y w
def Try.lays129_ren : Go.Shelf.Ren := ⟨fun | 129 => 68 | n => n, fun | 53 => 25 | 3 => 3 | 4 => 4 | 46 => 76 | 5 => 5 | 9 => 9 | n => n, fun | n => n⟩
theorem Try.lays129 : Go.Proofs.Lays.n129 Try.prog Try.lays129_ren := {
  mixed := by kernel_rfl
  f129 := Try.func68.trans (congrArg some (by kernel_rfl))
  t3 := Try.underlying3
  a3 := Try.isAgg3
  z3 := Try.sizeOf3
  v3 := Try.zeroValue3
  t4 := Try.underlying4
  a4 := Try.isAgg4
  z4 := Try.sizeOf4
  v4 := Try.zeroValue4
  t5 := Try.underlying5
  a5 := Try.isAgg5
  z5 := Try.sizeOf5
  v5 := Try.zeroValue5
  t9 := Try.underlying9
  a9 := Try.isAgg9
  z9 := Try.sizeOf9
  v9 := Try.zeroValue9
  t46 := Try.underlying76
  a46 := Try.isAgg76
  z46 := Try.sizeOf76
  v46 := Try.zeroValue76
  t53 := Try.underlying25
  a53 := Try.isAgg25
  z53 := Try.sizeOf25
  v53 := Try.zeroValue25 }
/-- bits.Len64: "Len64 returns the minimum number of bits required to represent x; the result is 0 for x == 0.": IT RETURNS 'Lib.bitLen x'; the world is as it was. ('h0', 'h1': x is a uint64.) (LAID: no walk: one application.) -/
theorem Try.bits_Len64 (x : Int) (w : World) (h0 : 0 ≤ x) (h1 : x ≤ 18446744073709551615) :
    Calls Try.prog 68 #[.int .u64 x] w fun e w' => e = .returned (.int .i64 (Lib.bitLen x.toNat)) ∧ w' = w := Any.bits_Len64 Try.lays129 x w h0 h1
def Try.laysNm237_ren : Go.Shelf.Ren := ⟨fun | 37 => 69 | n => n, fun | 3 => 3 | 4 => 4 | n => n, fun | n => n⟩
theorem Try.laysNm237 : Go.Proofs.Lays2.n37 Try.prog Try.laysNm237_ren := {
  mixed := by kernel_rfl
  f37 := Try.func69.trans (congrArg some (by kernel_rfl))
  t3 := Try.underlying3
  a3 := Try.isAgg3
  z3 := Try.sizeOf3
  v3 := Try.zeroValue3
  t4 := Try.underlying4
  a4 := Try.isAgg4
  z4 := Try.sizeOf4
  v4 := Try.zeroValue4 }
open Go.RowKit Go.Lib in
/-- cmp.isNaN[int]: 'x != x': false. (LAID: no walk: one application.) -/
theorem Try.cmp_isNaN_int2 (x : Int) (w : World) :
    Calls Try.prog 69 #[.int .i64 x] w fun e w' => e = .returned (.bool false) ∧ w' = w := Any.cmp_isNaN_int2 Try.laysNm237 x w
end Go.Proofs

namespace Go.Proofs.Ytfdfcceleaodaaa
open Go.RowKit
set_option linter.unusedVariables false
set_option linter.unusedSimpArgs false
set_option maxRecDepth 20000
attribute [local go_sem ↓] Go.wp_at_zero Go.wp_at_succ
attribute [local go_sem] World.cell?_alloc_some frozen_alloc_some
attribute [local go_sem] lt2 lt3 lt4 lt5
attribute [local simp] lt2 lt3 lt4 lt5

theorem wrap_u8 (n : Int) : IntKind.u8.wrap n = n % 256 := by simp [IntKind.wrap, IntKind.bits, IntKind.signed]
theorem info_u8 : (Try.prog.info? 5).map (fun i => (i.zero, i.size, i.bytes)) = some (some (.int .u8 0), 1, 1) := by kernel_rfl

/-- One byte more behind a row of the call's own: the append of the code's 'append(b, x)'. -/
theorem onto_one {w w1 w2 : World} {base : Nat} {b b1 b2 : Value} {l l1 : List Nat} {c : Nat} {o : Obj} (h : Onto w base 5 b l w1 b1 l1) (hc : c < 256)
    (hown : w2.ownsRow base 5 1 b2 (l1.length + 1) (u8s l1 ++ [.int .u8 (c : Int)])) (hg : (w1.alloc o).grownBy w2 b1.ownBlock) (hat : b2.ownBlock = b1.ownBlock ∨ b2.ownBlock = some (w1.alloc o).heap.size)
    (hold : w2.ownsRow base 5 1 b1 l1.length (u8s l1)) : Onto w base 5 b l w2 b2 (l1 ++ [c]) :=
  (h.keep (below_one o)).step (m := [c]) hown (by simpa using hc) hg hat hold

end Go.Proofs.Ytfdfcceleaodaaa

namespace Go.Proofs.Ytfdfcceleaodaaa
open Go.RowKit
set_option linter.unusedVariables false
set_option linter.unusedSimpArgs false
set_option maxRecDepth 20000
attribute [local go_sem ↓] Go.wp_at_zero Go.wp_at_succ
attribute [local go_sem] World.cell?_alloc_some frozen_alloc_some
attribute [local go_sem] lt2 lt3 lt4 lt5
attribute [local simp] lt2 lt3 lt4 lt5

end Go.Proofs.Ytfdfcceleaodaaa
