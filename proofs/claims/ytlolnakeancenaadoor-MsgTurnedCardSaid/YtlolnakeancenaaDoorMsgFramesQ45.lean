/- A frame of which some bits in a row are turned is not opened: plain. -/
import Derived.Test.YtlolnakeancenaaDoorMsgFramesQ41
import Derived.Test.YtlolnakeancenaaDoorMsgFramesQ6
import Derived.Test.YtlolnakeancenaaDoorMsgFramesQ42
namespace Go.Proofs.YtlolnakeancenaaDoor
open Go.RowKit
set_option linter.unusedVariables false
set_option linter.unusedSimpArgs false
set_option maxRecDepth 20000
attribute [local go_sem ↓] Go.wp_at_zero Go.wp_at_succ
attribute [local go_sem] World.cell?_alloc_some frozen_alloc_some

theorem list_getD {a b : List Nat} (h : a.length = b.length) (hg : ∀ i, i < a.length → a.getD i 0 = b.getD i 0) : a = b :=
 List.ext_getElem h fun i h1 h2 => by
  have := hg i h1
  simpa [List.getD, List.getElem?_eq_getElem h1, List.getElem?_eq_getElem h2] using this
theorem getD_dropn (l : List Nat) (a i : Nat) : (l.drop a).getD i 0 = l.getD (a + i) 0 := by simp [List.getD]
theorem getD_taken {l : List Nat} {a i : Nat} (h : i < a) : (l.take a).getD i 0 = l.getD i 0 := by simp [List.getD, h]
theorem crc_turned4 (b y : List Nat) (hb : ∀ x ∈ b, x < 256) (hyb : ∀ x ∈ y, x < 256) (p t : Nat) (hp : p + 4 ≤ b.length) (ht : t < 2 ^ 32) (h0 : t ≠ 0) (hl : y.length = b.length)
  (hy : ∀ q, q < b.length → y.getD q 0 = b.getD q 0 ^^^ (if p ≤ q ∧ q < p + 4 then t / 256 ^ (q - p) % 256 else 0)) : crc y ≠ crc b := by
 have hl1 : (b ++ [0]).length = b.length + 1 := by simp
 have h := crc_turned (b ++ [0]) (fun x hx => by
  rcases List.mem_append.1 hx with h | h
  ·exact hb x h
  ·rw [List.mem_singleton.1 h]; decide) p 0 t (by omega) (by decide) ht h0
 have hdl : (turnd (b ++ [0]).length p (2 ^ 0 * t)).length = (b ++ [0]).length := turnd_length (by omega)
 have hz : zx (b ++ [0]) (turnd (b ++ [0]).length p (2 ^ 0 * t)) = y ++ [0] := by
  refine list_getD (by rw [zx_length _ _ hdl.symm]; simp [hl]) fun i hi => ?_
  rw [zx_length _ _ hdl.symm] at hi
  rw [zx_getD _ _ hdl.symm i hi, turnd_getD (by omega) hi, Nat.pow_zero, Nat.one_mul]
  have h4 : t / 256 ^ 4 % 256 = 0 := by
   have : t / 256 ^ 4 = 0 := Nat.div_eq_of_lt (by omega)
   rw [this]
  by_cases hi2 : i < b.length
  ·rw [getD_app_l hi2, getD_app_l (by omega), hy i hi2]
   congr 1
   by_cases h5 : p ≤ i ∧ i < p + 4
   ·rw [if_pos (by omega), if_pos h5]
   ·rw [if_neg h5]
    by_cases h6 : p ≤ i ∧ i < p + 5
    ·rw [if_pos h6, show i - p = 4 by omega, h4]
    ·rw [if_neg h6]
  ·have hi3 : i = b.length := by omega
   rw [getD_app_r (by omega), getD_app_r (by omega), hi3, hl, Nat.sub_self]
   by_cases h6 : p ≤ b.length ∧ b.length < p + 5
   ·rw [if_pos h6, show b.length - p = 4 by omega, h4]; rfl
   ·rw [if_neg h6]; rfl
 rw [hz] at h
 intro e
 apply h
 have f1 := cfold_lt y hyb (v := crcM) (by decide)
 have f2 := cfold_lt b hb (v := crcM) (by decide)
 unfold crc at e ⊢
 unfold crcM at *
 have e2 : cfold 4294967295 y = cfold 4294967295 b := by omega
 rw [cfold_append, cfold_append, e2]
theorem xor_zero_of {x t : Nat} (h : x ^^^ t = x) : t = 0 := by
 have := congrArg (x ^^^ ·) h
 simpa [← Nat.xor_assoc] using this
theorem sum_turned {s t : Nat} {z : List Nat} (hs : s < 4294967296) (ht : t < 2 ^ 32) (h0 : t ≠ 0) (hz : z.length = 4) (hzz : ∀ q, q < 4 → z.getD q 0 = (be4 s).getD q 0 ^^^ (t / 256 ^ q % 256)) : beval z ≠ s := by
 match z, hz with
 | [a0, a1, a2, a3], _ =>
  have e0 : a0 = (s / 16777216 % 256) ^^^ (t % 256) := by simpa [be4] using hzz 0 (by decide)
  have e1 : a1 = (s / 65536 % 256) ^^^ (t / 256 % 256) := by simpa [be4] using hzz 1 (by decide)
  have e2 : a2 = (s / 256 % 256) ^^^ (t / 65536 % 256) := by simpa [be4] using hzz 2 (by decide)
  have e3 : a3 = (s % 256) ^^^ (t / 16777216 % 256) := by simpa [be4] using hzz 3 (by decide)
  have b0 : a0 < 256 := by rw [e0]; exact Nat.xor_lt_two_pow (n := 8) (by omega) (by omega)
  have b1 : a1 < 256 := by rw [e1]; exact Nat.xor_lt_two_pow (n := 8) (by omega) (by omega)
  have b2 : a2 < 256 := by rw [e2]; exact Nat.xor_lt_two_pow (n := 8) (by omega) (by omega)
  have b3 : a3 < 256 := by rw [e3]; exact Nat.xor_lt_two_pow (n := 8) (by omega) (by omega)
  intro h
  unfold beval at h
  simp only [List.foldl_cons, List.foldl_nil] at h
  have d0 : a0 = s / 16777216 % 256 := by omega
  have d1 : a1 = s / 65536 % 256 := by omega
  have d2 : a2 = s / 256 % 256 := by omega
  have d3 : a3 = s % 256 := by omega
  have t0 := xor_zero_of (e0.symm.trans d0)
  have t1 := xor_zero_of (e1.symm.trans d1)
  have t2 := xor_zero_of (e2.symm.trans d2)
  have t3 := xor_zero_of (e3.symm.trans d3)
  omega
theorem turned_open (P : List Nat) (hP : ∀ x ∈ P, x < 256) (k t : Nat) (y : List Nat) (hyb : ∀ x ∈ y, x < 256) (ht : t < 2 ^ 32) (h0 : t ≠ 0) (hk : k = 1 ∨ 5 ≤ k ∧ k + 4 ≤ 5 + P.length) (hl : y.length = (mframe 2 P).length)
  (hy : ∀ q, q < (mframe 2 P).length → y.getD q 0 = (mframe 2 P).getD q 0 ^^^ (if k ≤ q ∧ q < k + 4 then t / 256 ^ (q - k) % 256 else 0)) : mopen 2 y = (tNone, 5) := by
 have hfl := mframe_len 2 P
 have hy0 : y.headD 0 = 2 := by
  have h := hy 0 (by omega)
  rw [if_neg (by omega), Nat.xor_zero] at h
  have e : y.headD 0 = y.getD 0 0 := by cases y <;> rfl
  rw [e, h]
  rfl
 have hd5 : (mframe 2 P).drop 5 = P := rfl
 have hd1 : ((mframe 2 P).drop 1).take 4 = be4 (crc P) := rfl
 unfold mopen
 rw [if_neg (by omega), hy0, if_neg (by decide), if_neg (by decide), if_pos]
 rcases hk with rfl | ⟨hk1, hk2⟩
 ·have e5 : y.drop 5 = P := by
   rw [← hd5]
   refine list_getD (by simp [hl]) fun i hi => ?_
   rw [List.length_drop] at hi
   rw [getD_dropn, getD_dropn, hy (5 + i) (by omega), if_neg (by omega), Nat.xor_zero]
  rw [e5]
  refine sum_turned (crc_lt P) ht h0 (by simp; omega) fun q hq => ?_
  rw [getD_taken hq, getD_dropn, hy (1 + q) (by omega), if_pos (by omega), show 1 + q - 1 = q by omega, ← hd1, getD_taken hq, getD_dropn]
 ·have e4 : (y.drop 1).take 4 = be4 (crc P) := by
   rw [← hd1]
   refine list_getD (by simp [hl]) fun i hi => ?_
   have hi4 : i < 4 := by
    rw [List.length_take] at hi; omega
   rw [getD_taken hi4, getD_taken hi4, getD_dropn, getD_dropn, hy (1 + i) (by omega), if_neg (by omega), Nat.xor_zero]
  rw [e4, beval_be4 (crc_lt _)]
  refine Ne.symm (crc_turned4 P (y.drop 5) hP (fun x hx => hyb x (List.mem_of_mem_drop hx)) (k - 5) t (by omega) ht h0 (by simp; omega) fun q hq => ?_)
  have hPq : P.getD q 0 = (mframe 2 P).getD (5 + q) 0 := by rw [← getD_dropn, hd5]
  rw [getD_dropn, hy (5 + q) (by omega), hPq]
  congr 1
  by_cases h : k - 5 ≤ q ∧ q < k - 5 + 4
  ·rw [if_pos (by omega), if_pos h, show 5 + q - k = q - (k - 5) by omega]
  ·rw [if_neg (by omega), if_neg h]
/-- A form's bytes are two or more. -/
theorem tform_two (t : Tree) : 2 ≤ (tform t).length := by
 obtain ⟨k, n, s, l⟩ := t
 have hf : ∀ v, 1 ≤ (form v).length := fun v => by
  unfold form
  split
  ·exact Nat.le_refl _
  ·simp
 have h1 := hf n
 have h2 := hf s.size
 have h3 := hf l.length
 unfold tform
 split
 ·simp; omega
 ·split
  ·simp; omega
  ·simp; omega
theorem tforms_two (l : List Tree) : 2 * l.length ≤ (tforms l).length := by
 induction l with
 | nil => exact Nat.le_refl _
 | cons t l ih =>
  have := tform_two t
  simp only [tforms, List.length_append, List.length_cons]
  omega
theorem ltree_len (l : List Tree) : 2 + 2 * l.length ≤ (tform (ltree l)).length := by
 have h := tforms_two l
 have hf : 1 ≤ (form l.length).length := by
  unfold form
  split
  ·exact Nat.le_refl _
  ·simp
 show 2 + 2 * l.length ≤ (tform (.mk 2 0 ByteArray.empty l)).length
 rw [tform, if_neg (by decide), if_neg (by decide), List.length_cons, List.length_append]
 omega
theorem mparts_two {M : MsgT} (h : mok M = true) : 2 ≤ (mparts M).length := by
 have hfl := flags_of (st := M.st) (mok_parts h).1
 unfold mparts mpartsF
 rcases hfl with ⟨h1, -, -, -, -, -⟩ | ⟨h1, -, -, -, -, -⟩ | ⟨h1, -, -, -, -, -⟩ | ⟨h1, -, -, -, -, -⟩ | ⟨h1, -, -, -, -, -⟩ | ⟨h1, -, -, -, -, -⟩ | ⟨-, -, -, -, -, h1⟩
 all_goals
  rw [h1]
  simp
  try omega
/-- A new form that there is. -/
theorem put_long {M : MsgT} (hy : M.cy.size ≤ 60000) (h : putE M = 0) : ∃ P, putL M = mframe 2 P ∧ 6 ≤ P.length ∧ (∀ x ∈ P, x < 256) := by
 unfold putE at h
 split at h
 ·next hm =>
  refine ⟨pform (ltree (mparts M)), ?_, ?_, ?_⟩
  ·unfold putL; rw [if_pos hm, if_pos h]
  ·rw [good_pform h]
   have h1 := ltree_len (mparts M)
   have h2 := mparts_two hm
   omega
  ·rw [good_pform h]
   exact tform_bytes _ (mparts_good hm hy).2
 ·cases h
theorem put_size {M : MsgT} (_hy : M.cy.size ≤ 60000) : (putL M).length ≤ 1000000000 := by
 unfold putL
 split
 ·split
  ·rw [mframe_len]
   have := pform_len (ltree (mparts M))
   omega
  ·exact Nat.zero_le _
 ·exact Nat.zero_le _
end Go.Proofs.YtlolnakeancenaaDoor
