/- The document's rune at a place, against the library's decoder: plain. -/
import Derived.Test.YtmgiholmhhjpaaaDoorRecChecksQ4
import Derived.Lib.DecodeN
namespace Go.Proofs.YtmgiholmhhjpaaaDoor
open Go.RowKit
set_option linter.unusedVariables false
set_option linter.unusedSimpArgs false
set_option maxRecDepth 20000
attribute [local go_sem ↓] Go.wp_at_zero Go.wp_at_succ
attribute [local go_sem] World.cell?_alloc_some frozen_alloc_some

def dN (n b0 b1 b2 b3 : Nat) : Int × Nat :=
  if b0 < 128 then ((b0 : Int), 1)
  else if 194 ≤ b0 ∧ b0 ≤ 223 then (if 1 < n ∧ b1 / 64 = 2 then (((b0 - 192) * 64 + (b1 - 128) : Nat), 2) else (-1, 1))
  else if 224 ≤ b0 ∧ b0 ≤ 239 then
    (if (1 < n ∧ b1 / 64 = 2) ∧ (2 < n ∧ b2 / 64 = 2) then
      (if ((b0 - 224) * 64 + (b1 - 128)) * 64 + (b2 - 128) < 2048 ∨ (55296 ≤ ((b0 - 224) * 64 + (b1 - 128)) * 64 + (b2 - 128) ∧ ((b0 - 224) * 64 + (b1 - 128)) * 64 + (b2 - 128) ≤ 57343) then (-1, 1) else ((((b0 - 224) * 64 + (b1 - 128)) * 64 + (b2 - 128) : Nat), 3))
     else (-1, 1))
  else if 240 ≤ b0 ∧ b0 ≤ 244 then
    (if (1 < n ∧ b1 / 64 = 2) ∧ (2 < n ∧ b2 / 64 = 2) ∧ (3 < n ∧ b3 / 64 = 2) then
      (if (((b0 - 240) * 64 + (b1 - 128)) * 64 + (b2 - 128)) * 64 + (b3 - 128) < 65536 ∨ 1114111 < (((b0 - 240) * 64 + (b1 - 128)) * 64 + (b2 - 128)) * 64 + (b3 - 128) then (-1, 1) else (((((b0 - 240) * 64 + (b1 - 128)) * 64 + (b2 - 128)) * 64 + (b3 - 128) : Nat), 4))
     else (-1, 1))
  else (-1, 1)
def dLone (r : Nat × Nat) : Int × Nat := if r.1 = 65533 ∧ r.2 = 1 then (-1, 1) else ((r.1 : Int), r.2)
theorem dLone_bad : dLone (65533, 1) = (-1, 1) := rfl
theorem dLone_ok (v k : Nat) (h : k ≠ 1) : dLone (v, k) = ((v : Int), k) := by unfold dLone; rw [if_neg (fun e => h e.2)]
theorem dLone_low (v k : Nat) (h : v < 65533) : dLone (v, k) = ((v : Int), k) := by unfold dLone; rw [if_neg (fun e => by have := e.1; simp at this; omega)]
set_option maxHeartbeats 8000000 in
set_option maxRecDepth 100000 in
theorem dN_eq (n b0 b1 b2 b3 : Nat) (h0 : b0 < 256) (h1 : b1 < 256) (h2 : b2 < 256) (h3 : b3 < 256) : dN n b0 b1 b2 b3 = dLone (Lib.decodeN n b0 b1 b2 b3) := by
  unfold dN Lib.decodeN
  repeat' split
  all_goals first
    | rfl
    | (exfalso; omega)
    | (rw [dLone_bad])
    | (rw [dLone_ok _ _ (by decide)]; congr 2; omega)
    | (rw [dLone_ok _ _ (by decide)]; congr 1; omega)
    | (rw [dLone_low _ _ (by omega)])

/-- The byte at a place, as a number. -/
def bt (s : ByteArray) (i : Nat) : Nat := (s.get! i).toNat
theorem bt_lt (s : ByteArray) (i : Nat) : bt s i < 256 := (s.get! i).toNat_lt
/-- The document's rune at a place. -/
def dAt (s : ByteArray) (pos : Nat) : Int × Nat := dN (s.size - pos) (bt s pos) (bt s (pos + 1)) (bt s (pos + 2)) (bt s (pos + 3))
theorem dAt_eq (s : ByteArray) (pos : Nat) : dAt s pos = dLone (Utf8.decode s pos) := by
  unfold dAt
  rw [dN_eq _ _ _ _ _ (bt_lt _ _) (bt_lt _ _) (bt_lt _ _) (bt_lt _ _), Lib.decode_at]
  rfl
/-- What a byte behind the first tells. -/
def dTail (s : ByteArray) (i : Nat) : Int := if i < s.size ∧ bt s i / 64 = 2 then (bt s i : Int) - 128 else -1
set_option maxHeartbeats 2000000 in
theorem tail_any (s : ByteArray) (i : Nat) (w : World) (hs : s.size ≤ maxLen) :
    Calls Tryd.prog 103 #[.string s, .int .i64 (i : Int)] w (fun e w' => e = .returned (.int .i64 (dTail s i)) ∧ w' = w) := by
  obtain ⟨R, hR⟩ : ∃ R, R = dTail s i := ⟨_, rfl⟩
  rw [← hR]
  unfold dTail at hR
  have hlt := bt_lt s i
  by_cases h : i < s.size
  · have i0 : (0 : Int) ≤ (i : Int) := by omega
    have i1 : (i : Int) < (s.size : Int) := by omega
    have i2 : ¬ (s.size : Int) ≤ (i : Int) := by omega
    obtain ⟨x, hx⟩ : ∃ x, s[i]'h = x := ⟨_, rfl⟩
    have hxb : bt s i = x.toNat := by unfold bt; rw [Utf8W.get!_of_lt s i h, hx]
    rw [hxb] at hR hlt
    by_cases c1 : x.toNat < 128
    · have c1' : (x.toNat : Int) < 128 := by omega
      have HR := Lib.hid hR
      clear hR hxb
      go_enter Tryd.func103, Tryd.ntmps103
      go_wp2_with fail
      go_ret
      exact ⟨by rw [HR.out, if_neg (fun e => by have := e.2; omega)]; rfl, rfl⟩
    · have c1' : ¬ (x.toNat : Int) < 128 := by omega
      by_cases c2 : 191 < x.toNat
      · have c2' : (191 : Int) < (x.toNat : Int) := by omega
        have HR := Lib.hid hR
        clear hR hxb
        go_enter Tryd.func103, Tryd.ntmps103
        go_wp2_with fail
        go_ret
        exact ⟨by rw [HR.out, if_neg (fun e => by have := e.2; omega)]; rfl, rfl⟩
      · have c2' : ¬ (191 : Int) < (x.toNat : Int) := by omega
        have c3 : IntKind.i64.wrap (x.toNat : Int) = (x.toNat : Int) := IntWalk.i64_in _ (by omega)
        have c4 : wrap64 (x.toNat : Int) = (x.toNat : Int) := by simp only [wrap64]; omega
        have c5 : IntKind.i64.wrap ((x.toNat : Int) - 128) = (x.toNat : Int) - 128 := IntWalk.i64_in _ (by omega)
        have HR := Lib.hid hR
        clear hR hxb
        go_enter Tryd.func103, Tryd.ntmps103
        go_wp2_with fail
        go_ret
        exact ⟨by rw [HR.out, if_pos ⟨h, by omega⟩]; rfl, rfl⟩
  · have i1 : (s.size : Int) ≤ (i : Int) := by omega
    have HR := Lib.hid hR
    clear hR
    go_enter Tryd.func103, Tryd.ntmps103
    go_wp2_with fail
    go_ret
    exact ⟨by rw [HR.out, if_neg (fun e => h e.1)]; rfl, rfl⟩

/-- A byte goes on with a rune. -/
def cont (s : ByteArray) (i : Nat) : Prop := i < s.size ∧ bt s i / 64 = 2
def av (s : ByteArray) (pos v0 : Nat) : Nat → Nat
  | 0 => v0
  | j + 1 => 64 * av s pos v0 j + (bt s (pos + j + 1) - 128)
theorem av_lt (s : ByteArray) (pos v0 : Nat) (h : v0 < 32) : ∀ j, (∀ t, t < j → cont s (pos + t + 1)) → av s pos v0 j < 32 * 64 ^ j
  | 0, _ => by simpa [av] using h
  | j + 1, hc => by
    have h1 := av_lt s pos v0 h j fun t ht => hc t (by omega)
    have h2 := (hc j (by omega)).2
    have h3 := bt_lt s (pos + j + 1)
    simp only [av]
    rw [Nat.pow_succ]
    omega
theorem dTail_cont {s : ByteArray} {i : Nat} (h : cont s i) : dTail s i = ((bt s i - 128 : Nat) : Int) := by
  unfold dTail
  rw [if_pos (show i < s.size ∧ bt s i / 64 = 2 from h)]
  have := h.2
  omega
theorem dTail_not {s : ByteArray} {i : Nat} (h : ¬ cont s i) : dTail s i = -1 := by unfold dTail; rw [if_neg (show ¬ (i < s.size ∧ bt s i / 64 = 2) from h)]
/-- Is a number that so many further bytes tell none of a rune? -/
def vbad (m v : Nat) : Prop := (m = 2 ∧ (v < 2048 ∨ (55296 ≤ v ∧ v ≤ 57343))) ∨ (m = 3 ∧ (v < 65536 ∨ 1114111 < v))
theorem dAt_multi (s : ByteArray) (pos m base : Nat) (hp : pos < s.size) (hm : (m = 1 ∧ base = 192 ∧ 194 ≤ bt s pos ∧ bt s pos ≤ 223) ∨ (m = 2 ∧ base = 224 ∧ 224 ≤ bt s pos ∧ bt s pos ≤ 239) ∨ (m = 3 ∧ base = 240 ∧ 240 ≤ bt s pos ∧ bt s pos ≤ 244)) :
    (∀ j, j < m → ¬ cont s (pos + j + 1) → dAt s pos = (-1, 1)) ∧ ((∀ j, j < m → cont s (pos + j + 1)) → vbad m (av s pos (bt s pos - base) m) → dAt s pos = (-1, 1)) ∧
    ((∀ j, j < m → cont s (pos + j + 1)) → ¬ vbad m (av s pos (bt s pos - base) m) → dAt s pos = (((av s pos (bt s pos - base) m : Nat) : Int), m + 1)) := by
  have e1 : (1 < s.size - pos ∧ bt s (pos + 1) / 64 = 2) ↔ cont s (pos + 0 + 1) := by unfold cont; constructor <;> (rintro ⟨h1, h2⟩; exact ⟨by omega, h2⟩)
  have e2 : (2 < s.size - pos ∧ bt s (pos + 2) / 64 = 2) ↔ cont s (pos + 1 + 1) := by unfold cont; constructor <;> (rintro ⟨h1, h2⟩; exact ⟨by omega, h2⟩)
  have e3 : (3 < s.size - pos ∧ bt s (pos + 3) / 64 = 2) ↔ cont s (pos + 2 + 1) := by unfold cont; constructor <;> (rintro ⟨h1, h2⟩; exact ⟨by omega, h2⟩)
  rcases hm with ⟨rfl, rfl, l1, l2⟩ | ⟨rfl, rfl, l1, l2⟩ | ⟨rfl, rfl, l1, l2⟩
  · refine ⟨fun j hj hn => ?_, fun hc hb => ?_, fun hc hb => ?_⟩
    · obtain rfl : j = 0 := by omega
      unfold dAt dN
      rw [if_neg (by omega), if_pos ⟨l1, l2⟩, if_neg (fun h => hn (e1.1 h))]
    · unfold vbad at hb; omega
    · unfold dAt dN
      rw [if_neg (by omega), if_pos ⟨l1, l2⟩, if_pos (e1.2 (hc 0 (by omega)))]
      simp only [av, Nat.add_zero]
      congr 2; omega
  · refine ⟨fun j hj hn => ?_, fun hc hb => ?_, fun hc hb => ?_⟩
    · unfold dAt dN
      rw [if_neg (by omega), if_neg (by omega), if_pos ⟨l1, l2⟩, if_neg (fun h => ?_)]
      have hj2 : j = 0 ∨ j = 1 := by omega
      rcases hj2 with rfl | rfl
      · exact hn (e1.1 h.1)
      · exact hn (e2.1 h.2)
    · unfold dAt dN
      rw [if_neg (by omega), if_neg (by omega), if_pos ⟨l1, l2⟩, if_pos ⟨e1.2 (hc 0 (by omega)), e2.2 (hc 1 (by omega))⟩, if_pos]
      simp only [vbad, av, Nat.add_zero, Nat.add_assoc, Nat.reduceAdd] at hb
      omega
    · have hb2 : ¬ (av s pos (bt s pos - 224) 2 < 2048 ∨ (55296 ≤ av s pos (bt s pos - 224) 2 ∧ av s pos (bt s pos - 224) 2 ≤ 57343)) := fun h => hb (.inl ⟨rfl, h⟩)
      clear hb
      unfold dAt dN
      simp only [av, Nat.add_zero, Nat.add_assoc, Nat.reduceAdd] at hb2 ⊢
      rw [if_neg (by omega), if_neg (by omega), if_pos ⟨l1, l2⟩, if_pos ⟨e1.2 (hc 0 (by omega)), e2.2 (hc 1 (by omega))⟩, if_neg (by omega)]
      congr 2; omega
  · refine ⟨fun j hj hn => ?_, fun hc hb => ?_, fun hc hb => ?_⟩
    · unfold dAt dN
      rw [if_neg (by omega), if_neg (by omega), if_neg (by omega), if_pos ⟨l1, l2⟩, if_neg (fun h => ?_)]
      have hj2 : j = 0 ∨ j = 1 ∨ j = 2 := by omega
      rcases hj2 with rfl | rfl | rfl
      · exact hn (e1.1 h.1)
      · exact hn (e2.1 h.2.1)
      · exact hn (e3.1 h.2.2)
    · unfold dAt dN
      rw [if_neg (by omega), if_neg (by omega), if_neg (by omega), if_pos ⟨l1, l2⟩, if_pos ⟨e1.2 (hc 0 (by omega)), e2.2 (hc 1 (by omega)), e3.2 (hc 2 (by omega))⟩, if_pos]
      simp only [vbad, av, Nat.add_zero, Nat.add_assoc, Nat.reduceAdd] at hb
      omega
    · have hb2 : ¬ (av s pos (bt s pos - 240) 3 < 65536 ∨ 1114111 < av s pos (bt s pos - 240) 3) := fun h => hb (.inr ⟨rfl, h⟩)
      clear hb
      unfold dAt dN
      simp only [av, Nat.add_zero, Nat.add_assoc, Nat.reduceAdd] at hb2 ⊢
      rw [if_neg (by omega), if_neg (by omega), if_neg (by omega), if_pos ⟨l1, l2⟩, if_pos ⟨e1.2 (hc 0 (by omega)), e2.2 (hc 1 (by omega)), e3.2 (hc 2 (by omega))⟩, if_neg (by omega)]
      congr 2; omega
theorem dAt_low {s : ByteArray} {pos : Nat} (h : bt s pos < 128) : dAt s pos = ((bt s pos : Int), 1) := by unfold dAt dN; rw [if_pos h]
theorem dAt_none {s : ByteArray} {pos : Nat} (h0 : ¬ bt s pos < 128) (h : ¬ (194 ≤ bt s pos ∧ bt s pos ≤ 223)) (h2 : ¬ (224 ≤ bt s pos ∧ bt s pos ≤ 239)) (h3 : ¬ (240 ≤ bt s pos ∧ bt s pos ≤ 244)) : dAt s pos = (-1, 1) := by
  unfold dAt dN; rw [if_neg h0, if_neg h, if_neg h2, if_neg h3]
end Go.Proofs.YtmgiholmhhjpaaaDoor
