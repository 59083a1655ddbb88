/- The walks of num.Take and of the document's numbers (package stonecropref01: Same, digits, Put, Take). The walks of the document's numbers (package stonecropref01: digits, Put, Take), and of the example of package stonecroplaw01. Trees: two that are right have one form just if they are the same; the document's measure. Plain: no program in sight. The walks of package stonecropref03 on items: Size. The append of a text to bytes of the call's own: where the new row lies, and what became of the old one. A call that only lays blocks and draws: in the sort's own words. A row of ids of the call's own, cell by cell. A region that draws its order: three or four may come up. What is read of bytes as a tree. Plain: no program in sight. What is read as a tree: where it ends, that it is right, and that it has the form of the bytes it was read of. Plain: no program in sight. Plain law of the sums of package crc: the register as a number, its step, that it is linear, and that what isn't nothing stays so. No program in sight. An item that came in: the tree that it is, and its size against the bulk of what was read. The walk of Pick (stonecropref01). -/
import Derived.Test.YtlolnakeancenaaDoorMsgFramesQ0
import Derived.Lib.AppendStr
import Derived.Sort.Grow
import Derived.Deep.Draws
import Derived.WalkKit
import Derived.WalkSpells
import Derived.WalkLawsBesides
import Derived.Deep.RegionHeld3
import Derived.Deep.DrawnRows
import Derived.Deep.DeepCutAuto
import Derived.Deep.DeepFit
import Derived.Lib.Hide
import Derived.BigQuiet
import Derived.Deep.QuietTactic
import Derived.Test.YtlolnakeancenaaDoorRows
namespace Go.Proofs.YtlolnakeancenaaDoor
open Go.RowKit
set_option linter.unusedVariables false
set_option linter.unusedSimpArgs false
set_option maxRecDepth 20000
attribute [local go_sem ↓] Go.wp_at_zero Go.wp_at_succ
attribute [local go_sem] World.cell?_alloc_some frozen_alloc_some
attribute [local go_sem] lt2 lt3 lt4 lt5
attribute [local simp] lt2 lt3 lt4 lt5

def takeV (l : List Nat) : Value := .tuple #[.int .u64 ((ntake l).1 : Int), .int .i64 ((ntake l).2.1 : Int), .int .i64 ((ntake l).2.2 : Int)]
theorem pow7 {k : Nat} (h : k ≤ 7) : 256 ^ k ≤ 72057594037927936 := by
 have : 256 ^ k ≤ 256 ^ 7 := Nat.pow_le_pow_right (by decide) h
 omega

set_option maxHeartbeats 2000000 in
theorem take_any (A : Option Addr) (n cap : Nat) (l : List Nat) (w : World) (hb : Bytes w A n l) :
  Calls Tryd.prog 98 #[.slice A n cap] w (Gives w (takeV l)) := by
 have hln := hb.1
 have hm := hb.2.1
 unfold maxLen at hm
 cases l with
 | nil =>
  have hn0 : n = 0 := by simpa using hln
  subst hn0
  have hv : takeV [] = .tuple #[.int .u64 0, .int .i64 0, .int .i64 2] := rfl
  rw [hv]
  clear hv hln
  go_enter Tryd.func98, Tryd.ntmps98
  go_wp2_with fail
  go_ret3
  exact ⟨rfl, Below.refl _ _⟩
 | cons b0 r =>
  have hn1 : 0 < n := by simp at hln; omega
  obtain ⟨ad, c0, rfl, hc0, hc2, hcell⟩ := hb.at_ hn1
  have hcb : c0 = b0 := by simpa using hc0.symm
  subst hcb
  have hcell0 : w.cell? ad = some (.int .u8 (c0 : Int)) := by simpa [Addr.add] using hcell
  clear hcell
  have hnz : ((n : Int) == 0) = false := by simp; omega
  have hi0 : (0 : Int) < (n : Int) := by omega
  by_cases h248 : c0 < 248
  ·have hv : takeV (c0 :: r) = .tuple #[.int .u64 (c0 : Int), .int .i64 1, .int .i64 0] := by simp [takeV, ntake, h248]
   rw [hv]
   clear hv hln hc0
   go_enter Tryd.func98, Tryd.ntmps98
   go_wp2_with fail
   go_ret3
   exact ⟨rfl, Below.refl _ _⟩
  ·by_cases hsh : r.length < c0 - 247
   ·have hv : takeV (c0 :: r) = .tuple #[.int .u64 0, .int .i64 0, .int .i64 2] := by simp [takeV, ntake, h248, hsh]
    rw [hv]
    have hle : (n : Int) ≤ (c0 : Int) - 247 := by simp at hln; omega
    clear hv hln hc0
    go_enter Tryd.func98, Tryd.ntmps98
    go_wp2_with fail
    all_goals go_ret3
    all_goals exact ⟨rfl, Below.refl _ _⟩
   ·obtain ⟨m, hm1⟩ : ∃ m, c0 = m + 247 := ⟨c0 - 247, by omega⟩
    subst hm1
    have hm8 : m ≤ 8 := by omega
    have hm0 : 1 ≤ m := by omega
    have hml : m < n := by simp at hln; omega
    have hrl : m ≤ r.length := by omega
    have hbr : ∀ c ∈ r, c < 256 := fun c hc => hb.lt c (by simp [hc])
    have hsz : ∀ W, Calls Tryd.prog 107 #[.int .u64 ((beval (r.take m) : Nat) : Int)] W (Gives W (.int .i64 ((size (beval (r.take m)) : Nat) : Int))) := fun W => size_any _ W (by
     have h1 := beval_lt (r.take m) (fun c hc => hbr c (List.mem_of_mem_take hc))
     have h2 : (r.take m).length ≤ 8 := by rw [List.length_take]; omega
     have h3 : 256 ^ (r.take m).length ≤ 256 ^ 8 := Nat.pow_le_pow_right (by decide) h2
     have h4 : 256 ^ 8 = 2 ^ 64 := by decide
     omega)
    have hv : takeV ((m + 247) :: r) = if size (beval (r.take m)) = 1 + m then .tuple #[.int .u64 ((beval (r.take m) : Nat) : Int), .int .i64 ((1 + m : Nat) : Int), .int .i64 0] else .tuple #[.int .u64 0, .int .i64 0, .int .i64 4] := by
     simp only [takeV, ntake, if_neg h248, Nat.add_sub_cancel]
     rw [if_neg (by omega)]
     split <;> rfl
    have Hv := Lib.hid hv
    have Hsz := Lib.hid hsz
    clear hv hln hc0 hsz
    have hm5 : (m : Int) + 247 - 248 + 1 = m := by omega
    go_enter Tryd.func98, Tryd.ntmps98
    go_wp2_with fail
    go_loop [2, 29] (fun s2 s29 => ∃ k : Nat, k ≤ m ∧ s29 = .int .i64 k ∧ s2 = .int .u64 ((beval (r.take k) : Nat) : Int)) (fun _ s29 => m - (intOf s29).toNat)
    case atStart => exact ⟨0, by omega, rfl, by simp [beval]⟩
    case round =>
     obtain ⟨k, hk, rfl, rfl⟩ := hrel
     by_cases hlt : k < m
     ·obtain ⟨ad', c1, e1, hc1, hc3, hcell1⟩ := hb.at_ (show 1 + k < n by omega)
      cases e1
      have hx := beval_lt (r.take k) (fun c hc => hbr c (List.mem_of_mem_take hc))
      have hx2 : beval (r.take k) < 72057594037927936 := by
       have h1 : (r.take k).length = k := by rw [List.length_take]; omega
       rw [h1] at hx
       have := pow7 (k := k) (by omega)
       omega
      have hrk : r[k]? = some c1 := by
       rw [show 1 + k = k + 1 by omega] at hc1
       simpa using hc1
      have hnx : beval (r.take (k + 1)) = beval (r.take k) * 256 + c1 := by
       rw [List.take_add_one, hrk]
       exact beval_snoc _ _
      have Hnx := Lib.hid hnx
      clear hnx hx hrk hc1
      generalize beval (r.take k) = x at *
      go_wp2_with fail
      go_round
      case rel =>
       refine ⟨k + 1, by omega, by go_num, ?_⟩
       rw [Hnx.out]
       have ho := u64_or_nat (x * 256) c1 (by omega) (by omega)
       rw [nat_join 8 (x * 256) c1 (by omega) (by omega)] at ho
       rw [← ho]
       congr 2
      case measure => simp [intOf]; omega
     ·have hkm : k = m := by omega
      have hbk : beval (r.take k) = beval (r.take m) := by rw [hkm]
      rw [hbk]
      have hs2 := Hsz.out
      clear hbk hkm
      by_cases hsz : size (beval (r.take m)) = 1 + m
      ·have Hv2 := Hv.out
       rw [if_pos hsz] at Hv2
       rw [hsz] at hs2
       have hne : (((1 + m : Nat) : Int) != 1 + (m : Int)) = false := by simp
       have Hsz2 := Lib.hid hsz
       have Hv3 := Lib.hid Hv2
       clear hsz Hv Hv2
       generalize beval (r.take m) = x at *
       go_wp2_with (go_at_call 107; (with_reducible refine (hs2 _).mono ?_); rintro e w1 ⟨rfl, hbw1⟩)
       all_goals go_ret3
       all_goals exact ⟨by rw [Hv3.out]; simp, blw⟩
      ·have Hv2 := Hv.out
       rw [if_neg hsz] at Hv2
       have Hv3 := Lib.hid Hv2
       have hne : (((size (beval (r.take m)) : Nat) : Int) != 1 + (m : Int)) = true := by rw [bne_iff_ne]; omega
       clear hsz Hv Hv2
       generalize size (beval (r.take m)) = s at *
       generalize beval (r.take m) = x at *
       go_wp2_with (go_at_call 107; (with_reducible refine (hs2 _).mono ?_); rintro e w1 ⟨rfl, hbw1⟩)
       all_goals go_ret3
       all_goals exact ⟨by rw [Hv3.out]; simp, blw⟩

end Go.Proofs.YtlolnakeancenaaDoor

namespace Go.Proofs.YtlolnakeancenaaDoor
open Go.RowKit
set_option linter.unusedVariables false
set_option linter.unusedSimpArgs false
set_option maxRecDepth 20000
attribute [local go_sem ↓] Go.wp_at_zero Go.wp_at_succ
attribute [local go_sem] World.cell?_alloc_some frozen_alloc_some
attribute [local go_sem] lt2 lt3 lt4 lt5
attribute [local simp] lt2 lt3 lt4 lt5

/-- A literal row of bytes is of the call's own. -/
theorem OwnB.lit {w : World} {base : Nat} {e : TypeId} {l : List Nat} (hb : base ≤ w.heap.size) (hm : l.length ≤ maxLen) (hl : ∀ c ∈ l, c < 256) :
    OwnB (w.alloc (.cells (u8s l).toArray e)) base e (.slice (some ⟨w.heap.size, 0, none⟩) l.length l.length) l :=
  ⟨by simpa using World.ownsRow_lit (base := base) (e := e) (size := 1) w (u8s l).toArray l.length hb hm (by simp [u8s_length]), hl⟩

set_option maxHeartbeats 2000000 in
theorem digits_any (v : Nat) : ∀ (w : World), v < 2 ^ 64 → Calls Tryd.prog 74 #[.int .u64 (v : Int)] w (Makes w 5 (be v)) := by
  induction v using Nat.strongRecOn with
  | _ v ih =>
    intro w hv
    obtain ⟨i0, hi, hz0, hz1, hz2⟩ := info_parts info_u8
    by_cases h : v < 256
    · have hf := be_lt h
      rw [hf]
      have hc : IntKind.u8.wrap (v : Int) = (v : Int) := by rw [wrap_u8]; omega
      have Ih := Lib.hid ih
      clear ih
      go_enter Tryd.func74, Tryd.ntmps74
      go_wp2_with fail
      go_ret
      exact ⟨_, rfl, OwnB.lit (l := [v]) (Nat.le_refl _) (by simp [maxLen]) (by simpa using h), below_one _⟩
    · have hf := be_ge (show 256 ≤ v by omega)
      have hr : ∀ W, Calls Tryd.prog 74 #[.int .u64 ((v / 256 : Nat) : Int)] W (Makes W 5 (be (v / 256))) := fun W => ih (v / 256) (by omega) W (by omega)
      have hlen : (be (v / 256)).length ≤ 8 := by rw [be_length]; exact wid_bound (by omega)
      obtain ⟨q, hq⟩ : ∃ q, q = v / 256 := ⟨_, rfl⟩
      obtain ⟨d, hd⟩ : ∃ d, d = v % 256 := ⟨_, rfl⟩
      have hq1 : (v : Int) / 256 = (q : Int) := by omega
      have hd1 : (v : Int) % 256 = (d : Int) := by omega
      have hd2 : d < 256 := by omega
      rw [← hq] at hr hlen
      have hf2 : be v = be q ++ [d] := by rw [hf, hq, hd]
      have Hf := Lib.hid hf2
      clear ih hf hf2 hq hd
      generalize be q = l at *
      have hsrc : ∀ W : World, Src (W.alloc (.cells #[.int .u8 (d : Int)] 5)) 1 (some ⟨W.heap.size, 0, none⟩) 1 [.int .u8 (d : Int)] := fun W => src_one rfl
      go_enter Tryd.func74, Tryd.ntmps74
      go_wp2_with (first
        | (go_at_call 74; (with_reducible refine (hr _).mono ?_); rintro e w1 ⟨b, rfl, hown, hbw1⟩; have hzw1 := hbw1.size; have hon := Onto.refl hown; have hown1 := (hown.keep (below_one (.cells #[.int .u8 (d : Int)] 5))).1)
        | (at_builtin; go_loud (refine wpList_app _ rfl (.tmp 10) (.tmp 14) 28 rfl _ 5 i0 _ 1 1 Tryd.underlying28 hi hz0 hz1 hz2 rfl (by omega) _ _ _ rfl hown1 _ _ _ _ rfl (hsrc _) ?h63 ?hby ?hbase ?_); (case h63 => (unfold maxLen; first | omega | (simp; done) | (simp; omega))); (case hby => first | omega | (simp; done) | (simp; omega)); (case hbase => first | omega | (simp; done) | (simp; omega)); intro v2 w2 hownw2 hgroww2 hatw2 holdw2))
      go_ret
      have hon2 := onto_one hon hd2 hownw2 hgroww2 hatw2 holdw2
      exact ⟨_, rfl, by rw [Hf.out]; exact hon2.own, hon2.below hbw1 (Nat.le_refl _) hzw1 hown⟩

set_option maxHeartbeats 2000000 in
theorem refput_any (v : Nat) (w : World) (hv : v < 2 ^ 64) : Calls Tryd.prog 49 #[.int .u64 (v : Int)] w (Makes w 5 (form v)) := by
  obtain ⟨i0, hi, hz0, hz1, hz2⟩ := info_parts info_u8
  by_cases h : v < 248
  · have hf : form v = [v] := by unfold form; rw [if_pos h]
    rw [hf]
    have hc : IntKind.u8.wrap (v : Int) = (v : Int) := by rw [wrap_u8]; omega
    go_enter Tryd.func49, Tryd.ntmps49
    go_wp2_with fail
    go_ret
    exact ⟨_, rfl, OwnB.lit (l := [v]) (Nat.le_refl _) (by simp [maxLen]) (by simp; omega), below_one _⟩
  · have hf : form v = (247 + wid v) :: be v := by unfold form; rw [if_neg h]
    have hw8 := wid_bound hv
    have hr : ∀ W, Calls Tryd.prog 74 #[.int .u64 (v : Int)] W (Makes W 5 (be v)) := fun W => digits_any v W hv
    have hlen := be_length v
    have Hf := Lib.hid hf
    have hby := be_bytes v
    have Hlen := Lib.hid hlen
    clear hf hlen
    generalize wid v = n at *
    generalize be v = l at *
    have hll : l.length ≤ 8 := by have := Hlen.out; omega
    have hc : (247 : Int) + (l.length : Int) = ((247 + n : Nat) : Int) := by have := Hlen.out; omega
    have hc2 : IntKind.u8.wrap ((247 + n : Nat) : Int) = ((247 + n : Nat) : Int) := by rw [wrap_u8]; omega
    have hn256 : 247 + n < 256 := by omega
    go_enter Tryd.func49, Tryd.ntmps49
    go_wp2_with (first
      | (go_at_call 74; (with_reducible refine (hr _).mono ?_); rintro e w1 ⟨b, rfl, hown, hbw1⟩; have hzw1 := hbw1.size; obtain ⟨A, c, rfl, _, _⟩ := hown.form
         have hown0 := (OwnB.lit (w := w1) (base := w.heap.size) (e := 5) (l := [247 + n]) hzw1 (by simp [maxLen]) (by simpa using hn256)).1
         have hsrc := Src.of_bytes ((hown.keep (below_one (w := w1) (.cells #[.int .u8 ((247 + n : Nat) : Int)] 5))).bytes.2.2))
      | (at_builtin; go_loud (refine wpList_app _ rfl (.tmp 15) (.tmp 16) 28 rfl _ 5 i0 _ 1 1 Tryd.underlying28 hi hz0 hz1 hz2 rfl (by omega) _ _ _ rfl hown0 _ _ _ _ rfl hsrc ?h63 ?hby ?hbase ?_); (case h63 => (unfold maxLen; first | omega | (simp; done) | (simp; omega))); (case hby => first | omega | (simp; done) | (simp; omega)); (case hbase => first | omega | (simp; done) | (simp; omega)); intro v2 w2 hownw2 hgroww2 hatw2 holdw2))
    go_ret
    have hb2 : Below w.heap.size w w2 := below_app (hbw1.alloc hzw1 _) hown0 hgroww2 (Nat.le_refl _) (by simp; omega)
    refine ⟨_, rfl, ⟨?_, ?_⟩, hb2⟩
    · rw [Hf.out]
      have := hownw2
      simp only [List.length_cons, List.length_nil] at this ⊢
      rw [Nat.zero_add, Nat.add_comm 1] at this
      exact this
    · rw [Hf.out]
      intro c hc
      rcases List.mem_cons.1 hc with rfl | hc
      · exact hn256
      · exact hby c hc

theorem wrap_u64 (n : Int) : IntKind.u64.wrap n = n % 18446744073709551616 := by simp [IntKind.wrap, IntKind.bits, IntKind.signed]
end Go.Proofs.YtlolnakeancenaaDoor

namespace Go.Proofs.YtlolnakeancenaaDoor
set_option linter.unusedVariables false

/-- Numbers below 2^64, texts and lists that are not too long. -/
inductive Fit : Tree → Prop where
 | mk (k : Int) (n : Nat) (s : ByteArray) (l : List Tree) (hn : n < 2 ^ 64) (hs : s.size < 2 ^ 64) (hl : l.length < 2 ^ 64) (h : ∀ t ∈ l, Fit t) : Fit (.mk k n s l)
theorem Fit.out {k : Int} {n : Nat} {s : ByteArray} {l : List Tree} (h : Fit (.mk k n s l)) : n < 2 ^ 64 ∧ s.size < 2 ^ 64 ∧ l.length < 2 ^ 64 ∧ ∀ t ∈ l, Fit t := by
 cases h with
 | mk _ _ _ _ a b c d => exact ⟨a, b, c, d⟩

theorem empty_of_size {s : ByteArray} (h : s.size = 0) : s = ByteArray.empty := by
 obtain ⟨⟨l⟩⟩ := s
 have : l = [] := List.eq_nil_of_length_eq_zero h
 subst this
 rfl
theorem bad_parts {k : Int} {n : Nat} {s : ByteArray} {l : List Tree} (h : bad k n s l = false) :
  (k = 0 ∧ s = ByteArray.empty ∧ l = []) ∨ (k = 1 ∧ n = 0 ∧ l = []) ∨ (k = 2 ∧ n = 0 ∧ s = ByteArray.empty) := by
 simp only [bad, decide_eq_false_iff_not] at h
 have hk : k = 0 ∨ k = 1 ∨ k = 2 := Classical.byContradiction fun hh => h (.inl hh)
 have hn : k ≠ 0 → n = 0 := fun h1 => Classical.byContradiction fun hh => h (.inr (.inl ⟨h1, hh⟩))
 have hs : k ≠ 1 → s = ByteArray.empty := fun h1 => empty_of_size (Classical.byContradiction fun hh => h (.inr (.inr (.inl ⟨h1, hh⟩))))
 have hl : k ≠ 2 → l = [] := fun h1 => List.eq_nil_of_length_eq_zero (Classical.byContradiction fun hh => h (.inr (.inr (.inr ⟨h1, by omega⟩))))
 rcases hk with rfl | rfl | rfl
 ·exact .inl ⟨rfl, hs (by decide), hl (by decide)⟩
 ·exact .inr (.inl ⟨rfl, hn (by decide), hl (by decide)⟩)
 ·exact .inr (.inr ⟨rfl, hn (by decide), hs (by decide)⟩)
theorem txt_inj {s t : ByteArray} (h : txt s = txt t) : s = t := by
 obtain ⟨⟨a⟩⟩ := s
 obtain ⟨⟨b⟩⟩ := t
 have hab : a = b := by
  have h' : a.map UInt8.toNat = b.map UInt8.toNat := h
  exact List.map_inj_right (fun x y hxy => UInt8.toNat_inj.1 hxy) |>.1 h'
 rw [hab]
theorem tform_bytes (t : Tree) : Fit t → ∀ c ∈ tform t, c < 256 := by
 refine Tree.ind (P := fun t => Fit t → ∀ c ∈ tform t, c < 256) ?_ t
 intro k n s l ih hf
 obtain ⟨hn, hs, hl, hsub⟩ := hf.out
 have key : ∀ a : List Tree, (∀ t ∈ a, t ∈ l) → ∀ c ∈ tforms a, c < 256 := by
  intro a
  induction a with
  | nil => intro _ c hc; simp [tforms] at hc
  | cons t a iha =>
   intro hm c hc
   simp only [tforms] at hc
   rcases List.mem_append.1 hc with hc | hc
   ·exact ih t (hm t (by simp)) (hsub t (hm t (by simp))) c hc
   ·exact iha (fun v hv => hm v (by simp [hv])) c hc
 intro c hc
 simp only [tform] at hc
 split at hc
 ·rcases List.mem_cons.1 hc with rfl | hc
  ·omega
  ·exact form_bytes hn c hc
 ·split at hc
  ·rcases List.mem_cons.1 hc with rfl | hc
   ·omega
   ·rcases List.mem_append.1 hc with hc | hc
    ·exact form_bytes hs c hc
    ·exact txt_lt s c hc
  ·rcases List.mem_cons.1 hc with rfl | hc
   ·omega
   ·rcases List.mem_append.1 hc with hc | hc
    ·exact form_bytes hl c hc
    ·exact key l (fun t h => h) c hc
/-- A form is at most ten times as long as the tree is great. -/
theorem tform_len (t : Tree) : Fit t → (tform t).length ≤ 10 * tsize t := by
 refine Tree.ind (P := fun t => Fit t → (tform t).length ≤ 10 * tsize t) ?_ t
 intro k n s l ih hf
 obtain ⟨hn, hs, hl, hsub⟩ := hf.out
 have key : ∀ a : List Tree, (∀ t ∈ a, t ∈ l) → (tforms a).length ≤ 10 * tsizes a := by
  intro a
  induction a with
  | nil => intro _; simp [tforms]
  | cons t a iha =>
   intro hm
   simp only [tforms, tsizes, List.length_append]
   have h1 := ih t (hm t (by simp)) (hsub t (hm t (by simp)))
   have h2 := iha (fun v hv => hm v (by simp [hv]))
   omega
 have h1 := key l (fun t h => h)
 have h2 := form_len hn
 have h3 := form_len hs
 have h4 := form_len hl
 simp only [tform, tsize]
 split
 ·simp only [List.length_cons]; omega
 ·split
  ·simp only [List.length_cons, List.length_append, txt_length]; omega
  ·simp only [List.length_cons, List.length_append]; omega

theorem csizes_append (most d : Nat) (a b : List Tree) : ∀ acc, csizes most d acc (a ++ b) = csizes most d (csizes most d acc a) b := by
 induction a with
 | nil => intro acc; simp [csizes]
 | cons t a ih =>
  intro acc
  simp only [List.cons_append, csizes]
  split
  ·exact ih _
  ·rename_i h
   cases b with
   | nil => simp [csizes]
   | cons u b => simp [csizes, h]
theorem csizes_stop {most d acc : Nat} (h : most < acc) (b : List Tree) : csizes most d acc b = acc := by
 cases b with
 | nil => simp [csizes]
 | cons u b => simp only [csizes]; rw [if_neg (by omega)]
theorem csizes_take {most d acc k : Nat} {l : List Tree} {t : Tree} (hk : l[k]? = some t) (h : csizes most d acc (l.take k) ≤ most) :
  csizes most d acc (l.take (k + 1)) = csizes most d acc (l.take k) + csize most d t := by
 rw [List.take_add_one, hk, csizes_append]
 simp [csizes, h]
theorem csizes_done {most d acc k : Nat} {l : List Tree} (h : most < csizes most d acc (l.take k)) : csizes most d acc l = csizes most d acc (l.take k) := by
 conv => lhs; rw [← List.take_append_drop k l, csizes_append]
 exact csizes_stop h _
theorem csize_le (most : Nat) : ∀ (d : Nat) (t : Tree), csize most d t ≤ (most + 2) * tsize t := by
 intro d
 induction d with
 | zero =>
  intro t
  obtain ⟨k, n, s, l⟩ := t
  simp only [csize, tsize]
  have : (most + 2) * 1 ≤ (most + 2) * (1 + s.size + tsizes l) := Nat.mul_le_mul_left _ (by omega)
  omega
 | succ d ih =>
  intro t
  obtain ⟨k, n, s, l⟩ := t
  simp only [csize, tsize]
  have key : ∀ (a : List Tree) (acc : Nat), csizes most d acc a ≤ acc + (most + 2) * tsizes a := by
   intro a
   induction a with
   | nil => intro acc; simp [csizes]
   | cons t a iha =>
    intro acc
    simp only [csizes, tsizes]
    have h1 := ih t
    rw [Nat.mul_add]
    split
    ·have h2 := iha (acc + csize most d t)
     omega
    ·omega
  have h3 := key l (1 + s.size)
  have h4 : 1 * (1 + s.size) ≤ (most + 2) * (1 + s.size) := Nat.mul_le_mul_right _ (by omega)
  rw [Nat.mul_add]
  omega
theorem csizes_le (most d : Nat) (a : List Tree) : ∀ acc, csizes most d acc a ≤ acc + (most + 2) * tsizes a := by
 induction a with
 | nil => intro acc; simp [csizes]
 | cons t a iha =>
  intro acc
  simp only [csizes, tsizes]
  have h1 := csize_le most d t
  rw [Nat.mul_add]
  split
  ·have h2 := iha (acc + csize most d t)
   omega
  ·omega
end Go.Proofs.YtlolnakeancenaaDoor

namespace Go.Proofs.YtlolnakeancenaaDoor
open Go.RowKit
set_option linter.unusedVariables false
set_option linter.unusedSimpArgs false
set_option maxRecDepth 20000
attribute [local go_sem ↓] Go.wp_at_zero Go.wp_at_succ
attribute [local go_sem] World.cell?_alloc_some frozen_alloc_some
attribute [local go_sem] lt2 lt3 lt4 lt5
attribute [local simp] lt2 lt3 lt4 lt5

set_option maxHeartbeats 2000000 in
theorem refsize_any (most : Nat) (hmost : most ≤ 1000000) (d : Nat) : ∀ (t : Tree) (v : Value) (w : World), Holds w t v → tsize t ≤ 1048576 → d ≤ 1000 →
  Calls Tryd.prog 8 #[v, .int .i64 (most : Int), .int .i64 (d : Int)] w (Gives w (.int .i64 (csize most d t : Int))) := by
 induction d with
 | zero =>
  intro t v w ht hz hd
  obtain ⟨k, n, s, l⟩ := t
  obtain ⟨A, m, c, rfl, _⟩ := ht.open_
  have hcs : csize most 0 (.mk k n s l) = most + 1 := by simp [csize]
  rw [hcs]
  clear hcs
  go_enter Tryd.func8, Tryd.ntmps8
  go_wp2_with fail
  go_ret
  exact ⟨ret_int (by omega), blw⟩
 | succ d ih =>
  intro t v w ht hz hd
  obtain ⟨k, n, s, l⟩ := t
  obtain ⟨A, m, c, rfl, hk, hn, hs, hm, hmc, hc, hel⟩ := ht.open_
  simp only [tsize] at hz
  have hcs : csize most (d + 1) (.mk k n s l) = csizes most d (1 + s.size) l := by simp [csize]
  rw [hcs]
  have Hm := Lib.hid hm
  have Ih := Lib.hid ih
  have Ht := Lib.hid ht
  clear hcs hm ih ht hel
  have hss : s.size ≤ 1048576 := by omega
  have hml : m ≤ 1048576 := by have := tsizes_len l; have := Hm.out; omega
  obtain ⟨D, hD⟩ : ∃ D, D = d + 1 := ⟨_, rfl⟩
  have hD1 : (D : Int) - 1 = (d : Int) := by omega
  have hD0 : ((D : Int) == 0) = false := by simp; omega
  rw [← hD]
  rw [← hD] at hd
  have hd1 : d ≤ 1000 := by omega
  clear hD
  go_enter Tryd.func8, Tryd.ntmps8
  go_wp2_with fail
  go_loopw [7, 8] (fun s7 s8 wr => ∃ k : Nat, k ≤ m ∧ s8 = .int .i64 k ∧ s7 = .int .i64 ((csizes most d (1 + s.size) (l.take k) : Nat) : Int) ∧ wr.cell? ⟨w.heap.size, 3, none⟩ = some (.slice A m c) ∧ Below w.heap.size w wr) (fun _ s8 _ => m - (intOf s8).toNat)
  case atStart => exact ⟨0, by omega, rfl, by simp [csizes], by simp [go_sem], blw⟩
  case round =>
   obtain ⟨k, hk, rfl, rfl, hbx, hbr⟩ := hrel
   have hzr := hbr.size
   have hacc := csizes_le most d (l.take k) (1 + s.size)
   have htk : tsizes (l.take k) ≤ tsizes l := by
    have := tsizes_append (l.take k) (l.drop k)
    rw [List.take_append_drop] at this
    omega
   have hle : csizes most d (1 + s.size) (l.take k) ≤ 1100000000000 := by
    have h1 : (most + 2) * tsizes (l.take k) ≤ 1000002 * 1048576 := Nat.mul_le_mul (by omega) (by omega)
    omega
   clear hacc htk
   by_cases hlt : k < m
   ·by_cases hst : csizes most d (1 + s.size) (l.take k) ≤ most
    ·have hkl : k < l.length := by have := Hm.out; omega
     obtain ⟨ad, u, rfl, hu, h4⟩ := Ht.out.elem (List.getElem?_eq_getElem hkl)
     have hnx := csizes_take (List.getElem?_eq_getElem hkl) hst
     have hzt : tsize l[k] ≤ 1048576 := by
      have := tsizes_mem (List.getElem_mem hkl)
      omega
     have hcl := csize_le most d l[k]
     have hcl2 : csize most d l[k] ≤ 1100000000000 := by
      have h1 : (most + 2) * tsize l[k] ≤ 1000002 * 1048576 := Nat.mul_le_mul (by omega) (by omega)
      omega
     have hcall : ∀ W, Below wr.heap.size wr W → Calls Tryd.prog 8 #[u, .int .i64 (most : Int), .int .i64 (d : Int)] W (Gives W (.int .i64 (csize most d l[k] : Int))) := fun W h => Ih.out l[k] u W ((hu.keep hbr).keep h) hzt hd1
     obtain ⟨eb, eo, k', n', s', A', m', c', ha, rfl, q0, q1, q2, q3⟩ := h4.keep hbr
     have Hnx := Lib.hid hnx
     clear hnx hcl hzt hu
     generalize csizes most d (1 + s.size) (l.take k) = acc at *
     generalize csize most d l[k] = y at *
     have k0 : (0 : Int) ≤ (k : Int) := by omega
     have k1 : (k : Int) < (m : Int) := by omega
     go_wp2_with (go_at_call 8; (with_reducible refine (hcall _ ?hbel).mono ?_); (case hbel => exact blw); rintro e w1 ⟨rfl, hbw1⟩; have hzw1 := hbw1.size; (try simp at hzw1))
     go_roundw
     case rel =>
      exact ⟨k + 1, by omega, by go_num, by rw [Hnx.out]; go_num, cell_keep (by assumption) hbx, blw⟩
     case measure => simp [intOf]; omega
    ·have hfin := csizes_done (l := l) (d := d) (acc := 1 + s.size) (k := k) (most := most) (by omega)
     have Hfin := Lib.hid hfin
     clear hfin
     generalize csizes most d (1 + s.size) (l.take k) = acc at *
     go_wp2_with fail
     go_ret
     exact ⟨by rw [Hfin.out]; rfl, blw⟩
   ·have hall : l.take k = l := List.take_of_length_le (by have := Hm.out; omega)
    rw [hall] at hle ⊢
    clear hall
    by_cases hst : csizes most d (1 + s.size) l ≤ most
    all_goals
     generalize csizes most d (1 + s.size) l = acc at *
     go_wp2_with fail
     go_ret
     exact ⟨rfl, blw⟩
end Go.Proofs.YtlolnakeancenaaDoor

namespace Go.Proofs.YtlolnakeancenaaDoor
open Go.RowKit
set_option linter.unusedVariables false
set_option linter.unusedSimpArgs false

theorem cells_txt (s : ByteArray) : Lib.strCells s = u8s (txt s) := by
 simp [Lib.strCells, u8s, txt]

section
variable {P : Program} {w : World}
theorem run_app_text (base : Nat) (t x ty e : TypeId) (i : TypeInfo) (ht : P.underlying t = some (.slice e)) (hx : P.underlying x = some .string) (hi : P.info? e = some i) (hz : i.zero = some (.int .u8 0))
  (hsize : i.size = 1) (hby : i.bytes = 1) (v : Value) (l : List Nat) (hown : w.ownsRow base e 1 v l.length (u8s l)) (s : ByteArray)
  (h63 : l.length + s.size ≤ maxLen) (hbytes : l.length + s.size ≤ 140737488355328) (hbase : base ≤ w.heap.size) :
  ∃ v' w', (Builtin.append_ #[t, x] ty #[v, .string s]).run P w = .ok v' w' ∧ w'.ownsRow base e 1 v' (l.length + (txt s).length) (u8s l ++ u8s (txt s)) ∧ w.grownBy w' v.ownBlock ∧
   (v'.ownBlock = v.ownBlock ∨ v'.ownBlock = some w.heap.size) ∧ w'.ownsRow base e 1 v l.length (u8s l) := by
 obtain ⟨v', w', hr, h2, h3, h4⟩ := Lib.run_append_own_string (P := P) w base t x ty e i ht hx hi hz hsize hby v l.length (u8s l) hown s h63 hbytes hbase
 rw [cells_txt] at h2
 rw [← txt_length] at h2
 refine ⟨v', w', hr, h2, h3, ?_⟩
 rcases hown.2 with ⟨rfl, hl⟩ | ⟨g, cap, cur, rfl, hbg, hg, hnc, hcm, hcs, htake⟩
 ·have hl0 : l = [] := List.eq_nil_of_length_eq_zero hl
  subst hl0
  refine ⟨?_, World.ownsRow_nil _ _ _ _⟩
  by_cases hs : s.size = 0
  ·rw [h4.2 ⟨rfl, hs⟩]; exact .inl rfl
  ·have hr' := run_append_nil_string (P := P) w t x ty e i (.int .u8 0) ht hx hi hz s (by omega) (by unfold maxLen at h63; simp at h63; omega) (by rw [hby]; simp at hbytes; omega)
   rw [hr] at hr'
   injection hr' with hv _
   subst hv
   exact .inr rfl
 ·by_cases hroom : l.length + s.size ≤ cap
  ·have hr' := Lib.run_append_room_string (P := P) w t x ty e i ht hx hi hsize g l.length cap cur hg s hroom (by omega)
   rw [hr] at hr'
   injection hr' with hv hw
   subst hv hw
   refine ⟨.inl rfl, hown.1, .inr ⟨g, cap, _, rfl, hbg, setRow_heap w g cur _ e _ hg, hnc, hcm, ?_, ?_⟩⟩
   ·simp only [List.size_toArray, List.length_append, List.length_take, List.length_drop, Array.length_toList, Lib.strCells_length]
    omega
   ·have ht' : cur.toList.take l.length = u8s l := by simpa using htake
    rw [ht', Nat.mul_one, List.append_assoc]
    exact List.take_append_of_le_length (by simp [u8s_length]) |>.trans (List.take_of_length_le (by simp [u8s_length]))
  ·have holds : ∀ j u, (u8s l)[j]? = some u → w.cell? ((⟨g, 0, none⟩ : Addr).add j) = some u := hown.cells (g := g) rfl
   have hr' := Lib.run_append_grow_string (P := P) w t x ty e i (.int .u8 0) ht hx hi hz ⟨g, 0, none⟩ l.length cap (u8s l) (by rw [hsize, u8s_length]; omega) holds s (by omega) (by unfold maxLen at h63; omega) (by rw [hby]; exact growslice_fits (by omega) (by omega))
   rw [hr] at hr'
   injection hr' with hv hw
   subst hv hw
   refine ⟨.inr rfl, hown.1, .inr ⟨g, cap, cur, rfl, hbg, ?_, hnc, hcm, hcs, htake⟩⟩
   exact (Below.heap_alloc w.drew _ g (Array.getElem?_eq_some_iff.1 hg).1).trans hg

/-- At the list of a plain region's operations. -/
theorem wpList_app_text {ops : Array Oper} {rest : List Oper} {o : Oper} {a : Act} {Q : Exit → Act → World → Prop} (hgd : o.guard = none) (sl xo : Operand) (t x : TypeId)
  (ho : o.op = .call { callee := .builtin .append, args := #[sl, xo], argTypes := #[t, x] })
  (base : Nat) (e : TypeId) (i : TypeInfo) (ht : P.underlying t = some (.slice e)) (hx : P.underlying x = some .string) (hi : P.info? e = some i) (hz : i.zero = some (.int .u8 0))
  (hsize : i.size = 1) (hby : i.bytes = 1)
  (v : Value) (l : List Nat) (hs : a.eval sl = v) (hown : w.ownsRow base e 1 v l.length (u8s l)) (s : ByteArray) (hxe : a.eval xo = .string s)
  (h63 : l.length + s.size ≤ maxLen) (hbytes : l.length + s.size ≤ 140737488355328) (hbase : base ≤ w.heap.size)
  (h : ∀ v' w', w'.ownsRow base e 1 v' (l.length + (txt s).length) (u8s l ++ u8s (txt s)) → w.grownBy w' v.ownBlock → (v'.ownBlock = v.ownBlock ∨ v'.ownBlock = some w.heap.size) → w'.ownsRow base e 1 v l.length (u8s l) → wpList P ops Q rest (a.put o.dst v') w') : wpList P ops Q (o :: rest) a w := by
 refine wpList_plain hgd fun K hK => ?_
 obtain ⟨v', w', hr, h2, h3, h4, h5⟩ := run_app_text (P := P) (w := w) base t x o.type e i ht hx hi hz hsize hby v l hown s h63 hbytes hbase
 unfold Oper.wp execOp
 simp only [ho, resolve, invoke, builtin, Sem.run_bind, Sem.run_pure, Result.andThen_ok, List.map_toArray, List.map_cons, List.map_nil, hs, hxe, hr]
 exact hK _ _ (h v' w' h2 h3 h4 h5)
end

/-- One call behind the other. -/
theorem Onto.trans {w w1 w2 : World} {base : Nat} {e : TypeId} {b b1 b2 : Value} {l l1 l2 : List Nat} (h : Onto w base e b l w1 b1 l1) (k : Onto w1 base e b1 l1 w2 b2 l2) : Onto w base e b l w2 b2 l2 := by
 obtain ⟨mm, rfl⟩ := h.pre
 obtain ⟨m2, rfl⟩ := k.pre
 refine ⟨k.own, grown_trans' h.grown k.grown h.place, ?_, ?_, ⟨mm ++ m2, by simp⟩, h.lt⟩
 ·rcases k.place with hat | ⟨g, hat, hg⟩
  ·rw [hat]; exact h.place
  ·exact .inr ⟨g, hat, Nat.le_trans h.grown.size hg⟩
 ·rcases h.place with hpl | ⟨g, hpl, hgw⟩
  ·exact h.old.pre h.own hpl k.old
  ·refine h.old.kept k.grown ?_
   cases hbo : b.ownBlock with
   | none => exact .inl rfl
   | some j =>
    right
    rw [hpl]
    intro hj
    injection hj with hj
    have := h.lt j hbo
    omega
theorem Onto.appends {w : World} {base : Nat} {e : TypeId} {b b1 : Value} {l l1 m : List Nat} {w1 w2 : World} {r : Ending} (h : Onto w base e b l w1 b1 l1) (k : Appends w1 base e b1 l1 m r w2) :
  ∃ b2, r = .returned b2 ∧ Onto w base e b l w2 b2 (l1 ++ m) ∧ Onto w1 base e b1 l1 w2 b2 (l1 ++ m) := by
 obtain ⟨b2, hr, hk⟩ := k
 exact ⟨b2, hr, h.trans hk, hk⟩
end Go.Proofs.YtlolnakeancenaaDoor

namespace Go.Proofs.YtlolnakeancenaaDoor
open Go.RowKit Go.Sort
set_option linter.unusedVariables false

/-- Nothing that was there has turned; draws only went on. -/
def Lays (w w' : World) : Prop := Below w.heap.size w w' ∧ w.drawn ≤ w'.drawn
theorem Lays.refl (w : World) : Lays w w := ⟨Below.refl _ _, Nat.le_refl _⟩
theorem Lays.trans {a b c : World} (h : Lays a b) (k : Lays b c) : Lays a c := ⟨h.1.trans (k.1.mono h.1.size), Nat.le_trans h.2 k.2⟩
theorem Lays.drewN {a w : World} (h : Lays a w) (n : Nat) : Lays a (w.drewN n) := ⟨below_drewN h.1 n, Nat.le_trans h.2 (Nat.le_add_right _ _)⟩
theorem drawn_alloc (w : World) (o : Obj) : (w.alloc o).drawn = w.drawn := rfl
theorem drawn_drew (w : World) : w.drew.drawn = w.drawn + 1 := rfl
end Go.Proofs.YtlolnakeancenaaDoor

namespace Go.Proofs.YtlolnakeancenaaDoor
open Go.RowKit
set_option linter.unusedVariables false
set_option linter.unusedSimpArgs false
set_option maxRecDepth 20000
attribute [local go_sem ↓] Go.wp_at_zero Go.wp_at_succ
attribute [local go_sem] World.cell?_alloc_some frozen_alloc_some
/-- The ids of l lie at block g from its beginning on, none frozen. -/
def RowAt (w : World) (g : Nat) (l : List IdP) : Prop := ∀ (i : Nat) (x : IdP), l[i]? = some x →
 w.cell? ⟨g, i * 2, none⟩ = some (.int .i64 x.1) ∧ w.cell? ⟨g, i * 2 + 1, none⟩ = some (.int .i64 x.2) ∧ w.frozen? ⟨g, i * 2, none⟩ = false ∧ w.frozen? ⟨g, i * 2 + 1, none⟩ = false
theorem RowAt.keep {w w' : World} {g : Nat} {l : List IdP} (h : RowAt w g l) (hb : Below w.heap.size w w') : RowAt w' g l := fun i x hi => by
 obtain ⟨h1, h2, h3, h4⟩ := h i x hi
 exact ⟨cell_keep hb h1, cell_keep hb h2, frozen_keep hb h1 h3, frozen_keep hb h2 h4⟩
theorem RowAt.set {w : World} {g : Nat} {l : List IdP} (h : RowAt w g l) {k : Nat} (hk : k < l.length) (y : IdP) :
  RowAt ((w.setCell ⟨g, k * 2, none⟩ (.int .i64 y.1)).setCell ⟨g, k * 2 + 1, none⟩ (.int .i64 y.2)) g (l.set k y) := fun i x hi => by
 obtain ⟨k1, k2, k3, k4⟩ := h k l[k] (List.getElem?_eq_getElem hk)
 by_cases e : k = i
 ·subst e
  rw [List.getElem?_set_self hk] at hi
  cases hi
  refine ⟨?_, ?_, ?_, ?_⟩
  ·rw [World.cell?_setCell_other _ _ _ _ (by simp)]
   exact World.cell?_setCell_same _ _ _ k1
  ·exact World.cell?_setCell_same _ _ _ (u := .int .i64 l[k].2) (by rw [World.cell?_setCell_other _ _ _ _ (by simp)]; exact k2)
  ·simp [World.frozen?_setCell, k3]
  ·simp [World.frozen?_setCell, k4]
 ·rw [List.getElem?_set_ne e] at hi
  obtain ⟨h1, h2, h3, h4⟩ := h i x hi
  refine ⟨?_, ?_, ?_, ?_⟩
  ·rw [World.cell?_setCell_other _ _ _ _ (by simp <;> omega), World.cell?_setCell_other _ _ _ _ (by simp <;> omega)]; exact h1
  ·rw [World.cell?_setCell_other _ _ _ _ (by simp <;> omega), World.cell?_setCell_other _ _ _ _ (by simp <;> omega)]; exact h2
  ·simp [World.frozen?_setCell, h3]
  ·simp [World.frozen?_setCell, h4]
theorem RowAt.ids {w : World} {g : Nat} {l s : List IdP} {m : Nat} (h : RowAt w g l) (hs : s.length = m) (hm : m ≤ maxLen) (hp : ∀ (i : Nat) (x : IdP), s[i]? = some x → l[i]? = some x) (hwf : ∀ x ∈ s, (Lit.int .i64 x.1).wf = true ∧ (Lit.int .i64 x.2).wf = true) : IdsAt w (some ⟨g, 0, none⟩) m s :=
 ⟨hs.symm, hm, fun i x hi => by
  obtain ⟨h1, h2, _, _⟩ := h i x (hp i x hi)
  obtain ⟨w1, w2⟩ := hwf x (List.mem_of_getElem? hi)
  exact ⟨w1, w2, g, 0, rfl, by simpa using h1, by simpa using h2⟩⟩

def encId (x : IdP) : List Value := [.int .i64 x.1, .int .i64 x.2]
def flat2 (l : List IdP) : List Value := l.flatMap encId
theorem flat2_length (l : List IdP) : (flat2 l).length = l.length * 2 := by
 induction l with
 | nil => rfl
 | cons x l ih => simp only [flat2, List.flatMap_cons, List.length_append, List.length_cons] at *; rw [ih]; simp [encId]; omega
theorem flat2_get : ∀ (l : List IdP) (i : Nat) (x : IdP), l[i]? = some x → (flat2 l)[i * 2]? = some (.int .i64 x.1) ∧ (flat2 l)[i * 2 + 1]? = some (.int .i64 x.2)
 | [], i, x, h => by simp at h
 | y :: l, 0, x, h => by
  simp at h; subst h
  exact ⟨rfl, rfl⟩
 | y :: l, i + 1, x, h => by
  obtain ⟨h1, h2⟩ := flat2_get l i x (by simpa using h)
  have e : flat2 (y :: l) = Value.int .i64 y.1 :: Value.int .i64 y.2 :: flat2 l := rfl
  rw [e, show (i + 1) * 2 = i * 2 + 1 + 1 by omega]
  simp only [List.getElem?_cons_succ]
  exact ⟨h1, h2⟩
theorem flat2_inv {l : List IdP} {j : Nat} {u : Value} (h : (flat2 l)[j]? = some u) : ∃ i x, l[i]? = some x ∧ (j = i * 2 ∧ u = .int .i64 x.1 ∨ j = i * 2 + 1 ∧ u = .int .i64 x.2) := by
 have hj : j < l.length * 2 := by
  rw [← flat2_length]
  exact (List.getElem?_eq_some_iff.1 h).1
 have hi : j / 2 < l.length := by omega
 obtain ⟨h1, h2⟩ := flat2_get l (j / 2) _ (List.getElem?_eq_getElem hi)
 refine ⟨j / 2, _, List.getElem?_eq_getElem hi, ?_⟩
 rcases Nat.mod_two_eq_zero_or_one j with e | e
 ·rw [show j / 2 * 2 = j by omega, h] at h1
  injection h1 with h1
  exact .inl ⟨by omega, h1⟩
 ·rw [show j / 2 * 2 + 1 = j by omega, h] at h2
  injection h2 with h2
  exact .inr ⟨by omega, h2⟩
theorem flat2_one {l : List IdP} : ∀ u ∈ flat2 l, u.oneCell' = true := fun u hu => by
 obtain ⟨j, hj, rfl⟩ := List.getElem_of_mem hu
 obtain ⟨i, x, _, h | h⟩ := flat2_inv (List.getElem?_eq_getElem hj)
 ·rw [h.2]; rfl
 ·rw [h.2]; rfl
theorem flat2_append (l m : List IdP) : flat2 (l ++ m) = flat2 l ++ flat2 m := by simp [flat2]
theorem IdsAt.cells {w : World} {b o m : Nat} {l : List IdP} (h : IdsAt w (some ⟨b, o, none⟩) m l) {j : Nat} {u : Value} (hj : (flat2 l)[j]? = some u) : w.cell? ⟨b, o + j, none⟩ = some u := by
 obtain ⟨i, x, hi, hx⟩ := flat2_inv hj
 obtain ⟨_, _, b2, o2, e, h1, h2⟩ := h.2.2 i x hi
 injection e with e
 injection e with e1 e2
 subst e1 e2
 rcases hx with ⟨rfl, rfl⟩ | ⟨rfl, rfl⟩
 ·exact h1
 ·exact h2
theorem IdsAt.wf {w : World} {A : Option Addr} {m : Nat} {l : List IdP} (h : IdsAt w A m l) : ∀ x ∈ l, (Lit.int .i64 x.1).wf = true ∧ (Lit.int .i64 x.2).wf = true := fun x hx => by
 obtain ⟨i, hi, rfl⟩ := List.getElem_of_mem hx
 obtain ⟨w1, w2, _⟩ := h.2.2 i _ (List.getElem?_eq_getElem hi)
 exact ⟨w1, w2⟩
/-- A row that the call owns. -/
theorem row_of_own {w : World} {base : Nat} {e : TypeId} {v : Value} {n : Nat} {l : List IdP} (h : w.ownsRow base e 2 v n (flat2 l)) (hv : v ≠ .slice none 0 0) :
  ∃ g cap, v = .slice (some ⟨g, 0, none⟩) n cap ∧ base ≤ g ∧ g < w.heap.size ∧ n ≤ cap ∧ cap ≤ maxLen ∧ l.length = n ∧ RowAt w g l := by
 have hl : l.length = n := by have := h.1; rw [flat2_length] at this; omega
 rcases h.2 with ⟨e0, _⟩ | ⟨g, cap, cur, rfl, hb, hg, hn, hm, hs, ht⟩
 ·exact absurd e0 hv
 ·have hlt : g < w.heap.size := (Array.getElem?_eq_some_iff.1 hg).1
  have hc : ∀ j u, (flat2 l)[j]? = some u → w.cell? ⟨g, j, none⟩ = some u := fun j u hj => by
   rw [cell_of_row w g j cur e (0, 0) hg, ← Array.getElem?_toList]
   rw [← ht, List.getElem?_take] at hj
   split at hj
   ·exact hj
   ·cases hj
  have hf : ∀ j, w.frozen? ⟨g, j, none⟩ = false := fun j => by simp [World.frozen?, hg]
  exact ⟨g, cap, rfl, hb, hlt, hn, hm, hl, fun i x hi => ⟨hc _ _ (flat2_get l i x hi).1, hc _ _ (flat2_get l i x hi).2, hf _, hf _⟩⟩
theorem addr_add (b o k : Nat) : (Addr.mk b o none).add k = ⟨b, o + k, none⟩ := by
 unfold Addr.add
 split
 ·simp_all
 ·rfl
theorem IdsAt.src {w : World} {A : Option Addr} {m : Nat} {l : List IdP} (h : IdsAt w A m l) : Src w 2 A m (flat2 l) :=
 ⟨by rw [flat2_length, h.1], fun j u hu => by
  obtain ⟨i, x, hi, hx⟩ := flat2_inv hu
  obtain ⟨_, _, b, o, e, h1, h2⟩ := h.2.2 i x hi
  refine ⟨_, e, ?_⟩
  rw [addr_add]
  rcases hx with ⟨rfl, rfl⟩ | ⟨rfl, rfl⟩
  ·exact h1
  ·exact h2, flat2_one⟩
theorem Src.keep2 {w w' : World} {size : Nat} {A : Option Addr} {m : Nat} {news : List Value} (h : Src w size A m news) (hb : Below w.heap.size w w') : Src w' size A m news :=
 ⟨h.1, fun j u hj => by
  obtain ⟨ad, e, hc⟩ := h.2.1 j u hj
  exact ⟨ad, e, cell_keep hb hc⟩, h.2.2⟩
theorem own_form5 {w : World} {base : Nat} {e : TypeId} {size : Nat} {v : Value} {n : Nat} {xs : List Value} (h : w.ownsRow base e size v n xs) : ∃ A c, v = .slice A n c ∧ n ≤ c ∧ c ≤ maxLen := by
 rcases h.2 with ⟨rfl, rfl⟩ | ⟨g, cap, cur, rfl, _, _, hn, hm, _⟩
 ·exact ⟨none, 0, rfl, Nat.le_refl _, Nat.zero_le _⟩
 ·exact ⟨_, _, rfl, hn, hm⟩
theorem ids_of_own {w : World} {base : Nat} {e : TypeId} {A : Option Addr} {n c : Nat} {l : List IdP} (h : w.ownsRow base e 2 (.slice A n c) n (flat2 l)) (hm : n ≤ maxLen) (hwf : ∀ x ∈ l, (Lit.int .i64 x.1).wf = true ∧ (Lit.int .i64 x.2).wf = true) :
  IdsAt w A n l ∧ n ≤ c ∧ ∀ ad, A = some ad → ad.spot = none := by
 by_cases hv : (.slice A n c : Value) = .slice none 0 0
 ·injection hv with e1 e2 e3
  subst e1 e2 e3
  have hl : l = [] := by
   have := h.1
   rw [flat2_length] at this
   exact List.length_eq_zero_iff.1 (by omega)
  subst hl
  exact ⟨IdsAt.nil, Nat.le_refl _, fun ad h => by cases h⟩
 ·obtain ⟨g, cap, e, _, _, hn, _, hl, hr⟩ := row_of_own h hv
  injection e with e1 e2 e3
  subst e1 e3
  exact ⟨hr.ids hl hm (fun _ _ h => h) hwf, hn, fun ad h => by cases h; rfl⟩
theorem src_two {w : World} {x : IdP} : Src (w.alloc (.cells #[.int .i64 x.1, .int .i64 x.2] 41)) 2 (some ⟨w.heap.size, 0, none⟩) 1 (flat2 [x]) := by
 refine ⟨rfl, fun j u hj => ⟨_, rfl, ?_⟩, flat2_one⟩
 rw [addr_add, Nat.zero_add]
 have hb := Blk.new w 41 #[.int .i64 x.1, .int .i64 x.2]
 rw [hb.cell, List.getElem?_toArray]
 exact hj
theorem src_two' {w : World} {r n : Int} : Src (w.alloc (.cells #[.int .i64 r, .int .i64 n] 41)) 2 (some ⟨w.heap.size, 0, none⟩) 1 (flat2 [(r, n)]) := src_two (x := (r, n))
end Go.Proofs.YtlolnakeancenaaDoor

namespace Go.Proofs.YtlolnakeancenaaDoor
open Go.RowKit
set_option linter.unusedVariables false
set_option linter.unusedSimpArgs false
set_option maxRecDepth 20000
attribute [local go_sem ↓] Go.wp_at_zero Go.wp_at_succ
attribute [local go_sem] World.cell?_alloc_some frozen_alloc_some

section
variable {P : Program} {l : List Oper} {Q : Exit → Act → World → Prop} {md : Region.Mode} {S : World → Prop}
theorem three_op {i j k : Nat} {oi oj ok : Oper} {fuel : Nat} {listed : Array Bool} {a : Act} {w : World} (ei : opAt l i = some oi) (ej : opAt l j = some oj) (ek : opAt l k = some ok) (hr : Region.ready md l.toArray listed = [i, j, k])
  (wi : Region.wanted oi (yielded l.toArray a.tmps) = true) (wj : Region.wanted oj (yielded l.toArray a.tmps) = true) (wk : Region.wanted ok (yielded l.toArray a.tmps) = true)
  (hi : ∀ K' : Act → World → Prop, Shut (∀ a w, S w → (S w → wpAnyH P md l.toArray Q S fuel (listed.setIfInBounds i true) a w) → K' a w) → Oper.wp P oi a w K' Q)
  (hj : ∀ K' : Act → World → Prop, Shut (∀ a w, S w → (S w → wpAnyH P md l.toArray Q S fuel (listed.setIfInBounds j true) a w) → K' a w) → Oper.wp P oj a w K' Q)
  (hk : ∀ K' : Act → World → Prop, Shut (∀ a w, S w → (S w → wpAnyH P md l.toArray Q S fuel (listed.setIfInBounds k true) a w) → K' a w) → Oper.wp P ok a w K' Q) :
  wpAnyH P md l.toArray Q S (fuel + 1) listed a w :=
 wpAnyH_ready hr (by simp) (AllReadyH.cons ((opAt_get l i).trans ei) (fun K' hK => by rw [if_pos wi]; exact hi K' hK) (AllReadyH.cons ((opAt_get l j).trans ej) (fun K' hK => by rw [if_pos wj]; exact hj K' hK) (AllReadyH.cons ((opAt_get l k).trans ek) (fun K' hK => by rw [if_pos wk]; exact hk K' hK) AllReadyH.nil)))
end
end Go.Proofs.YtlolnakeancenaaDoor

namespace Go.Proofs.YtlolnakeancenaaDoor
set_option linter.unusedVariables false

/-- A text of bytes. -/
def ofBytes (l : List Nat) : ByteArray := ⟨(l.map fun c => UInt8.ofNat c).toArray⟩
theorem txt_ofBytes (l : List Nat) (h : ∀ c ∈ l, c < 256) : txt (ofBytes l) = l := by
 simp only [txt, ofBytes, List.map_map]
 conv => rhs; rw [← List.map_id l]
 apply List.map_congr_left
 intro c hc
 have := h c hc
 simp [Nat.mod_eq_of_lt this]
theorem ofBytes_size (l : List Nat) : (ofBytes l).size = l.length := by simp [ofBytes, ByteArray.size]
theorem ofBytes_txt (s : ByteArray) : ofBytes (txt s) = s := txt_inj (txt_ofBytes _ (txt_lt s))

abbrev Got := Except (Nat × Nat) (Tree × List Nat × Nat)
abbrev Gots := Except (Nat × Nat) (List Tree × List Nat × Nat)
/-- So many trees, one behind the other. -/
def gmany (g : List Nat → Nat → Got) : Nat → List Nat → Nat → Gots
 | 0, r, a => .ok ([], r, a)
 | n + 1, r, a =>
  match g r a with
  | .error e => .error e
  | .ok (t, r1, a1) =>
   match gmany g n r1 a1 with
   | .error e => .error e
   | .ok (l, r2, a2) => .ok (t :: l, r2, a2)
/-- The tree at the front of r, which begins at place a; so many lists may still be opened. -/
def gtake : Nat → List Nat → Nat → Got
 | _, [], a => .error (2, a)
 | 0, _ :: _, a => .error (12, a)
 | fuel + 1, k :: r, a =>
  if 2 < k then .error (4, a)
  else if (ntake r).2.2 ≠ 0 then .error ((ntake r).2.2, a + 1)
  else if k = 0 then .ok (.mk 0 (ntake r).1 ByteArray.empty [], r.drop (ntake r).2.1, a + 1 + (ntake r).2.1)
  else if (r.drop (ntake r).2.1).length < (ntake r).1 then .error (2, a + 1 + (ntake r).2.1)
  else if k = 1 then .ok (.mk 1 0 (ofBytes ((r.drop (ntake r).2.1).take (ntake r).1)) [], (r.drop (ntake r).2.1).drop (ntake r).1, a + 1 + (ntake r).2.1 + (ntake r).1)
  else
   match gmany (gtake fuel) (ntake r).1 (r.drop (ntake r).2.1) (a + 1 + (ntake r).2.1) with
   | .error e => .error e
   | .ok (l, r2, a2) => .ok (.mk 2 0 ByteArray.empty l, r2, a2)
theorem gmany_succ_ok {g : List Nat → Nat → Got} {n a a1 : Nat} {r r1 : List Nat} {t : Tree} (h : g r a = .ok (t, r1, a1)) :
  gmany g (n + 1) r a = match gmany g n r1 a1 with | .error e => .error e | .ok (l, r2, a2) => .ok (t :: l, r2, a2) := by simp only [gmany, h]
theorem gmany_succ_error {g : List Nat → Nat → Got} {n a : Nat} {r : List Nat} {e : Nat × Nat} (h : g r a = .error e) : gmany g (n + 1) r a = .error e := by simp only [gmany, h]
/-- What is put is read. -/
theorem gtake_form (t : Tree) : ∀ (d fuel a : Nat) (r : List Nat), Fit t → check t d = 0 → fuel + d = 16 → gtake fuel (tform t ++ r) a = .ok (t, r, a + (tform t).length) := by
 refine Tree.ind (P := fun t => ∀ (d fuel a : Nat) (r : List Nat), Fit t → check t d = 0 → fuel + d = 16 → gtake fuel (tform t ++ r) a = .ok (t, r, a + (tform t).length)) ?_ t
 intro k n s l ih d fuel a r hf hc hd
 obtain ⟨hb, hd16, hcl⟩ := check_node hc
 obtain ⟨hn, hs, hl, hsub⟩ := hf.out
 cases fuel with
 | zero => omega
 | succ fuel =>
  rcases bad_parts hb with ⟨rfl, rfl, rfl⟩ | ⟨rfl, rfl, rfl⟩ | ⟨rfl, rfl, rfl⟩
  ·have h1 := ntake_form n r
   have h2 : (form n ++ r).drop (size n) = r := by rw [← size_form]; exact List.drop_left
   simp [tform, gtake, h1, h2, size_form]
   omega
  ·have h1 := ntake_form s.size (txt s ++ r)
   have h2 : (form s.size ++ (txt s ++ r)).drop (size s.size) = txt s ++ r := by rw [← size_form]; exact List.drop_left
   have h3 : (txt s ++ r).take s.size = txt s := by rw [← txt_length]; exact List.take_left
   have h4 : (txt s ++ r).drop s.size = r := by rw [← txt_length]; exact List.drop_left
   simp only [tform, if_neg (show ¬ (1 : Int) = 0 by decide), if_true, List.cons_append, List.append_assoc, gtake, h1, h2, h3, h4]
   rw [if_neg (by omega), if_neg (by simp), if_neg (by omega), if_neg (by simp [txt_length]), ofBytes_txt]
   simp [size_form, txt_length]
   omega
  ·have h1 := ntake_form l.length (tforms l ++ r)
   have h2 : (form l.length ++ (tforms l ++ r)).drop (size l.length) = tforms l ++ r := by rw [← size_form]; exact List.drop_left
   have hlen : ∀ m : List Tree, m.length ≤ (tforms m).length := by
    intro m
    induction m with
    | nil => simp
    | cons t m ihm =>
     obtain ⟨k, n, s, q⟩ := t
     have : 1 ≤ (tform (.mk k n s q)).length := by
      simp only [tform]; split
      ·simp
      ·split <;> simp
     simp only [tforms, List.length_append, List.length_cons]
     omega
   have key : ∀ (m : List Tree) (a : Nat), (∀ t ∈ m, t ∈ l) → checks m (d + 1) = 0 → gmany (gtake fuel) m.length (tforms m ++ r) a = .ok (m, r, a + (tforms m).length) := by
    intro m
    induction m with
    | nil => intro a _ _; simp [gmany, tforms]
    | cons t m ihm =>
     intro a hm hcm
     rw [checks_zero] at hcm
     have h5 := ih t (hm t (by simp)) (d + 1) fuel a (tforms m ++ r) (hsub t (hm t (by simp))) (hcm t (by simp)) (by omega)
     simp only [tforms, List.append_assoc, List.length_cons]
     rw [gmany_succ_ok h5, ihm _ (fun v hv => hm v (by simp [hv])) (checks_zero.2 fun v hv => hcm v (by simp [hv]))]
     simp [Nat.add_assoc]
   have h6 := key l (a + 1 + size l.length) (fun t h => h) hcl
   simp only [tform, if_neg (show ¬ (2 : Int) = 0 by decide), if_neg (show ¬ (2 : Int) = 1 by decide), List.cons_append, List.append_assoc, gtake, h1, h2]
   rw [if_neg (by omega), if_neg (by simp), if_neg (by omega), if_neg (by have := hlen l; simp; omega), if_neg (by omega), h6]
   simp [size_form]
   omega
end Go.Proofs.YtlolnakeancenaaDoor

namespace Go.Proofs.YtlolnakeancenaaDoor
set_option linter.unusedVariables false

theorem tsize_form (t : Tree) : ∀ d, check t d = 0 → tsize t ≤ (tform t).length := by
 refine Tree.ind (P := fun t => ∀ d, check t d = 0 → tsize t ≤ (tform t).length) ?_ t
 intro k n s l ih d hc
 obtain ⟨hb, hd16, hcl⟩ := check_node hc
 have key : ∀ m : List Tree, (∀ t ∈ m, t ∈ l) → tsizes m ≤ (tforms m).length := by
  intro m
  induction m with
  | nil => intro _; simp [tsizes, tforms]
  | cons t m ihm =>
   intro hm
   have h1 := ih t (hm t (by simp)) (d + 1) (checks_zero.1 hcl t (hm t (by simp)))
   have h2 := ihm fun v hv => hm v (by simp [hv])
   simp only [tsizes, tforms, List.length_append]
   omega
 have hk := key l fun t h => h
 rcases bad_parts hb with ⟨rfl, rfl, rfl⟩ | ⟨rfl, rfl, rfl⟩ | ⟨rfl, rfl, rfl⟩
 ·have e0 : ByteArray.empty.size = 0 := rfl
  simp [tsize, tform, tsizes, e0]
 ·simp [tsize, tform, tsizes, txt_length]
  omega
 ·have e0 : ByteArray.empty.size = 0 := rfl
  simp [tsize, tform, e0]
  omega

theorem ntake_back {r : List Nat} (hr : ∀ c ∈ r, c < 256) (h : (ntake r).2.2 = 0) :
  r = form (ntake r).1 ++ r.drop (ntake r).2.1 ∧ (ntake r).2.1 = (form (ntake r).1).length ∧ (ntake r).2.1 ≤ r.length ∧ (ntake r).1 < 2 ^ 64 := by
 cases r with
 | nil => simp [ntake] at h
 | cons b0 r =>
  have hb0 := hr b0 (List.mem_cons_self ..)
  have hr' : ∀ c ∈ r, c < 256 := fun c hc => hr c (List.mem_cons_of_mem _ hc)
  by_cases h1 : b0 < 248
  ·have e : ntake (b0 :: r) = (b0, 1, 0) := by simp [ntake, h1]
   rw [e]
   simp only [form, if_pos h1]
   exact ⟨rfl, rfl, by simp, by omega⟩
  ·by_cases h2 : r.length < b0 - 247
   ·simp [ntake, h1, h2] at h
   ·by_cases h3 : size (beval (r.take (b0 - 247))) = 1 + (b0 - 247)
    ·have e : ntake (b0 :: r) = (beval (r.take (b0 - 247)), 1 + (b0 - 247), 0) := by simp [ntake, h1, h2, h3]
     rw [e]
     have hf := (form_iff hb0 hr' (by omega) (by omega)).2 h3
     simp only [hf]
     have hlen : (r.take (b0 - 247)).length = b0 - 247 := by rw [List.length_take]; omega
     refine ⟨?_, ?_, ?_, ?_⟩
     ·rw [Nat.add_comm 1, List.drop_succ_cons, List.cons_append, List.take_append_drop]
     ·simp [hlen]; omega
     ·simp; omega
     ·have hv := beval_lt (r.take (b0 - 247)) fun c hc => hr' c (List.mem_of_mem_take hc)
      rw [hlen] at hv
      have h8 : 256 ^ (b0 - 247) ≤ 256 ^ 8 := Nat.pow_le_pow_right (by decide) (by omega)
      have h9 : 256 ^ 8 = 2 ^ 64 := by decide
      omega
    ·simp [ntake, h1, h2, h3] at h
theorem ntake_errs (r : List Nat) : (ntake r).2.2 = 0 ∨ (ntake r).2.2 = 2 ∨ (ntake r).2.2 = 4 := by
 cases r with
 | nil => simp [ntake]
 | cons b0 r =>
  simp only [ntake]
  split
  ·simp
  ·split
   ·simp
   ·split <;> simp
theorem ntake_le (r : List Nat) : (ntake r).2.1 ≤ r.length := by
 cases r with
 | nil => simp [ntake]
 | cons b0 r =>
  simp only [ntake]
  split
  ·simp
  ·split
   ·simp
   ·split
    ·simp; omega
    ·simp

theorem gtake_good : ∀ (fuel d : Nat) (t : Tree) (r r1 : List Nat) (a a1 : Nat), fuel + d = 16 → r.length < 2 ^ 62 → (∀ c ∈ r, c < 256) → gtake fuel r a = .ok (t, r1, a1) →
  check t d = 0 ∧ Fit t ∧ r = tform t ++ r1 ∧ a1 = a + (tform t).length := by
 intro fuel
 induction fuel with
 | zero =>
  intro d t r r1 a a1 hd hlen hr h
  cases r <;> simp [gtake] at h
 | succ fuel ih =>
  intro d t r r1 a a1 hd hlen hr h
  cases r with
  | nil => simp [gtake] at h
  | cons k r =>
   have hr' : ∀ c ∈ r, c < 256 := fun c hc => hr c (List.mem_cons_of_mem _ hc)
   simp only [List.length_cons] at hlen
   simp only [gtake] at h
   by_cases hk : 2 < k
   ·rw [if_pos hk] at h; cases h
   rw [if_neg hk] at h
   by_cases hn : (ntake r).2.2 ≠ 0
   ·rw [if_pos hn] at h; cases h
   rw [if_neg hn] at h
   obtain ⟨n1, n2, n3, n4⟩ := ntake_back hr' (Classical.byContradiction hn)
   generalize (ntake r).1 = v at *
   generalize (ntake r).2.1 = m at *
   have e0 : ByteArray.empty.size = 0 := rfl
   have hd16 : ¬ d = 16 := by omega
   by_cases k0 : k = 0
   ·rw [if_pos k0] at h
    simp only [Except.ok.injEq, Prod.mk.injEq] at h
    obtain ⟨rfl, rfl, rfl⟩ := h
    subst k0
    refine ⟨by simp [check, bad, checks, e0, hd16], .mk 0 v _ [] n4 (by decide) (by decide) (fun t ht => by cases ht), ?_, ?_⟩
    ·simp only [tform, if_true, List.cons_append, ← n1]
    ·simp [tform, n2]; omega
   rw [if_neg k0] at h
   by_cases hl : (r.drop m).length < v
   ·rw [if_pos hl] at h; cases h
   rw [if_neg hl] at h
   have hdr : ∀ c ∈ r.drop m, c < 256 := fun c hc => hr' c (List.mem_of_mem_drop hc)
   have hdl : (r.drop m).length ≤ r.length := by simp
   by_cases k1 : k = 1
   ·rw [if_pos k1] at h
    simp only [Except.ok.injEq, Prod.mk.injEq] at h
    obtain ⟨rfl, rfl, rfl⟩ := h
    subst k1
    have hsz : (ofBytes ((r.drop m).take v)).size = v := by rw [ofBytes_size, List.length_take]; omega
    have htx : txt (ofBytes ((r.drop m).take v)) = (r.drop m).take v := txt_ofBytes _ fun c hc => hdr c (List.mem_of_mem_take hc)
    refine ⟨by simp [check, bad, checks, hd16], .mk 1 0 _ [] (by decide) (by rw [hsz]; omega) (by decide) (fun t ht => by cases ht), ?_, ?_⟩
    ·simp only [tform, if_neg (show ¬ (1 : Int) = 0 by decide), if_true, hsz, htx, List.cons_append, List.append_assoc, List.take_append_drop, ← n1]
    ·simp only [tform, if_neg (show ¬ (1 : Int) = 0 by decide), if_true, hsz, htx, List.length_cons, List.length_append, ← n2, List.length_take]
     omega
   rw [if_neg k1] at h
   obtain rfl : k = 2 := by omega
   cases hm : gmany (gtake fuel) v (r.drop m) (a + 1 + m) with
   | error e => rw [hm] at h; cases h
   | ok y =>
    obtain ⟨l, r2, a2⟩ := y
    rw [hm] at h
    simp only [Except.ok.injEq, Prod.mk.injEq] at h
    obtain ⟨rfl, rfl, rfl⟩ := h
    have ih2 : ∀ (t : Tree) (r r1 : List Nat) (a a1 : Nat), (r.length < 2 ^ 62) → (∀ c ∈ r, c < 256) → gtake fuel r a = .ok (t, r1, a1) → check t (d + 1) = 0 ∧ Fit t ∧ r = tform t ++ r1 ∧ a1 = a + (tform t).length := fun t r r1 a a1 hl hb hg => ih (d + 1) t r r1 a a1 (by omega) hl hb hg
    have key : ∀ (n : Nat) (l : List Tree) (r r1 : List Nat) (a a1 : Nat), r.length < 2 ^ 62 → (∀ c ∈ r, c < 256) → gmany (gtake fuel) n r a = .ok (l, r1, a1) →
      l.length = n ∧ checks l (d + 1) = 0 ∧ (∀ t ∈ l, Fit t) ∧ r = tforms l ++ r1 ∧ a1 = a + (tforms l).length := by
     intro n
     induction n with
     | zero =>
      intro l r r1 a a1 hl hr h
      simp only [gmany, Except.ok.injEq, Prod.mk.injEq] at h
      obtain ⟨rfl, rfl, rfl⟩ := h
      exact ⟨rfl, rfl, fun t ht => (by cases ht), rfl, rfl⟩
     | succ n ihn =>
      intro l r r1 a a1 hl hr h
      cases hg : gtake fuel r a with
      | error e => rw [gmany_succ_error hg] at h; cases h
      | ok x =>
       obtain ⟨t, r2, a2⟩ := x
       rw [gmany_succ_ok hg] at h
       obtain ⟨h1, h2, h3, h4⟩ := ih2 t r r2 a a2 hl hr hg
       cases hm : gmany (gtake fuel) n r2 a2 with
       | error e => rw [hm] at h; cases h
       | ok y =>
        obtain ⟨l', r3, a3⟩ := y
        rw [hm] at h
        simp only [Except.ok.injEq, Prod.mk.injEq] at h
        obtain ⟨rfl, rfl, rfl⟩ := h
        obtain ⟨g1, g2, g3, g4, g5⟩ := ihn l' r2 r3 a2 a3 (by have := congrArg List.length h3; simp at this; omega) (fun c hc => hr c (by rw [h3]; exact List.mem_append_right _ hc)) hm
        refine ⟨by simp [g1], by simp [checks, h1, g2], fun u hu => ?_, by rw [h3, g4]; simp [tforms], by rw [g5, h4]; simp [tforms, Nat.add_assoc]⟩
        rcases List.mem_cons.1 hu with rfl | hu
        ·exact h2
        ·exact g3 u hu
    obtain ⟨g1, g2, g3, g4, g5⟩ := key v l (r.drop m) r2 (a + 1 + m) a2 (by omega) hdr hm
    refine ⟨by simp [check, bad, g2, e0, hd16], .mk 2 0 _ l (by decide) (by decide) (by omega) g3, ?_, ?_⟩
    ·simp only [tform, if_neg (show ¬ (2 : Int) = 0 by decide), if_neg (show ¬ (2 : Int) = 1 by decide), List.cons_append, List.append_assoc, g1, ← g4, ← n1]
    ·simp only [tform, if_neg (show ¬ (2 : Int) = 0 by decide), if_neg (show ¬ (2 : Int) = 1 by decide), List.length_cons, List.length_append, g1, g5, ← n2]
     omega

end Go.Proofs.YtlolnakeancenaaDoor

namespace Go.Proofs.YtlolnakeancenaaDoor

def crcP : Nat := 2197175160
def crcM : Nat := 4294967295
/-- One step of the register. -/
def cstep (v : Nat) : Nat := if v % 2 = 1 then (v / 2) ^^^ crcP else v / 2
def csteps : Nat → Nat → Nat
 | 0, v => v
 | n + 1, v => csteps n (cstep v)
/-- A byte more. -/
def cupd (v c : Nat) : Nat := csteps 8 (v ^^^ c)
def cfold (v : Nat) (l : List Nat) : Nat := l.foldl cupd v
def crc (l : List Nat) : Nat := crcM - cfold crcM l

theorem csteps_succ' (n v : Nat) : csteps (n + 1) v = cstep (csteps n v) := by
 induction n generalizing v with
 | zero => rfl
 | succ n ih => rw [csteps, ih (cstep v)]; rfl
theorem csteps_add (m n v : Nat) : csteps (m + n) v = csteps m (csteps n v) := by
 induction m with
 | zero => simp [csteps]
 | succ m ih => rw [show m + 1 + n = (m + n) + 1 by omega, csteps_succ', ih, csteps_succ']

theorem xor_mod_two (a b : Nat) : (a ^^^ b) % 2 = (a + b) % 2 := by
 have h := @Nat.xor_mod_two_eq_one a b
 have h2 := Nat.mod_two_eq_zero_or_one (a ^^^ b)
 generalize (a ^^^ b) % 2 = c at *
 omega
theorem xor_div_two' (a b : Nat) : (a ^^^ b) / 2 = (a / 2) ^^^ (b / 2) := Nat.xor_div_two
theorem cstep_xor (a b : Nat) : cstep (a ^^^ b) = cstep a ^^^ cstep b := by
 unfold cstep
 rw [xor_mod_two, xor_div_two']
 have ha : a % 2 = 0 ∨ a % 2 = 1 := by omega
 have hb : b % 2 = 0 ∨ b % 2 = 1 := by omega
 rcases ha with ha | ha <;> rcases hb with hb | hb
 ·rw [if_neg (by omega), if_neg (by omega), if_neg (by omega)]
 ·rw [if_pos (by omega), if_neg (by omega), if_pos (by omega), Nat.xor_assoc]
 ·rw [if_pos (by omega), if_pos (by omega), if_neg (by omega), Nat.xor_assoc, Nat.xor_assoc, Nat.xor_comm crcP]
 ·rw [if_neg (by omega), if_pos (by omega), if_pos (by omega)]
  rw [Nat.xor_assoc, Nat.xor_comm crcP, Nat.xor_assoc, Nat.xor_self, Nat.xor_zero]
theorem csteps_xor (n a b : Nat) : csteps n (a ^^^ b) = csteps n a ^^^ csteps n b := by
 induction n generalizing a b with
 | zero => rfl
 | succ n ih => simp only [csteps, cstep_xor, ih]
theorem cstep_double (v : Nat) : cstep (2 * v) = v := by
 unfold cstep; rw [if_neg (by omega)]; omega
theorem csteps_shift (n v : Nat) : csteps n (2 ^ n * v) = v := by
 induction n generalizing v with
 | zero => simp [csteps]
 | succ n ih =>
  rw [csteps, show 2 ^ (n + 1) * v = 2 * (2 ^ n * v) by rw [Nat.pow_succ, Nat.mul_comm (2 ^ n) 2, Nat.mul_assoc], cstep_double, ih]
theorem split_xor (n v : Nat) : v = (2 ^ n * (v / 2 ^ n)) ^^^ (v % 2 ^ n) := by
 apply Nat.eq_of_testBit_eq
 intro i
 simp [Nat.testBit_xor, Nat.testBit_mod_two_pow, Nat.testBit_two_pow_mul, Nat.testBit_div_two_pow]
 by_cases h : n ≤ i
 ·simp [h, Nat.not_lt.2 h, Nat.sub_add_cancel h]
 ·simp [h, Nat.lt_of_not_le h]
theorem csteps_split (n v : Nat) : csteps n v = (v / 2 ^ n) ^^^ csteps n (v % 2 ^ n) := by
 conv => lhs; rw [split_xor n v]
 rw [csteps_xor, csteps_shift]
theorem cstep_lt {v : Nat} (h : v < 2 ^ 32) : cstep v < 2 ^ 32 := by
 unfold cstep
 split
 ·exact Nat.xor_lt_two_pow (by omega) (by decide)
 ·omega
theorem csteps_lt (n : Nat) {v : Nat} (h : v < 2 ^ 32) : csteps n v < 2 ^ 32 := by
 induction n generalizing v with
 | zero => exact h
 | succ n ih => exact ih (cstep_lt h)
theorem cstep_ne {v : Nat} (h : v < 2 ^ 32) (hv : v ≠ 0) : cstep v ≠ 0 := by
 unfold cstep
 split
 ·intro h0
  have : v / 2 = crcP := by
   have h1 := congrArg (· ^^^ crcP) h0
   simpa [Nat.xor_assoc] using h1
  simp only [crcP] at this
  omega
 ·omega
theorem csteps_ne (n : Nat) {v : Nat} (h : v < 2 ^ 32) (hv : v ≠ 0) : csteps n v ≠ 0 := by
 induction n generalizing v with
 | zero => exact hv
 | succ n ih => exact ih (cstep_lt h) (cstep_ne h hv)

/-- The remainders of the half bytes. -/
def ctab (x : Nat) : Nat := csteps 4 x
theorem csteps_four (v : Nat) : csteps 4 v = (v / 16) ^^^ ctab (v % 16) := csteps_split 4 v
/-- The two turns of a byte, by half bytes. -/
def chalf (v : Nat) : Nat := (v / 16) ^^^ ctab (v % 16)
theorem cupd_halves (v c : Nat) : cupd v c = chalf (chalf (v ^^^ c)) := by
 unfold cupd chalf
 rw [show (8 : Nat) = 4 + 4 from rfl, csteps_add, csteps_four, csteps_four]
theorem ctab_lt {x : Nat} (h : x < 16) : ctab x < 2 ^ 32 := csteps_lt 4 (by omega)
theorem chalf_lt {v : Nat} (h : v < 2 ^ 32) : chalf v < 2 ^ 32 := by
 unfold chalf; exact Nat.xor_lt_two_pow (by omega) (ctab_lt (by omega))
theorem cupd_lt {v c : Nat} (h : v < 2 ^ 32) (hc : c < 256) : cupd v c < 2 ^ 32 := csteps_lt 8 (Nat.xor_lt_two_pow h (by omega))
theorem cfold_lt (l : List Nat) (hl : ∀ c ∈ l, c < 256) {v : Nat} (h : v < 2 ^ 32) : cfold v l < 2 ^ 32 := by
 induction l generalizing v with
 | nil => exact h
 | cons c l ih => exact ih (fun x hx => hl x (by simp [hx])) (cupd_lt h (hl c (by simp)))
theorem cfold_append (v : Nat) (a b : List Nat) : cfold v (a ++ b) = cfold (cfold v a) b := by simp [cfold]
theorem cfold_snoc (v : Nat) (a : List Nat) (c : Nat) : cfold v (a ++ [c]) = cupd (cfold v a) c := by simp [cfold]

/-- The document's way: bit by bit, the byte beside the register. -/
def rstep (p : Nat × Nat) : Nat × Nat := (if p.1 % 2 ≠ p.2 % 2 then (p.1 / 2) ^^^ crcP else p.1 / 2, p.2 / 2)
def rsteps : Nat → Nat × Nat → Nat × Nat
 | 0, p => p
 | n + 1, p => rsteps n (rstep p)
theorem rstep_xor (v c : Nat) : (rstep (v, c)).1 ^^^ (rstep (v, c)).2 = cstep (v ^^^ c) := by
 unfold rstep cstep
 rw [xor_mod_two, xor_div_two']
 by_cases h : v % 2 = c % 2
 ·simp [h, show (v + c) % 2 ≠ 1 by omega]
 ·simp [h, show (v + c) % 2 = 1 by omega]
  rw [Nat.xor_assoc, Nat.xor_assoc, Nat.xor_comm crcP]
theorem rsteps_xor (n : Nat) (p : Nat × Nat) : (rsteps n p).1 ^^^ (rsteps n p).2 = csteps n (p.1 ^^^ p.2) := by
 induction n generalizing p with
 | zero => rfl
 | succ n ih => rw [rsteps, ih, rstep_xor]; rfl
theorem rsteps_snd (n : Nat) (p : Nat × Nat) : (rsteps n p).2 = p.2 / 2 ^ n := by
 induction n generalizing p with
 | zero => simp [rsteps]
 | succ n ih => rw [rsteps, ih, rstep, Nat.div_div_eq_div_mul, Nat.pow_succ, Nat.mul_comm]
theorem rsteps_succ' (n : Nat) (p : Nat × Nat) : rsteps (n + 1) p = rstep (rsteps n p) := by
 induction n generalizing p with
 | zero => rfl
 | succ n ih => rw [rsteps, ih]; rfl
theorem rsteps_eight (v c : Nat) (hc : c < 256) : (rsteps 8 (v, c)).1 = cupd v c := by
 have h := rsteps_xor 8 (v, c)
 have h2 := rsteps_snd 8 (v, c)
 simp only at h h2
 rw [show c / 2 ^ 8 = 0 by omega] at h2
 rw [h2, Nat.xor_zero] at h
 exact h
end Go.Proofs.YtlolnakeancenaaDoor

namespace Go.Proofs.YtlolnakeancenaaDoor
open Go.RowKit Go.ChangeShapes Go.WideShapes Go.Joins Go.Deep
set_option linter.unusedVariables false
set_option linter.unusedSimpArgs false
set_option linter.unnecessarySimpa false

section
variable {H : Type} {enc : TypeId × Value → H} {w : World} {base : Nat} {spare : Nat → Bool} {held : Bool}
theorem tsizes_bulk : ∀ (l : List Tree) (ds : List (DataW H)), l.length = ds.length → (∀ (i : Nat) (t : Tree) (d : DataW H), l[i]? = some t → ds[i]? = some d → tsize t ≤ Rows.uptoBulk d) → tsizes l ≤ Rows.uptoBulkAll ds
 | [], ds, _, _ => by simp [tsizes]
 | t :: l, [], h, _ => by simp at h
 | t :: l, d :: ds, h, hi => by
  have h1 := hi 0 t d rfl rfl
  have h2 := tsizes_bulk l ds (by simpa using h) fun i t d ht hd => hi (i + 1) t d (by simpa using ht) (by simpa using hd)
  simp only [tsizes, Rows.uptoBulkAll]
  omega
theorem open_item_trod {f0 f1 f2 f3 : Field} (ht : Tryd.prog.underlying 25 = some (.struct #[f0, f1, f2, f3])) (hone : oneCellFields Tryd.prog #[f0, f1, f2, f3] = true) (hC : Tryd.prog.cellsOf 25 = 4)
  (h0 : Tryd.prog.underlying f0.type = some (.int .i64)) (h1 : Tryd.prog.underlying f1.type = some (.int .u64)) (h2 : Tryd.prog.underlying f2.type = some .string) (h3 : Tryd.prog.underlying f3.type = some (.slice 25)) :
  ∀ (fuel : Nat) (cs : List Value) (x : DataW H × List MemPlace), DataW.trod enc Tryd.prog w base spare held fuel 25 cs = some x → ∃ tr, Holds w tr (.agg cs.toArray) ∧ tsize tr ≤ Rows.uptoBulk x.1 := by
 intro fuel
 induction fuel using Nat.strongRecOn with
 | _ fuel ih =>
  intro cs x h
  obtain ⟨xs, n, hn, rfl, hl, hlen, hf⟩ := DataW.trod_struct ht h
  rw [hC] at hl
  obtain ⟨c0, c1, c2, c3, rfl⟩ := list4 hl
  obtain ⟨y0, y1, y2, y3, rfl⟩ := list4 (show xs.length = 4 by simpa using hlen)
  obtain ⟨o0, k0⟩ := hone_of hone 0 f0 rfl
  obtain ⟨o1, k1⟩ := hone_of hone 1 f1 rfl
  obtain ⟨o2, k2⟩ := hone_of hone 2 f2 rfl
  obtain ⟨o3, k3⟩ := hone_of hone 3 f3 rfl
  have g0 : DataW.trod enc Tryd.prog w base spare held n f0.type [c0] = some y0 := by simpa [o0, k0] using hf 0 f0 rfl
  have g1 : DataW.trod enc Tryd.prog w base spare held n f1.type [c1] = some y1 := by simpa [o1, k1] using hf 1 f1 rfl
  have g2 : DataW.trod enc Tryd.prog w base spare held n f2.type [c2] = some y2 := by simpa [o2, k2] using hf 2 f2 rfl
  have g3 : DataW.trod enc Tryd.prog w base spare held n f3.type [c3] = some y3 := by simpa [o3, k3] using hf 3 f3 rfl
  obtain ⟨a, e0, rfl, wa⟩ := DataW.trod_int h0 g0
  obtain ⟨b, e1, rfl, wb⟩ := DataW.trod_int h1 g1
  obtain ⟨s, e2, rfl, ws⟩ := DataW.trod_string h2 g2
  simp at e0 e1 e2
  subst e0 e1 e2
  have hb := wf_u64 wb
  have hss : s.data.toList.length = s.size := by rw [Array.length_toList]; rfl
  obtain ⟨bn, rfl⟩ := Int.eq_ofNat_of_zero_le hb.1
  rcases DataW.trod_slice h3 g3 with ⟨e3, rfl⟩ | ⟨A, len, cap, elems, rest, q, hq, e3, rfl, hbA, hle, hcap, hel, helem, _, _⟩
  ·simp at e3
   subst e3
   exact ⟨.mk a bn s [], .mk a bn s [] none 0 0 (fun _ => .int .i64 0) wa (by omega) ws rfl (Nat.le_refl _) (Nat.zero_le _) (fun i hi => absurd hi (by omega)) (fun i t hi => by simp at hi), by simp only [List.map_cons, List.map_nil, Rows.uptoBulk, Rows.uptoBulkAll, tsize, tsizes]; omega⟩
  ·simp at e3
   subst e3
   have hex : ∀ i, i < len → ∃ p : Tree × List Value, (Holds w p.1 (.agg p.2.toArray) ∧ ∀ y, elems[i]? = some y → tsize p.1 ≤ Rows.uptoBulk y.1) ∧ ∀ j u, p.2[j]? = some u → w.cell? (A.add (4 * i + j)) = some u := by
    intro i hi
    have key := helem i hi
    rw [List.getElem?_eq_getElem (by omega)] at key
    obtain ⟨cs', h1', h2'⟩ := Option.bind_eq_some_iff.1 key
    obtain ⟨tr, htr, hsz⟩ := ih q (by omega) cs' _ h2'
    obtain ⟨_, hlc, hcell⟩ := World.cells?_some h1'
    refine ⟨(tr, cs'), ⟨htr, fun y hy => ?_⟩, fun j u hu => ?_⟩
    ·rw [List.getElem?_eq_getElem (by omega)] at hy
     injection hy with hy
     rw [← hy]; exact hsz
    have hj : j < Tryd.prog.cellsOf 25 := by
     rw [← hlc]
     rcases Nat.lt_or_ge j cs'.length with h | h
     ·exact h
     ·rw [List.getElem?_eq_none h] at hu; cases hu
    have := hcell j hj
    rw [add_of_add, hC, Nat.mul_comm i 4] at this
    rw [this]; exact hu
   obtain ⟨F, hF⟩ := choose_lt hex
   refine ⟨.mk a bn s ((List.range len).map fun i => (F i).1), .mk a bn s _ (some A) len cap (fun i => .agg (F i).2.toArray) wa (by omega) ws (by simp) hle hcap (fun i hi => ⟨A, rfl, fun j u hu => (hF i hi).2 j u ?_⟩) (fun i t hi => ?_), ?_⟩
   ·simpa [Value.cells] using hu
   ·simp only [List.getElem?_map, Option.map_eq_some_iff] at hi
    obtain ⟨r, hr, rfl⟩ := hi
    obtain ⟨hlt, hv⟩ := List.getElem?_eq_some_iff.1 hr
    simp at hlt hv
    subst hv
    exact (hF i hlt).1.1
   ·have hb2 := tsizes_bulk ((List.range len).map fun i => (F i).1) (elems.map (·.1)) (by simp [hel]) (fun i t d hi hd => by
     simp only [List.getElem?_map, Option.map_eq_some_iff] at hi hd
     obtain ⟨r, hr, rfl⟩ := hi
     obtain ⟨y, hy, rfl⟩ := hd
     obtain ⟨hlt, hv⟩ := List.getElem?_eq_some_iff.1 hr
     simp at hlt hv
     subst hv
     exact (hF i hlt).1.2 y hy)
    simp only [List.map_cons, List.map_nil, Rows.uptoBulk, Rows.uptoBulkAll, tsize]
    omega
set_option maxRecDepth 100000 in
theorem open_item {r : Reach} {b0 : Nat} {v : Value} {d : DataW H} {p : List MemPlace} (hv : Value.okWide Tryd.prog w r b0 25 v) (h : DataW.Trod enc Tryd.prog w base spare held 25 v d p) :
  ∃ t, Holds w t v ∧ tsize t ≤ Rows.uptoBulk d := by
 obtain ⟨cs, rfl, hsz⟩ := okWide_struct Tryd.underlying25 hv
 obtain ⟨fuel, hf⟩ := h
 obtain ⟨tr, h1, h2⟩ := open_item_trod Tryd.underlying25 (by kernel_rfl) (by kernel_rfl) (by kernel_rfl) (by kernel_rfl) (by kernel_rfl) (by kernel_rfl) fuel _ _ hf
 exact ⟨tr, by simpa [Value.cells] using h1, h2⟩
end
end Go.Proofs.YtlolnakeancenaaDoor

namespace Go.Proofs.YtlolnakeancenaaDoor
open Go.RowKit
set_option linter.unusedVariables false
set_option linter.unusedSimpArgs false
set_option maxRecDepth 20000
attribute [local go_sem ↓] Go.wp_at_zero Go.wp_at_succ
attribute [local go_sem] World.cell?_alloc_some frozen_alloc_some
attribute [local go_sem] lt2 lt3 lt4 lt5
attribute [local simp] lt2 lt3 lt4 lt5

def pickV (k n : Int) : Int := if k.tmod n < 0 then k.tmod n + n else k.tmod n
theorem pickV_range {k n : Int} (h : 1 ≤ n) : 0 ≤ pickV k n ∧ pickV k n < n := by
 have h1 := Int.tmod_lt_of_pos k (show 0 < n by omega)
 have h2 : -n < k.tmod n := by
  rcases Int.le_total 0 k with hk | hk
  ·have := Int.tmod_nonneg n hk; omega
  ·have h3 := Int.neg_tmod (-k) n
   have h4 := Int.tmod_lt_of_pos (-k) (show 0 < n by omega)
   have h5 := Int.neg_tmod k n
   omega
 unfold pickV
 split <;> omega
set_option maxHeartbeats 1000000 in
theorem pick_any (k n : Int) (w : World) (h1 : 1 ≤ n) (h2 : n ≤ 1000000000000) (hk : (Lit.int .i64 k).wf = true) :
  Calls Tryd.prog 18 #[.int .i64 k, .int .i64 n] w (Gives w (.int .i64 (pickV k n))) := by
 have k1 := (wf_i64 hk).1
 have k2 := (wf_i64 hk).2
 have h3 := pickV_range (k := k) h1
 have hm := Int.tmod_lt_of_pos k (show 0 < n by omega)
 have hm2 : -n ≤ k.tmod n := by unfold pickV at h3; split at h3 <;> omega
 have hw : wrap64 (k.tmod n) = k.tmod n := by unfold wrap64; omega
 have hw2 : IntKind.i64.wrap (k.tmod n) = k.tmod n := IntWalk.i64_in _ (by omega)
 have hz : (n == 0) = false := by simp; omega
 go_enter Tryd.func18, Tryd.ntmps18
 by_cases hneg : k.tmod n < 0
 ·go_wp2
  go_ret
  refine ⟨ret_int ?_, Below.refl _ _⟩
  unfold pickV
  rw [if_pos hneg]
 ·go_wp2
  go_ret
  refine ⟨ret_int ?_, Below.refl _ _⟩
  unfold pickV
  rw [if_neg (by omega)]

end Go.Proofs.YtlolnakeancenaaDoor
