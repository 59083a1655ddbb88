/- The document: whether commands meet. -/
import Derived.Test.YtpdfbkkhmfnnjaaIndexMeetsQ1
import Derived.Test.YtpdfbkkhmfnnjaaIndexMeetsQ0
import Derived.WalkKit
import Derived.WalkSpells
import Derived.WalkLawsBesides
import Derived.Deep.RegionHeld3
import Derived.Deep.DrawnRows
import Derived.Deep.DeepCutAuto
import Derived.Deep.DeepFit
import Derived.Lib.Hide
import Derived.BigQuiet
import Derived.Deep.QuietTactic
namespace Go.Proofs.Ytpdfbkkhmfnnjaa
open Go.RowKit
set_option linter.unusedVariables false
set_option linter.unusedSimpArgs false
set_option maxRecDepth 20000
attribute [local go_sem ↓] Go.wp_at_zero Go.wp_at_succ
attribute [local go_sem] World.cell?_alloc_some frozen_alloc_some

theorem pre_eq (s p : ByteArray) (h : p.size ≤ s.size) : ((s.extract 0 p.size).toList == p.toList) = isPre s p := by
  have := Lib.hasPrefix_raw s p
  rw [decide_eq_true h, Bool.true_and] at this
  exact this
theorem pre_long (s p : ByteArray) (h : ¬ p.size ≤ s.size) : isPre s p = false := by
  have := Lib.hasPrefix_raw s p
  rw [decide_eq_false h, Bool.false_and] at this
  exact this.symm
theorem dbegins_any (s p : ByteArray) (w : World) (hs : s.size ≤ maxLen) (hp : p.size ≤ maxLen) : Calls Try.prog 70 #[.string s, .string p] w (fun e w' => e = .returned (.bool (isPre s p)) ∧ w' = w) := by
  unfold maxLen at hs hp
  by_cases h : p.size ≤ s.size
  · have h' : (p.size : Int) ≤ (s.size : Int) := by omega
    have h0 : (0 : Int) ≤ (p.size : Int) := by omega
    have he := pre_eq s p h
    rw [← he]
    clear he
    go_enter Try.func70, Try.ntmps70
    go_wp2_with fail
    go_ret
    exact ⟨by first | rfl | simp, rfl⟩
  · have h' : ¬ (p.size : Int) ≤ (s.size : Int) := by omega
    rw [pre_long s p h]
    go_enter Try.func70, Try.ntmps70
    go_wp2_with fail
    go_ret
    exact ⟨rfl, rfl⟩
set_option maxHeartbeats 2000000 in
theorem dwrites_any (k c q : Int) (y x : ByteArray) (r : Int) (w : World) :
    Calls Try.prog 69 #[.agg #[.int .i64 k, .int .i64 c, .int .i64 q, .string y, .string x, .int .i64 r]] w (Gives w (.bool (cwrites k))) := by
  unfold cwrites
  by_cases h2 : k = 2
  · subst h2
    go_enter Try.func69, Try.ntmps69
    go_wp2_with fail
    go_ret
    exact ⟨rfl, by ((repeat' first | with_reducible exact Below.refl _ _ | with_reducible assumption | with_reducible refine Below.alloc ?_ ?_ _ | with_reducible refine Below.setCell ?_ ?_ _ | with_reducible apply Below.drew | with_reducible apply below_drewN | with_reducible refine below_call ?_ (by with_reducible assumption) ?_) <;> (first | omega | (simp; done) | (simp; omega) | (simp at *; omega)))⟩
  · by_cases h3 : k = 3
    · subst h3
      go_enter Try.func69, Try.ntmps69
      go_wp2_with fail
      go_ret
      exact ⟨rfl, by ((repeat' first | with_reducible exact Below.refl _ _ | with_reducible assumption | with_reducible refine Below.alloc ?_ ?_ _ | with_reducible refine Below.setCell ?_ ?_ _ | with_reducible apply Below.drew | with_reducible apply below_drewN | with_reducible refine below_call ?_ (by with_reducible assumption) ?_) <;> (first | omega | (simp; done) | (simp; omega) | (simp at *; omega)))⟩
    · by_cases h4 : k = 4
      · subst h4
        go_enter Try.func69, Try.ntmps69
        go_wp2_with fail
        go_ret
        exact ⟨rfl, by ((repeat' first | with_reducible exact Below.refl _ _ | with_reducible assumption | with_reducible refine Below.alloc ?_ ?_ _ | with_reducible refine Below.setCell ?_ ?_ _ | with_reducible apply Below.drew | with_reducible apply below_drewN | with_reducible refine below_call ?_ (by with_reducible assumption) ?_) <;> (first | omega | (simp; done) | (simp; omega) | (simp at *; omega)))⟩
      · go_enter Try.func69, Try.ntmps69
        go_wp2_with fail
        go_ret
        exact ⟨by simp [h2, h3, h4], by ((repeat' first | with_reducible exact Below.refl _ _ | with_reducible assumption | with_reducible refine Below.alloc ?_ ?_ _ | with_reducible refine Below.setCell ?_ ?_ _ | with_reducible apply Below.drew | with_reducible apply below_drewN | with_reducible refine below_call ?_ (by with_reducible assumption) ?_) <;> (first | omega | (simp; done) | (simp; omega) | (simp at *; omega)))⟩

set_option maxHeartbeats 16000000 in
theorem dmeet_any (ka ca qa : Int) (ya xa : ByteArray) (ra : Int) (kb cb qb : Int) (yb xb : ByteArray) (rb : Int) (w : World) (hya : ya.size ≤ maxLen) (hyb : yb.size ≤ maxLen) :
    Calls Try.prog 38 #[.agg #[.int .i64 ka, .int .i64 ca, .int .i64 qa, .string ya, .string xa, .int .i64 ra], .agg #[.int .i64 kb, .int .i64 cb, .int .i64 qb, .string yb, .string xb, .int .i64 rb]] w (Gives w (.bool (cmeet ka ca ya kb cb yb))) := by
  obtain ⟨R, hR⟩ : ∃ R, R = cmeet ka ca ya kb cb yb := ⟨_, rfl⟩
  rw [← hR]
  have hwa := fun W => dwrites_any ka ca qa ya xa ra W
  have hwb := fun W => dwrites_any kb cb qb yb xb rb W
  have hz1 := fun W => dbegins_any yb ya W hyb hya
  have hz2 := fun W => dbegins_any ya yb W hya hyb
  obtain ⟨p, hp⟩ : ∃ p, p = cwrites ka := ⟨_, rfl⟩
  obtain ⟨q, hq⟩ : ∃ q, q = cwrites kb := ⟨_, rfl⟩
  obtain ⟨u, hu⟩ : ∃ z, z = isPre yb ya := ⟨_, rfl⟩
  obtain ⟨v, hv⟩ : ∃ z, z = isPre ya yb := ⟨_, rfl⟩
  rw [← hp] at hwa
  rw [← hq] at hwb
  rw [← hu] at hz1
  rw [← hv] at hz2
  have HR := Lib.hid (by rw [hR, cmeet, ckeys, ← hp, ← hq, ← hu, ← hv] : R = if ka = 0 ∨ kb = 0 then false else if ka = 6 ∨ kb = 6 ∨ ca = cb then true else (p || q) && (decide (ya = yb) || (ka == 5 && u) || (kb == 5 && v)))
  clear hp hq hu hv hR hya hyb
  by_cases h1 : ka = 0
  · subst h1
    go_enter Try.func38, Try.ntmps38
    go_wp2_with fail
    go_ret
    exact ⟨by first | rfl | (rw [HR.out]; simp [*]), by ((repeat' first | with_reducible exact Below.refl _ _ | with_reducible assumption | with_reducible refine Below.alloc ?_ ?_ _ | with_reducible refine Below.setCell ?_ ?_ _ | with_reducible apply Below.drew | with_reducible apply below_drewN | with_reducible refine below_call ?_ (by with_reducible assumption) ?_) <;> (first | omega | (simp; done) | (simp; omega) | (simp at *; omega)))⟩
  · have h12 : (ka == (0 : Int)) = false := by simp [h1]
    by_cases h2 : kb = 0
    · subst h2
      go_enter Try.func38, Try.ntmps38
      go_wp2_with fail
      go_ret
      exact ⟨by first | rfl | (rw [HR.out]; simp [*]), by ((repeat' first | with_reducible exact Below.refl _ _ | with_reducible assumption | with_reducible refine Below.alloc ?_ ?_ _ | with_reducible refine Below.setCell ?_ ?_ _ | with_reducible apply Below.drew | with_reducible apply below_drewN | with_reducible refine below_call ?_ (by with_reducible assumption) ?_) <;> (first | omega | (simp; done) | (simp; omega) | (simp at *; omega)))⟩
    · have h22 : (kb == (0 : Int)) = false := by simp [h2]
      by_cases h3 : ka = 6
      · subst h3
        go_enter Try.func38, Try.ntmps38
        go_wp2_with fail
        go_ret
        exact ⟨by first | rfl | (rw [HR.out]; simp [*]), by ((repeat' first | with_reducible exact Below.refl _ _ | with_reducible assumption | with_reducible refine Below.alloc ?_ ?_ _ | with_reducible refine Below.setCell ?_ ?_ _ | with_reducible apply Below.drew | with_reducible apply below_drewN | with_reducible refine below_call ?_ (by with_reducible assumption) ?_) <;> (first | omega | (simp; done) | (simp; omega) | (simp at *; omega)))⟩
      · have h32 : (ka == (6 : Int)) = false := by simp [h3]
        by_cases h4 : kb = 6
        · subst h4
          go_enter Try.func38, Try.ntmps38
          go_wp2_with fail
          go_ret
          exact ⟨by first | rfl | (rw [HR.out]; simp [*]), by ((repeat' first | with_reducible exact Below.refl _ _ | with_reducible assumption | with_reducible refine Below.alloc ?_ ?_ _ | with_reducible refine Below.setCell ?_ ?_ _ | with_reducible apply Below.drew | with_reducible apply below_drewN | with_reducible refine below_call ?_ (by with_reducible assumption) ?_) <;> (first | omega | (simp; done) | (simp; omega) | (simp at *; omega)))⟩
        · have h42 : (kb == (6 : Int)) = false := by simp [h4]
          by_cases h5 : ca = cb
          · subst h5
            go_enter Try.func38, Try.ntmps38
            go_wp2_with fail
            go_ret
            exact ⟨by first | rfl | (rw [HR.out]; simp [*]), by ((repeat' first | with_reducible exact Below.refl _ _ | with_reducible assumption | with_reducible refine Below.alloc ?_ ?_ _ | with_reducible refine Below.setCell ?_ ?_ _ | with_reducible apply Below.drew | with_reducible apply below_drewN | with_reducible refine below_call ?_ (by with_reducible assumption) ?_) <;> (first | omega | (simp; done) | (simp; omega) | (simp at *; omega)))⟩
          · have h52 : (ca == cb) = false := by simp [h5]
            cases p
            · cases q
              · go_enter Try.func38, Try.ntmps38
                go_wp2_with fail
                refine (hwa _).mono ?_
                rintro e wl0 ⟨rfl, hbl0⟩
                have zl0 := hbl0.size
                (try simp at zl0)
                have ma0 := cell_keep hbl0 (cell_alloc (o := (.cells #[.int .i64 kb, .int .i64 cb, .int .i64 qb, .string yb, .string xb, .int .i64 rb] 24)) (new_cell w #[.int .i64 ka, .int .i64 ca, .int .i64 qa, .string ya, .string xa, .int .i64 ra] 24 0 rfl).1)
                (try simp at ma0)
                have ma1 := cell_keep hbl0 (cell_alloc (o := (.cells #[.int .i64 kb, .int .i64 cb, .int .i64 qb, .string yb, .string xb, .int .i64 rb] 24)) (new_cell w #[.int .i64 ka, .int .i64 ca, .int .i64 qa, .string ya, .string xa, .int .i64 ra] 24 1 rfl).1)
                (try simp at ma1)
                have ma2 := cell_keep hbl0 (cell_alloc (o := (.cells #[.int .i64 kb, .int .i64 cb, .int .i64 qb, .string yb, .string xb, .int .i64 rb] 24)) (new_cell w #[.int .i64 ka, .int .i64 ca, .int .i64 qa, .string ya, .string xa, .int .i64 ra] 24 2 rfl).1)
                (try simp at ma2)
                have ma3 := cell_keep hbl0 (cell_alloc (o := (.cells #[.int .i64 kb, .int .i64 cb, .int .i64 qb, .string yb, .string xb, .int .i64 rb] 24)) (new_cell w #[.int .i64 ka, .int .i64 ca, .int .i64 qa, .string ya, .string xa, .int .i64 ra] 24 3 rfl).1)
                (try simp at ma3)
                have ma4 := cell_keep hbl0 (cell_alloc (o := (.cells #[.int .i64 kb, .int .i64 cb, .int .i64 qb, .string yb, .string xb, .int .i64 rb] 24)) (new_cell w #[.int .i64 ka, .int .i64 ca, .int .i64 qa, .string ya, .string xa, .int .i64 ra] 24 4 rfl).1)
                (try simp at ma4)
                have ma5 := cell_keep hbl0 (cell_alloc (o := (.cells #[.int .i64 kb, .int .i64 cb, .int .i64 qb, .string yb, .string xb, .int .i64 rb] 24)) (new_cell w #[.int .i64 ka, .int .i64 ca, .int .i64 qa, .string ya, .string xa, .int .i64 ra] 24 5 rfl).1)
                (try simp at ma5)
                have mb0 := cell_keep hbl0 (new_cell (w.alloc (.cells #[.int .i64 ka, .int .i64 ca, .int .i64 qa, .string ya, .string xa, .int .i64 ra] 24)) #[.int .i64 kb, .int .i64 cb, .int .i64 qb, .string yb, .string xb, .int .i64 rb] 24 0 rfl).1
                (try simp at mb0)
                have mb1 := cell_keep hbl0 (new_cell (w.alloc (.cells #[.int .i64 ka, .int .i64 ca, .int .i64 qa, .string ya, .string xa, .int .i64 ra] 24)) #[.int .i64 kb, .int .i64 cb, .int .i64 qb, .string yb, .string xb, .int .i64 rb] 24 1 rfl).1
                (try simp at mb1)
                have mb2 := cell_keep hbl0 (new_cell (w.alloc (.cells #[.int .i64 ka, .int .i64 ca, .int .i64 qa, .string ya, .string xa, .int .i64 ra] 24)) #[.int .i64 kb, .int .i64 cb, .int .i64 qb, .string yb, .string xb, .int .i64 rb] 24 2 rfl).1
                (try simp at mb2)
                have mb3 := cell_keep hbl0 (new_cell (w.alloc (.cells #[.int .i64 ka, .int .i64 ca, .int .i64 qa, .string ya, .string xa, .int .i64 ra] 24)) #[.int .i64 kb, .int .i64 cb, .int .i64 qb, .string yb, .string xb, .int .i64 rb] 24 3 rfl).1
                (try simp at mb3)
                have mb4 := cell_keep hbl0 (new_cell (w.alloc (.cells #[.int .i64 ka, .int .i64 ca, .int .i64 qa, .string ya, .string xa, .int .i64 ra] 24)) #[.int .i64 kb, .int .i64 cb, .int .i64 qb, .string yb, .string xb, .int .i64 rb] 24 4 rfl).1
                (try simp at mb4)
                have mb5 := cell_keep hbl0 (new_cell (w.alloc (.cells #[.int .i64 ka, .int .i64 ca, .int .i64 qa, .string ya, .string xa, .int .i64 ra] 24)) #[.int .i64 kb, .int .i64 cb, .int .i64 qb, .string yb, .string xb, .int .i64 rb] 24 5 rfl).1
                (try simp at mb5)
                go_wp2_with fail
                refine (hwb _).mono ?_
                rintro e wl1 ⟨rfl, hbl1⟩
                have zl1 := hbl1.size
                (try simp at zl1)
                replace ma0 := cell_keep hbl1 ma0
                replace ma1 := cell_keep hbl1 ma1
                replace ma2 := cell_keep hbl1 ma2
                replace ma3 := cell_keep hbl1 ma3
                replace ma4 := cell_keep hbl1 ma4
                replace ma5 := cell_keep hbl1 ma5
                replace mb0 := cell_keep hbl1 mb0
                replace mb1 := cell_keep hbl1 mb1
                replace mb2 := cell_keep hbl1 mb2
                replace mb3 := cell_keep hbl1 mb3
                replace mb4 := cell_keep hbl1 mb4
                replace mb5 := cell_keep hbl1 mb5
                go_wp2_with fail
                go_ret
                exact ⟨by first | rfl | (rw [HR.out]; simp [*]), by ((repeat' first | with_reducible exact Below.refl _ _ | with_reducible assumption | with_reducible refine Below.alloc ?_ ?_ _ | with_reducible refine Below.setCell ?_ ?_ _ | with_reducible apply Below.drew | with_reducible apply below_drewN | with_reducible refine below_call ?_ (by with_reducible assumption) ?_) <;> (first | omega | (simp; done) | (simp; omega) | (simp at *; omega)))⟩
              · by_cases hy : ya.toList = yb.toList
                · have hy3 : (ya.toList == yb.toList) = true := by simp [hy]
                  have hy4 : decide (ya = yb) = true := by simp [text_inj hy]
                  clear hy
                  go_enter Try.func38, Try.ntmps38
                  go_wp2_with fail
                  refine (hwa _).mono ?_
                  rintro e wl0 ⟨rfl, hbl0⟩
                  have zl0 := hbl0.size
                  (try simp at zl0)
                  have ma0 := cell_keep hbl0 (cell_alloc (o := (.cells #[.int .i64 kb, .int .i64 cb, .int .i64 qb, .string yb, .string xb, .int .i64 rb] 24)) (new_cell w #[.int .i64 ka, .int .i64 ca, .int .i64 qa, .string ya, .string xa, .int .i64 ra] 24 0 rfl).1)
                  (try simp at ma0)
                  have ma1 := cell_keep hbl0 (cell_alloc (o := (.cells #[.int .i64 kb, .int .i64 cb, .int .i64 qb, .string yb, .string xb, .int .i64 rb] 24)) (new_cell w #[.int .i64 ka, .int .i64 ca, .int .i64 qa, .string ya, .string xa, .int .i64 ra] 24 1 rfl).1)
                  (try simp at ma1)
                  have ma2 := cell_keep hbl0 (cell_alloc (o := (.cells #[.int .i64 kb, .int .i64 cb, .int .i64 qb, .string yb, .string xb, .int .i64 rb] 24)) (new_cell w #[.int .i64 ka, .int .i64 ca, .int .i64 qa, .string ya, .string xa, .int .i64 ra] 24 2 rfl).1)
                  (try simp at ma2)
                  have ma3 := cell_keep hbl0 (cell_alloc (o := (.cells #[.int .i64 kb, .int .i64 cb, .int .i64 qb, .string yb, .string xb, .int .i64 rb] 24)) (new_cell w #[.int .i64 ka, .int .i64 ca, .int .i64 qa, .string ya, .string xa, .int .i64 ra] 24 3 rfl).1)
                  (try simp at ma3)
                  have ma4 := cell_keep hbl0 (cell_alloc (o := (.cells #[.int .i64 kb, .int .i64 cb, .int .i64 qb, .string yb, .string xb, .int .i64 rb] 24)) (new_cell w #[.int .i64 ka, .int .i64 ca, .int .i64 qa, .string ya, .string xa, .int .i64 ra] 24 4 rfl).1)
                  (try simp at ma4)
                  have ma5 := cell_keep hbl0 (cell_alloc (o := (.cells #[.int .i64 kb, .int .i64 cb, .int .i64 qb, .string yb, .string xb, .int .i64 rb] 24)) (new_cell w #[.int .i64 ka, .int .i64 ca, .int .i64 qa, .string ya, .string xa, .int .i64 ra] 24 5 rfl).1)
                  (try simp at ma5)
                  have mb0 := cell_keep hbl0 (new_cell (w.alloc (.cells #[.int .i64 ka, .int .i64 ca, .int .i64 qa, .string ya, .string xa, .int .i64 ra] 24)) #[.int .i64 kb, .int .i64 cb, .int .i64 qb, .string yb, .string xb, .int .i64 rb] 24 0 rfl).1
                  (try simp at mb0)
                  have mb1 := cell_keep hbl0 (new_cell (w.alloc (.cells #[.int .i64 ka, .int .i64 ca, .int .i64 qa, .string ya, .string xa, .int .i64 ra] 24)) #[.int .i64 kb, .int .i64 cb, .int .i64 qb, .string yb, .string xb, .int .i64 rb] 24 1 rfl).1
                  (try simp at mb1)
                  have mb2 := cell_keep hbl0 (new_cell (w.alloc (.cells #[.int .i64 ka, .int .i64 ca, .int .i64 qa, .string ya, .string xa, .int .i64 ra] 24)) #[.int .i64 kb, .int .i64 cb, .int .i64 qb, .string yb, .string xb, .int .i64 rb] 24 2 rfl).1
                  (try simp at mb2)
                  have mb3 := cell_keep hbl0 (new_cell (w.alloc (.cells #[.int .i64 ka, .int .i64 ca, .int .i64 qa, .string ya, .string xa, .int .i64 ra] 24)) #[.int .i64 kb, .int .i64 cb, .int .i64 qb, .string yb, .string xb, .int .i64 rb] 24 3 rfl).1
                  (try simp at mb3)
                  have mb4 := cell_keep hbl0 (new_cell (w.alloc (.cells #[.int .i64 ka, .int .i64 ca, .int .i64 qa, .string ya, .string xa, .int .i64 ra] 24)) #[.int .i64 kb, .int .i64 cb, .int .i64 qb, .string yb, .string xb, .int .i64 rb] 24 4 rfl).1
                  (try simp at mb4)
                  have mb5 := cell_keep hbl0 (new_cell (w.alloc (.cells #[.int .i64 ka, .int .i64 ca, .int .i64 qa, .string ya, .string xa, .int .i64 ra] 24)) #[.int .i64 kb, .int .i64 cb, .int .i64 qb, .string yb, .string xb, .int .i64 rb] 24 5 rfl).1
                  (try simp at mb5)
                  go_wp2_with fail
                  refine (hwb _).mono ?_
                  rintro e wl1 ⟨rfl, hbl1⟩
                  have zl1 := hbl1.size
                  (try simp at zl1)
                  replace ma0 := cell_keep hbl1 ma0
                  replace ma1 := cell_keep hbl1 ma1
                  replace ma2 := cell_keep hbl1 ma2
                  replace ma3 := cell_keep hbl1 ma3
                  replace ma4 := cell_keep hbl1 ma4
                  replace ma5 := cell_keep hbl1 ma5
                  replace mb0 := cell_keep hbl1 mb0
                  replace mb1 := cell_keep hbl1 mb1
                  replace mb2 := cell_keep hbl1 mb2
                  replace mb3 := cell_keep hbl1 mb3
                  replace mb4 := cell_keep hbl1 mb4
                  replace mb5 := cell_keep hbl1 mb5
                  go_wp2_with fail
                  go_ret
                  exact ⟨by first | rfl | (rw [HR.out]; simp [*]), by ((repeat' first | with_reducible exact Below.refl _ _ | with_reducible assumption | with_reducible refine Below.alloc ?_ ?_ _ | with_reducible refine Below.setCell ?_ ?_ _ | with_reducible apply Below.drew | with_reducible apply below_drewN | with_reducible refine below_call ?_ (by with_reducible assumption) ?_) <;> (first | omega | (simp; done) | (simp; omega) | (simp at *; omega)))⟩
                · have hy3 : (ya.toList == yb.toList) = false := by simpa using hy
                  have hy4 : decide (ya = yb) = false := by simp; intro e; exact hy (by rw [e])
                  by_cases ha : ka = 5
                  · have ha2 : (ka == (5 : Int)) = true := by simp [ha]
                    clear ha
                    cases u
                    · by_cases hb : kb = 5
                      · have hb2 : (kb == (5 : Int)) = true := by simp [hb]
                        clear hb
                        go_enter Try.func38, Try.ntmps38
                        go_wp2_with fail
                        refine (hwa _).mono ?_
                        rintro e wl0 ⟨rfl, hbl0⟩
                        have zl0 := hbl0.size
                        (try simp at zl0)
                        have ma0 := cell_keep hbl0 (cell_alloc (o := (.cells #[.int .i64 kb, .int .i64 cb, .int .i64 qb, .string yb, .string xb, .int .i64 rb] 24)) (new_cell w #[.int .i64 ka, .int .i64 ca, .int .i64 qa, .string ya, .string xa, .int .i64 ra] 24 0 rfl).1)
                        (try simp at ma0)
                        have ma1 := cell_keep hbl0 (cell_alloc (o := (.cells #[.int .i64 kb, .int .i64 cb, .int .i64 qb, .string yb, .string xb, .int .i64 rb] 24)) (new_cell w #[.int .i64 ka, .int .i64 ca, .int .i64 qa, .string ya, .string xa, .int .i64 ra] 24 1 rfl).1)
                        (try simp at ma1)
                        have ma2 := cell_keep hbl0 (cell_alloc (o := (.cells #[.int .i64 kb, .int .i64 cb, .int .i64 qb, .string yb, .string xb, .int .i64 rb] 24)) (new_cell w #[.int .i64 ka, .int .i64 ca, .int .i64 qa, .string ya, .string xa, .int .i64 ra] 24 2 rfl).1)
                        (try simp at ma2)
                        have ma3 := cell_keep hbl0 (cell_alloc (o := (.cells #[.int .i64 kb, .int .i64 cb, .int .i64 qb, .string yb, .string xb, .int .i64 rb] 24)) (new_cell w #[.int .i64 ka, .int .i64 ca, .int .i64 qa, .string ya, .string xa, .int .i64 ra] 24 3 rfl).1)
                        (try simp at ma3)
                        have ma4 := cell_keep hbl0 (cell_alloc (o := (.cells #[.int .i64 kb, .int .i64 cb, .int .i64 qb, .string yb, .string xb, .int .i64 rb] 24)) (new_cell w #[.int .i64 ka, .int .i64 ca, .int .i64 qa, .string ya, .string xa, .int .i64 ra] 24 4 rfl).1)
                        (try simp at ma4)
                        have ma5 := cell_keep hbl0 (cell_alloc (o := (.cells #[.int .i64 kb, .int .i64 cb, .int .i64 qb, .string yb, .string xb, .int .i64 rb] 24)) (new_cell w #[.int .i64 ka, .int .i64 ca, .int .i64 qa, .string ya, .string xa, .int .i64 ra] 24 5 rfl).1)
                        (try simp at ma5)
                        have mb0 := cell_keep hbl0 (new_cell (w.alloc (.cells #[.int .i64 ka, .int .i64 ca, .int .i64 qa, .string ya, .string xa, .int .i64 ra] 24)) #[.int .i64 kb, .int .i64 cb, .int .i64 qb, .string yb, .string xb, .int .i64 rb] 24 0 rfl).1
                        (try simp at mb0)
                        have mb1 := cell_keep hbl0 (new_cell (w.alloc (.cells #[.int .i64 ka, .int .i64 ca, .int .i64 qa, .string ya, .string xa, .int .i64 ra] 24)) #[.int .i64 kb, .int .i64 cb, .int .i64 qb, .string yb, .string xb, .int .i64 rb] 24 1 rfl).1
                        (try simp at mb1)
                        have mb2 := cell_keep hbl0 (new_cell (w.alloc (.cells #[.int .i64 ka, .int .i64 ca, .int .i64 qa, .string ya, .string xa, .int .i64 ra] 24)) #[.int .i64 kb, .int .i64 cb, .int .i64 qb, .string yb, .string xb, .int .i64 rb] 24 2 rfl).1
                        (try simp at mb2)
                        have mb3 := cell_keep hbl0 (new_cell (w.alloc (.cells #[.int .i64 ka, .int .i64 ca, .int .i64 qa, .string ya, .string xa, .int .i64 ra] 24)) #[.int .i64 kb, .int .i64 cb, .int .i64 qb, .string yb, .string xb, .int .i64 rb] 24 3 rfl).1
                        (try simp at mb3)
                        have mb4 := cell_keep hbl0 (new_cell (w.alloc (.cells #[.int .i64 ka, .int .i64 ca, .int .i64 qa, .string ya, .string xa, .int .i64 ra] 24)) #[.int .i64 kb, .int .i64 cb, .int .i64 qb, .string yb, .string xb, .int .i64 rb] 24 4 rfl).1
                        (try simp at mb4)
                        have mb5 := cell_keep hbl0 (new_cell (w.alloc (.cells #[.int .i64 ka, .int .i64 ca, .int .i64 qa, .string ya, .string xa, .int .i64 ra] 24)) #[.int .i64 kb, .int .i64 cb, .int .i64 qb, .string yb, .string xb, .int .i64 rb] 24 5 rfl).1
                        (try simp at mb5)
                        go_wp2_with fail
                        refine (hwb _).mono ?_
                        rintro e wl1 ⟨rfl, hbl1⟩
                        have zl1 := hbl1.size
                        (try simp at zl1)
                        replace ma0 := cell_keep hbl1 ma0
                        replace ma1 := cell_keep hbl1 ma1
                        replace ma2 := cell_keep hbl1 ma2
                        replace ma3 := cell_keep hbl1 ma3
                        replace ma4 := cell_keep hbl1 ma4
                        replace ma5 := cell_keep hbl1 ma5
                        replace mb0 := cell_keep hbl1 mb0
                        replace mb1 := cell_keep hbl1 mb1
                        replace mb2 := cell_keep hbl1 mb2
                        replace mb3 := cell_keep hbl1 mb3
                        replace mb4 := cell_keep hbl1 mb4
                        replace mb5 := cell_keep hbl1 mb5
                        go_wp2_with fail
                        refine (hz1 _).mono ?_
                        rintro e wl2 ⟨rfl, rfl⟩
                        go_wp2_with fail
                        refine (hz2 _).mono ?_
                        rintro e wl3 ⟨rfl, rfl⟩
                        go_wp2_with fail
                        go_ret
                        exact ⟨by first | rfl | (rw [HR.out]; simp [*]), by ((repeat' first | with_reducible exact Below.refl _ _ | with_reducible assumption | with_reducible refine Below.alloc ?_ ?_ _ | with_reducible refine Below.setCell ?_ ?_ _ | with_reducible apply Below.drew | with_reducible apply below_drewN | with_reducible refine below_call ?_ (by with_reducible assumption) ?_) <;> (first | omega | (simp; done) | (simp; omega) | (simp at *; omega)))⟩
                      · have hb2 : (kb == (5 : Int)) = false := by simp [hb]
                        go_enter Try.func38, Try.ntmps38
                        go_wp2_with fail
                        refine (hwa _).mono ?_
                        rintro e wl0 ⟨rfl, hbl0⟩
                        have zl0 := hbl0.size
                        (try simp at zl0)
                        have ma0 := cell_keep hbl0 (cell_alloc (o := (.cells #[.int .i64 kb, .int .i64 cb, .int .i64 qb, .string yb, .string xb, .int .i64 rb] 24)) (new_cell w #[.int .i64 ka, .int .i64 ca, .int .i64 qa, .string ya, .string xa, .int .i64 ra] 24 0 rfl).1)
                        (try simp at ma0)
                        have ma1 := cell_keep hbl0 (cell_alloc (o := (.cells #[.int .i64 kb, .int .i64 cb, .int .i64 qb, .string yb, .string xb, .int .i64 rb] 24)) (new_cell w #[.int .i64 ka, .int .i64 ca, .int .i64 qa, .string ya, .string xa, .int .i64 ra] 24 1 rfl).1)
                        (try simp at ma1)
                        have ma2 := cell_keep hbl0 (cell_alloc (o := (.cells #[.int .i64 kb, .int .i64 cb, .int .i64 qb, .string yb, .string xb, .int .i64 rb] 24)) (new_cell w #[.int .i64 ka, .int .i64 ca, .int .i64 qa, .string ya, .string xa, .int .i64 ra] 24 2 rfl).1)
                        (try simp at ma2)
                        have ma3 := cell_keep hbl0 (cell_alloc (o := (.cells #[.int .i64 kb, .int .i64 cb, .int .i64 qb, .string yb, .string xb, .int .i64 rb] 24)) (new_cell w #[.int .i64 ka, .int .i64 ca, .int .i64 qa, .string ya, .string xa, .int .i64 ra] 24 3 rfl).1)
                        (try simp at ma3)
                        have ma4 := cell_keep hbl0 (cell_alloc (o := (.cells #[.int .i64 kb, .int .i64 cb, .int .i64 qb, .string yb, .string xb, .int .i64 rb] 24)) (new_cell w #[.int .i64 ka, .int .i64 ca, .int .i64 qa, .string ya, .string xa, .int .i64 ra] 24 4 rfl).1)
                        (try simp at ma4)
                        have ma5 := cell_keep hbl0 (cell_alloc (o := (.cells #[.int .i64 kb, .int .i64 cb, .int .i64 qb, .string yb, .string xb, .int .i64 rb] 24)) (new_cell w #[.int .i64 ka, .int .i64 ca, .int .i64 qa, .string ya, .string xa, .int .i64 ra] 24 5 rfl).1)
                        (try simp at ma5)
                        have mb0 := cell_keep hbl0 (new_cell (w.alloc (.cells #[.int .i64 ka, .int .i64 ca, .int .i64 qa, .string ya, .string xa, .int .i64 ra] 24)) #[.int .i64 kb, .int .i64 cb, .int .i64 qb, .string yb, .string xb, .int .i64 rb] 24 0 rfl).1
                        (try simp at mb0)
                        have mb1 := cell_keep hbl0 (new_cell (w.alloc (.cells #[.int .i64 ka, .int .i64 ca, .int .i64 qa, .string ya, .string xa, .int .i64 ra] 24)) #[.int .i64 kb, .int .i64 cb, .int .i64 qb, .string yb, .string xb, .int .i64 rb] 24 1 rfl).1
                        (try simp at mb1)
                        have mb2 := cell_keep hbl0 (new_cell (w.alloc (.cells #[.int .i64 ka, .int .i64 ca, .int .i64 qa, .string ya, .string xa, .int .i64 ra] 24)) #[.int .i64 kb, .int .i64 cb, .int .i64 qb, .string yb, .string xb, .int .i64 rb] 24 2 rfl).1
                        (try simp at mb2)
                        have mb3 := cell_keep hbl0 (new_cell (w.alloc (.cells #[.int .i64 ka, .int .i64 ca, .int .i64 qa, .string ya, .string xa, .int .i64 ra] 24)) #[.int .i64 kb, .int .i64 cb, .int .i64 qb, .string yb, .string xb, .int .i64 rb] 24 3 rfl).1
                        (try simp at mb3)
                        have mb4 := cell_keep hbl0 (new_cell (w.alloc (.cells #[.int .i64 ka, .int .i64 ca, .int .i64 qa, .string ya, .string xa, .int .i64 ra] 24)) #[.int .i64 kb, .int .i64 cb, .int .i64 qb, .string yb, .string xb, .int .i64 rb] 24 4 rfl).1
                        (try simp at mb4)
                        have mb5 := cell_keep hbl0 (new_cell (w.alloc (.cells #[.int .i64 ka, .int .i64 ca, .int .i64 qa, .string ya, .string xa, .int .i64 ra] 24)) #[.int .i64 kb, .int .i64 cb, .int .i64 qb, .string yb, .string xb, .int .i64 rb] 24 5 rfl).1
                        (try simp at mb5)
                        go_wp2_with fail
                        refine (hwb _).mono ?_
                        rintro e wl1 ⟨rfl, hbl1⟩
                        have zl1 := hbl1.size
                        (try simp at zl1)
                        replace ma0 := cell_keep hbl1 ma0
                        replace ma1 := cell_keep hbl1 ma1
                        replace ma2 := cell_keep hbl1 ma2
                        replace ma3 := cell_keep hbl1 ma3
                        replace ma4 := cell_keep hbl1 ma4
                        replace ma5 := cell_keep hbl1 ma5
                        replace mb0 := cell_keep hbl1 mb0
                        replace mb1 := cell_keep hbl1 mb1
                        replace mb2 := cell_keep hbl1 mb2
                        replace mb3 := cell_keep hbl1 mb3
                        replace mb4 := cell_keep hbl1 mb4
                        replace mb5 := cell_keep hbl1 mb5
                        go_wp2_with fail
                        refine (hz1 _).mono ?_
                        rintro e wl2 ⟨rfl, rfl⟩
                        go_wp2_with fail
                        go_ret
                        exact ⟨by first | rfl | (rw [HR.out]; simp [*]), by ((repeat' first | with_reducible exact Below.refl _ _ | with_reducible assumption | with_reducible refine Below.alloc ?_ ?_ _ | with_reducible refine Below.setCell ?_ ?_ _ | with_reducible apply Below.drew | with_reducible apply below_drewN | with_reducible refine below_call ?_ (by with_reducible assumption) ?_) <;> (first | omega | (simp; done) | (simp; omega) | (simp at *; omega)))⟩
                    · go_enter Try.func38, Try.ntmps38
                      go_wp2_with fail
                      refine (hwa _).mono ?_
                      rintro e wl0 ⟨rfl, hbl0⟩
                      have zl0 := hbl0.size
                      (try simp at zl0)
                      have ma0 := cell_keep hbl0 (cell_alloc (o := (.cells #[.int .i64 kb, .int .i64 cb, .int .i64 qb, .string yb, .string xb, .int .i64 rb] 24)) (new_cell w #[.int .i64 ka, .int .i64 ca, .int .i64 qa, .string ya, .string xa, .int .i64 ra] 24 0 rfl).1)
                      (try simp at ma0)
                      have ma1 := cell_keep hbl0 (cell_alloc (o := (.cells #[.int .i64 kb, .int .i64 cb, .int .i64 qb, .string yb, .string xb, .int .i64 rb] 24)) (new_cell w #[.int .i64 ka, .int .i64 ca, .int .i64 qa, .string ya, .string xa, .int .i64 ra] 24 1 rfl).1)
                      (try simp at ma1)
                      have ma2 := cell_keep hbl0 (cell_alloc (o := (.cells #[.int .i64 kb, .int .i64 cb, .int .i64 qb, .string yb, .string xb, .int .i64 rb] 24)) (new_cell w #[.int .i64 ka, .int .i64 ca, .int .i64 qa, .string ya, .string xa, .int .i64 ra] 24 2 rfl).1)
                      (try simp at ma2)
                      have ma3 := cell_keep hbl0 (cell_alloc (o := (.cells #[.int .i64 kb, .int .i64 cb, .int .i64 qb, .string yb, .string xb, .int .i64 rb] 24)) (new_cell w #[.int .i64 ka, .int .i64 ca, .int .i64 qa, .string ya, .string xa, .int .i64 ra] 24 3 rfl).1)
                      (try simp at ma3)
                      have ma4 := cell_keep hbl0 (cell_alloc (o := (.cells #[.int .i64 kb, .int .i64 cb, .int .i64 qb, .string yb, .string xb, .int .i64 rb] 24)) (new_cell w #[.int .i64 ka, .int .i64 ca, .int .i64 qa, .string ya, .string xa, .int .i64 ra] 24 4 rfl).1)
                      (try simp at ma4)
                      have ma5 := cell_keep hbl0 (cell_alloc (o := (.cells #[.int .i64 kb, .int .i64 cb, .int .i64 qb, .string yb, .string xb, .int .i64 rb] 24)) (new_cell w #[.int .i64 ka, .int .i64 ca, .int .i64 qa, .string ya, .string xa, .int .i64 ra] 24 5 rfl).1)
                      (try simp at ma5)
                      have mb0 := cell_keep hbl0 (new_cell (w.alloc (.cells #[.int .i64 ka, .int .i64 ca, .int .i64 qa, .string ya, .string xa, .int .i64 ra] 24)) #[.int .i64 kb, .int .i64 cb, .int .i64 qb, .string yb, .string xb, .int .i64 rb] 24 0 rfl).1
                      (try simp at mb0)
                      have mb1 := cell_keep hbl0 (new_cell (w.alloc (.cells #[.int .i64 ka, .int .i64 ca, .int .i64 qa, .string ya, .string xa, .int .i64 ra] 24)) #[.int .i64 kb, .int .i64 cb, .int .i64 qb, .string yb, .string xb, .int .i64 rb] 24 1 rfl).1
                      (try simp at mb1)
                      have mb2 := cell_keep hbl0 (new_cell (w.alloc (.cells #[.int .i64 ka, .int .i64 ca, .int .i64 qa, .string ya, .string xa, .int .i64 ra] 24)) #[.int .i64 kb, .int .i64 cb, .int .i64 qb, .string yb, .string xb, .int .i64 rb] 24 2 rfl).1
                      (try simp at mb2)
                      have mb3 := cell_keep hbl0 (new_cell (w.alloc (.cells #[.int .i64 ka, .int .i64 ca, .int .i64 qa, .string ya, .string xa, .int .i64 ra] 24)) #[.int .i64 kb, .int .i64 cb, .int .i64 qb, .string yb, .string xb, .int .i64 rb] 24 3 rfl).1
                      (try simp at mb3)
                      have mb4 := cell_keep hbl0 (new_cell (w.alloc (.cells #[.int .i64 ka, .int .i64 ca, .int .i64 qa, .string ya, .string xa, .int .i64 ra] 24)) #[.int .i64 kb, .int .i64 cb, .int .i64 qb, .string yb, .string xb, .int .i64 rb] 24 4 rfl).1
                      (try simp at mb4)
                      have mb5 := cell_keep hbl0 (new_cell (w.alloc (.cells #[.int .i64 ka, .int .i64 ca, .int .i64 qa, .string ya, .string xa, .int .i64 ra] 24)) #[.int .i64 kb, .int .i64 cb, .int .i64 qb, .string yb, .string xb, .int .i64 rb] 24 5 rfl).1
                      (try simp at mb5)
                      go_wp2_with fail
                      refine (hwb _).mono ?_
                      rintro e wl1 ⟨rfl, hbl1⟩
                      have zl1 := hbl1.size
                      (try simp at zl1)
                      replace ma0 := cell_keep hbl1 ma0
                      replace ma1 := cell_keep hbl1 ma1
                      replace ma2 := cell_keep hbl1 ma2
                      replace ma3 := cell_keep hbl1 ma3
                      replace ma4 := cell_keep hbl1 ma4
                      replace ma5 := cell_keep hbl1 ma5
                      replace mb0 := cell_keep hbl1 mb0
                      replace mb1 := cell_keep hbl1 mb1
                      replace mb2 := cell_keep hbl1 mb2
                      replace mb3 := cell_keep hbl1 mb3
                      replace mb4 := cell_keep hbl1 mb4
                      replace mb5 := cell_keep hbl1 mb5
                      go_wp2_with fail
                      refine (hz1 _).mono ?_
                      rintro e wl2 ⟨rfl, rfl⟩
                      go_wp2_with fail
                      go_ret
                      exact ⟨by first | rfl | (rw [HR.out]; simp [*]), by ((repeat' first | with_reducible exact Below.refl _ _ | with_reducible assumption | with_reducible refine Below.alloc ?_ ?_ _ | with_reducible refine Below.setCell ?_ ?_ _ | with_reducible apply Below.drew | with_reducible apply below_drewN | with_reducible refine below_call ?_ (by with_reducible assumption) ?_) <;> (first | omega | (simp; done) | (simp; omega) | (simp at *; omega)))⟩
                  · have ha2 : (ka == (5 : Int)) = false := by simp [ha]
                    by_cases hb : kb = 5
                    · have hb2 : (kb == (5 : Int)) = true := by simp [hb]
                      clear hb
                      go_enter Try.func38, Try.ntmps38
                      go_wp2_with fail
                      refine (hwa _).mono ?_
                      rintro e wl0 ⟨rfl, hbl0⟩
                      have zl0 := hbl0.size
                      (try simp at zl0)
                      have ma0 := cell_keep hbl0 (cell_alloc (o := (.cells #[.int .i64 kb, .int .i64 cb, .int .i64 qb, .string yb, .string xb, .int .i64 rb] 24)) (new_cell w #[.int .i64 ka, .int .i64 ca, .int .i64 qa, .string ya, .string xa, .int .i64 ra] 24 0 rfl).1)
                      (try simp at ma0)
                      have ma1 := cell_keep hbl0 (cell_alloc (o := (.cells #[.int .i64 kb, .int .i64 cb, .int .i64 qb, .string yb, .string xb, .int .i64 rb] 24)) (new_cell w #[.int .i64 ka, .int .i64 ca, .int .i64 qa, .string ya, .string xa, .int .i64 ra] 24 1 rfl).1)
                      (try simp at ma1)
                      have ma2 := cell_keep hbl0 (cell_alloc (o := (.cells #[.int .i64 kb, .int .i64 cb, .int .i64 qb, .string yb, .string xb, .int .i64 rb] 24)) (new_cell w #[.int .i64 ka, .int .i64 ca, .int .i64 qa, .string ya, .string xa, .int .i64 ra] 24 2 rfl).1)
                      (try simp at ma2)
                      have ma3 := cell_keep hbl0 (cell_alloc (o := (.cells #[.int .i64 kb, .int .i64 cb, .int .i64 qb, .string yb, .string xb, .int .i64 rb] 24)) (new_cell w #[.int .i64 ka, .int .i64 ca, .int .i64 qa, .string ya, .string xa, .int .i64 ra] 24 3 rfl).1)
                      (try simp at ma3)
                      have ma4 := cell_keep hbl0 (cell_alloc (o := (.cells #[.int .i64 kb, .int .i64 cb, .int .i64 qb, .string yb, .string xb, .int .i64 rb] 24)) (new_cell w #[.int .i64 ka, .int .i64 ca, .int .i64 qa, .string ya, .string xa, .int .i64 ra] 24 4 rfl).1)
                      (try simp at ma4)
                      have ma5 := cell_keep hbl0 (cell_alloc (o := (.cells #[.int .i64 kb, .int .i64 cb, .int .i64 qb, .string yb, .string xb, .int .i64 rb] 24)) (new_cell w #[.int .i64 ka, .int .i64 ca, .int .i64 qa, .string ya, .string xa, .int .i64 ra] 24 5 rfl).1)
                      (try simp at ma5)
                      have mb0 := cell_keep hbl0 (new_cell (w.alloc (.cells #[.int .i64 ka, .int .i64 ca, .int .i64 qa, .string ya, .string xa, .int .i64 ra] 24)) #[.int .i64 kb, .int .i64 cb, .int .i64 qb, .string yb, .string xb, .int .i64 rb] 24 0 rfl).1
                      (try simp at mb0)
                      have mb1 := cell_keep hbl0 (new_cell (w.alloc (.cells #[.int .i64 ka, .int .i64 ca, .int .i64 qa, .string ya, .string xa, .int .i64 ra] 24)) #[.int .i64 kb, .int .i64 cb, .int .i64 qb, .string yb, .string xb, .int .i64 rb] 24 1 rfl).1
                      (try simp at mb1)
                      have mb2 := cell_keep hbl0 (new_cell (w.alloc (.cells #[.int .i64 ka, .int .i64 ca, .int .i64 qa, .string ya, .string xa, .int .i64 ra] 24)) #[.int .i64 kb, .int .i64 cb, .int .i64 qb, .string yb, .string xb, .int .i64 rb] 24 2 rfl).1
                      (try simp at mb2)
                      have mb3 := cell_keep hbl0 (new_cell (w.alloc (.cells #[.int .i64 ka, .int .i64 ca, .int .i64 qa, .string ya, .string xa, .int .i64 ra] 24)) #[.int .i64 kb, .int .i64 cb, .int .i64 qb, .string yb, .string xb, .int .i64 rb] 24 3 rfl).1
                      (try simp at mb3)
                      have mb4 := cell_keep hbl0 (new_cell (w.alloc (.cells #[.int .i64 ka, .int .i64 ca, .int .i64 qa, .string ya, .string xa, .int .i64 ra] 24)) #[.int .i64 kb, .int .i64 cb, .int .i64 qb, .string yb, .string xb, .int .i64 rb] 24 4 rfl).1
                      (try simp at mb4)
                      have mb5 := cell_keep hbl0 (new_cell (w.alloc (.cells #[.int .i64 ka, .int .i64 ca, .int .i64 qa, .string ya, .string xa, .int .i64 ra] 24)) #[.int .i64 kb, .int .i64 cb, .int .i64 qb, .string yb, .string xb, .int .i64 rb] 24 5 rfl).1
                      (try simp at mb5)
                      go_wp2_with fail
                      refine (hwb _).mono ?_
                      rintro e wl1 ⟨rfl, hbl1⟩
                      have zl1 := hbl1.size
                      (try simp at zl1)
                      replace ma0 := cell_keep hbl1 ma0
                      replace ma1 := cell_keep hbl1 ma1
                      replace ma2 := cell_keep hbl1 ma2
                      replace ma3 := cell_keep hbl1 ma3
                      replace ma4 := cell_keep hbl1 ma4
                      replace ma5 := cell_keep hbl1 ma5
                      replace mb0 := cell_keep hbl1 mb0
                      replace mb1 := cell_keep hbl1 mb1
                      replace mb2 := cell_keep hbl1 mb2
                      replace mb3 := cell_keep hbl1 mb3
                      replace mb4 := cell_keep hbl1 mb4
                      replace mb5 := cell_keep hbl1 mb5
                      go_wp2_with fail
                      refine (hz2 _).mono ?_
                      rintro e wl2 ⟨rfl, rfl⟩
                      go_wp2_with fail
                      go_ret
                      exact ⟨by first | rfl | (rw [HR.out]; simp [*]), by ((repeat' first | with_reducible exact Below.refl _ _ | with_reducible assumption | with_reducible refine Below.alloc ?_ ?_ _ | with_reducible refine Below.setCell ?_ ?_ _ | with_reducible apply Below.drew | with_reducible apply below_drewN | with_reducible refine below_call ?_ (by with_reducible assumption) ?_) <;> (first | omega | (simp; done) | (simp; omega) | (simp at *; omega)))⟩
                    · have hb2 : (kb == (5 : Int)) = false := by simp [hb]
                      go_enter Try.func38, Try.ntmps38
                      go_wp2_with fail
                      refine (hwa _).mono ?_
                      rintro e wl0 ⟨rfl, hbl0⟩
                      have zl0 := hbl0.size
                      (try simp at zl0)
                      have ma0 := cell_keep hbl0 (cell_alloc (o := (.cells #[.int .i64 kb, .int .i64 cb, .int .i64 qb, .string yb, .string xb, .int .i64 rb] 24)) (new_cell w #[.int .i64 ka, .int .i64 ca, .int .i64 qa, .string ya, .string xa, .int .i64 ra] 24 0 rfl).1)
                      (try simp at ma0)
                      have ma1 := cell_keep hbl0 (cell_alloc (o := (.cells #[.int .i64 kb, .int .i64 cb, .int .i64 qb, .string yb, .string xb, .int .i64 rb] 24)) (new_cell w #[.int .i64 ka, .int .i64 ca, .int .i64 qa, .string ya, .string xa, .int .i64 ra] 24 1 rfl).1)
                      (try simp at ma1)
                      have ma2 := cell_keep hbl0 (cell_alloc (o := (.cells #[.int .i64 kb, .int .i64 cb, .int .i64 qb, .string yb, .string xb, .int .i64 rb] 24)) (new_cell w #[.int .i64 ka, .int .i64 ca, .int .i64 qa, .string ya, .string xa, .int .i64 ra] 24 2 rfl).1)
                      (try simp at ma2)
                      have ma3 := cell_keep hbl0 (cell_alloc (o := (.cells #[.int .i64 kb, .int .i64 cb, .int .i64 qb, .string yb, .string xb, .int .i64 rb] 24)) (new_cell w #[.int .i64 ka, .int .i64 ca, .int .i64 qa, .string ya, .string xa, .int .i64 ra] 24 3 rfl).1)
                      (try simp at ma3)
                      have ma4 := cell_keep hbl0 (cell_alloc (o := (.cells #[.int .i64 kb, .int .i64 cb, .int .i64 qb, .string yb, .string xb, .int .i64 rb] 24)) (new_cell w #[.int .i64 ka, .int .i64 ca, .int .i64 qa, .string ya, .string xa, .int .i64 ra] 24 4 rfl).1)
                      (try simp at ma4)
                      have ma5 := cell_keep hbl0 (cell_alloc (o := (.cells #[.int .i64 kb, .int .i64 cb, .int .i64 qb, .string yb, .string xb, .int .i64 rb] 24)) (new_cell w #[.int .i64 ka, .int .i64 ca, .int .i64 qa, .string ya, .string xa, .int .i64 ra] 24 5 rfl).1)
                      (try simp at ma5)
                      have mb0 := cell_keep hbl0 (new_cell (w.alloc (.cells #[.int .i64 ka, .int .i64 ca, .int .i64 qa, .string ya, .string xa, .int .i64 ra] 24)) #[.int .i64 kb, .int .i64 cb, .int .i64 qb, .string yb, .string xb, .int .i64 rb] 24 0 rfl).1
                      (try simp at mb0)
                      have mb1 := cell_keep hbl0 (new_cell (w.alloc (.cells #[.int .i64 ka, .int .i64 ca, .int .i64 qa, .string ya, .string xa, .int .i64 ra] 24)) #[.int .i64 kb, .int .i64 cb, .int .i64 qb, .string yb, .string xb, .int .i64 rb] 24 1 rfl).1
                      (try simp at mb1)
                      have mb2 := cell_keep hbl0 (new_cell (w.alloc (.cells #[.int .i64 ka, .int .i64 ca, .int .i64 qa, .string ya, .string xa, .int .i64 ra] 24)) #[.int .i64 kb, .int .i64 cb, .int .i64 qb, .string yb, .string xb, .int .i64 rb] 24 2 rfl).1
                      (try simp at mb2)
                      have mb3 := cell_keep hbl0 (new_cell (w.alloc (.cells #[.int .i64 ka, .int .i64 ca, .int .i64 qa, .string ya, .string xa, .int .i64 ra] 24)) #[.int .i64 kb, .int .i64 cb, .int .i64 qb, .string yb, .string xb, .int .i64 rb] 24 3 rfl).1
                      (try simp at mb3)
                      have mb4 := cell_keep hbl0 (new_cell (w.alloc (.cells #[.int .i64 ka, .int .i64 ca, .int .i64 qa, .string ya, .string xa, .int .i64 ra] 24)) #[.int .i64 kb, .int .i64 cb, .int .i64 qb, .string yb, .string xb, .int .i64 rb] 24 4 rfl).1
                      (try simp at mb4)
                      have mb5 := cell_keep hbl0 (new_cell (w.alloc (.cells #[.int .i64 ka, .int .i64 ca, .int .i64 qa, .string ya, .string xa, .int .i64 ra] 24)) #[.int .i64 kb, .int .i64 cb, .int .i64 qb, .string yb, .string xb, .int .i64 rb] 24 5 rfl).1
                      (try simp at mb5)
                      go_wp2_with fail
                      refine (hwb _).mono ?_
                      rintro e wl1 ⟨rfl, hbl1⟩
                      have zl1 := hbl1.size
                      (try simp at zl1)
                      replace ma0 := cell_keep hbl1 ma0
                      replace ma1 := cell_keep hbl1 ma1
                      replace ma2 := cell_keep hbl1 ma2
                      replace ma3 := cell_keep hbl1 ma3
                      replace ma4 := cell_keep hbl1 ma4
                      replace ma5 := cell_keep hbl1 ma5
                      replace mb0 := cell_keep hbl1 mb0
                      replace mb1 := cell_keep hbl1 mb1
                      replace mb2 := cell_keep hbl1 mb2
                      replace mb3 := cell_keep hbl1 mb3
                      replace mb4 := cell_keep hbl1 mb4
                      replace mb5 := cell_keep hbl1 mb5
                      go_wp2_with fail
                      go_ret
                      exact ⟨by first | rfl | (rw [HR.out]; simp [*]), by ((repeat' first | with_reducible exact Below.refl _ _ | with_reducible assumption | with_reducible refine Below.alloc ?_ ?_ _ | with_reducible refine Below.setCell ?_ ?_ _ | with_reducible apply Below.drew | with_reducible apply below_drewN | with_reducible refine below_call ?_ (by with_reducible assumption) ?_) <;> (first | omega | (simp; done) | (simp; omega) | (simp at *; omega)))⟩
            · by_cases hy : ya.toList = yb.toList
              · have hy3 : (ya.toList == yb.toList) = true := by simp [hy]
                have hy4 : decide (ya = yb) = true := by simp [text_inj hy]
                clear hy
                go_enter Try.func38, Try.ntmps38
                go_wp2_with fail
                refine (hwa _).mono ?_
                rintro e wl0 ⟨rfl, hbl0⟩
                have zl0 := hbl0.size
                (try simp at zl0)
                have ma0 := cell_keep hbl0 (cell_alloc (o := (.cells #[.int .i64 kb, .int .i64 cb, .int .i64 qb, .string yb, .string xb, .int .i64 rb] 24)) (new_cell w #[.int .i64 ka, .int .i64 ca, .int .i64 qa, .string ya, .string xa, .int .i64 ra] 24 0 rfl).1)
                (try simp at ma0)
                have ma1 := cell_keep hbl0 (cell_alloc (o := (.cells #[.int .i64 kb, .int .i64 cb, .int .i64 qb, .string yb, .string xb, .int .i64 rb] 24)) (new_cell w #[.int .i64 ka, .int .i64 ca, .int .i64 qa, .string ya, .string xa, .int .i64 ra] 24 1 rfl).1)
                (try simp at ma1)
                have ma2 := cell_keep hbl0 (cell_alloc (o := (.cells #[.int .i64 kb, .int .i64 cb, .int .i64 qb, .string yb, .string xb, .int .i64 rb] 24)) (new_cell w #[.int .i64 ka, .int .i64 ca, .int .i64 qa, .string ya, .string xa, .int .i64 ra] 24 2 rfl).1)
                (try simp at ma2)
                have ma3 := cell_keep hbl0 (cell_alloc (o := (.cells #[.int .i64 kb, .int .i64 cb, .int .i64 qb, .string yb, .string xb, .int .i64 rb] 24)) (new_cell w #[.int .i64 ka, .int .i64 ca, .int .i64 qa, .string ya, .string xa, .int .i64 ra] 24 3 rfl).1)
                (try simp at ma3)
                have ma4 := cell_keep hbl0 (cell_alloc (o := (.cells #[.int .i64 kb, .int .i64 cb, .int .i64 qb, .string yb, .string xb, .int .i64 rb] 24)) (new_cell w #[.int .i64 ka, .int .i64 ca, .int .i64 qa, .string ya, .string xa, .int .i64 ra] 24 4 rfl).1)
                (try simp at ma4)
                have ma5 := cell_keep hbl0 (cell_alloc (o := (.cells #[.int .i64 kb, .int .i64 cb, .int .i64 qb, .string yb, .string xb, .int .i64 rb] 24)) (new_cell w #[.int .i64 ka, .int .i64 ca, .int .i64 qa, .string ya, .string xa, .int .i64 ra] 24 5 rfl).1)
                (try simp at ma5)
                have mb0 := cell_keep hbl0 (new_cell (w.alloc (.cells #[.int .i64 ka, .int .i64 ca, .int .i64 qa, .string ya, .string xa, .int .i64 ra] 24)) #[.int .i64 kb, .int .i64 cb, .int .i64 qb, .string yb, .string xb, .int .i64 rb] 24 0 rfl).1
                (try simp at mb0)
                have mb1 := cell_keep hbl0 (new_cell (w.alloc (.cells #[.int .i64 ka, .int .i64 ca, .int .i64 qa, .string ya, .string xa, .int .i64 ra] 24)) #[.int .i64 kb, .int .i64 cb, .int .i64 qb, .string yb, .string xb, .int .i64 rb] 24 1 rfl).1
                (try simp at mb1)
                have mb2 := cell_keep hbl0 (new_cell (w.alloc (.cells #[.int .i64 ka, .int .i64 ca, .int .i64 qa, .string ya, .string xa, .int .i64 ra] 24)) #[.int .i64 kb, .int .i64 cb, .int .i64 qb, .string yb, .string xb, .int .i64 rb] 24 2 rfl).1
                (try simp at mb2)
                have mb3 := cell_keep hbl0 (new_cell (w.alloc (.cells #[.int .i64 ka, .int .i64 ca, .int .i64 qa, .string ya, .string xa, .int .i64 ra] 24)) #[.int .i64 kb, .int .i64 cb, .int .i64 qb, .string yb, .string xb, .int .i64 rb] 24 3 rfl).1
                (try simp at mb3)
                have mb4 := cell_keep hbl0 (new_cell (w.alloc (.cells #[.int .i64 ka, .int .i64 ca, .int .i64 qa, .string ya, .string xa, .int .i64 ra] 24)) #[.int .i64 kb, .int .i64 cb, .int .i64 qb, .string yb, .string xb, .int .i64 rb] 24 4 rfl).1
                (try simp at mb4)
                have mb5 := cell_keep hbl0 (new_cell (w.alloc (.cells #[.int .i64 ka, .int .i64 ca, .int .i64 qa, .string ya, .string xa, .int .i64 ra] 24)) #[.int .i64 kb, .int .i64 cb, .int .i64 qb, .string yb, .string xb, .int .i64 rb] 24 5 rfl).1
                (try simp at mb5)
                go_wp2_with fail
                go_ret
                exact ⟨by first | rfl | (rw [HR.out]; simp [*]), by ((repeat' first | with_reducible exact Below.refl _ _ | with_reducible assumption | with_reducible refine Below.alloc ?_ ?_ _ | with_reducible refine Below.setCell ?_ ?_ _ | with_reducible apply Below.drew | with_reducible apply below_drewN | with_reducible refine below_call ?_ (by with_reducible assumption) ?_) <;> (first | omega | (simp; done) | (simp; omega) | (simp at *; omega)))⟩
              · have hy3 : (ya.toList == yb.toList) = false := by simpa using hy
                have hy4 : decide (ya = yb) = false := by simp; intro e; exact hy (by rw [e])
                by_cases ha : ka = 5
                · have ha2 : (ka == (5 : Int)) = true := by simp [ha]
                  clear ha
                  cases u
                  · by_cases hb : kb = 5
                    · have hb2 : (kb == (5 : Int)) = true := by simp [hb]
                      clear hb
                      go_enter Try.func38, Try.ntmps38
                      go_wp2_with fail
                      refine (hwa _).mono ?_
                      rintro e wl0 ⟨rfl, hbl0⟩
                      have zl0 := hbl0.size
                      (try simp at zl0)
                      have ma0 := cell_keep hbl0 (cell_alloc (o := (.cells #[.int .i64 kb, .int .i64 cb, .int .i64 qb, .string yb, .string xb, .int .i64 rb] 24)) (new_cell w #[.int .i64 ka, .int .i64 ca, .int .i64 qa, .string ya, .string xa, .int .i64 ra] 24 0 rfl).1)
                      (try simp at ma0)
                      have ma1 := cell_keep hbl0 (cell_alloc (o := (.cells #[.int .i64 kb, .int .i64 cb, .int .i64 qb, .string yb, .string xb, .int .i64 rb] 24)) (new_cell w #[.int .i64 ka, .int .i64 ca, .int .i64 qa, .string ya, .string xa, .int .i64 ra] 24 1 rfl).1)
                      (try simp at ma1)
                      have ma2 := cell_keep hbl0 (cell_alloc (o := (.cells #[.int .i64 kb, .int .i64 cb, .int .i64 qb, .string yb, .string xb, .int .i64 rb] 24)) (new_cell w #[.int .i64 ka, .int .i64 ca, .int .i64 qa, .string ya, .string xa, .int .i64 ra] 24 2 rfl).1)
                      (try simp at ma2)
                      have ma3 := cell_keep hbl0 (cell_alloc (o := (.cells #[.int .i64 kb, .int .i64 cb, .int .i64 qb, .string yb, .string xb, .int .i64 rb] 24)) (new_cell w #[.int .i64 ka, .int .i64 ca, .int .i64 qa, .string ya, .string xa, .int .i64 ra] 24 3 rfl).1)
                      (try simp at ma3)
                      have ma4 := cell_keep hbl0 (cell_alloc (o := (.cells #[.int .i64 kb, .int .i64 cb, .int .i64 qb, .string yb, .string xb, .int .i64 rb] 24)) (new_cell w #[.int .i64 ka, .int .i64 ca, .int .i64 qa, .string ya, .string xa, .int .i64 ra] 24 4 rfl).1)
                      (try simp at ma4)
                      have ma5 := cell_keep hbl0 (cell_alloc (o := (.cells #[.int .i64 kb, .int .i64 cb, .int .i64 qb, .string yb, .string xb, .int .i64 rb] 24)) (new_cell w #[.int .i64 ka, .int .i64 ca, .int .i64 qa, .string ya, .string xa, .int .i64 ra] 24 5 rfl).1)
                      (try simp at ma5)
                      have mb0 := cell_keep hbl0 (new_cell (w.alloc (.cells #[.int .i64 ka, .int .i64 ca, .int .i64 qa, .string ya, .string xa, .int .i64 ra] 24)) #[.int .i64 kb, .int .i64 cb, .int .i64 qb, .string yb, .string xb, .int .i64 rb] 24 0 rfl).1
                      (try simp at mb0)
                      have mb1 := cell_keep hbl0 (new_cell (w.alloc (.cells #[.int .i64 ka, .int .i64 ca, .int .i64 qa, .string ya, .string xa, .int .i64 ra] 24)) #[.int .i64 kb, .int .i64 cb, .int .i64 qb, .string yb, .string xb, .int .i64 rb] 24 1 rfl).1
                      (try simp at mb1)
                      have mb2 := cell_keep hbl0 (new_cell (w.alloc (.cells #[.int .i64 ka, .int .i64 ca, .int .i64 qa, .string ya, .string xa, .int .i64 ra] 24)) #[.int .i64 kb, .int .i64 cb, .int .i64 qb, .string yb, .string xb, .int .i64 rb] 24 2 rfl).1
                      (try simp at mb2)
                      have mb3 := cell_keep hbl0 (new_cell (w.alloc (.cells #[.int .i64 ka, .int .i64 ca, .int .i64 qa, .string ya, .string xa, .int .i64 ra] 24)) #[.int .i64 kb, .int .i64 cb, .int .i64 qb, .string yb, .string xb, .int .i64 rb] 24 3 rfl).1
                      (try simp at mb3)
                      have mb4 := cell_keep hbl0 (new_cell (w.alloc (.cells #[.int .i64 ka, .int .i64 ca, .int .i64 qa, .string ya, .string xa, .int .i64 ra] 24)) #[.int .i64 kb, .int .i64 cb, .int .i64 qb, .string yb, .string xb, .int .i64 rb] 24 4 rfl).1
                      (try simp at mb4)
                      have mb5 := cell_keep hbl0 (new_cell (w.alloc (.cells #[.int .i64 ka, .int .i64 ca, .int .i64 qa, .string ya, .string xa, .int .i64 ra] 24)) #[.int .i64 kb, .int .i64 cb, .int .i64 qb, .string yb, .string xb, .int .i64 rb] 24 5 rfl).1
                      (try simp at mb5)
                      go_wp2_with fail
                      refine (hz1 _).mono ?_
                      rintro e wl1 ⟨rfl, rfl⟩
                      go_wp2_with fail
                      refine (hz2 _).mono ?_
                      rintro e wl2 ⟨rfl, rfl⟩
                      go_wp2_with fail
                      go_ret
                      exact ⟨by first | rfl | (rw [HR.out]; simp [*]), by ((repeat' first | with_reducible exact Below.refl _ _ | with_reducible assumption | with_reducible refine Below.alloc ?_ ?_ _ | with_reducible refine Below.setCell ?_ ?_ _ | with_reducible apply Below.drew | with_reducible apply below_drewN | with_reducible refine below_call ?_ (by with_reducible assumption) ?_) <;> (first | omega | (simp; done) | (simp; omega) | (simp at *; omega)))⟩
                    · have hb2 : (kb == (5 : Int)) = false := by simp [hb]
                      go_enter Try.func38, Try.ntmps38
                      go_wp2_with fail
                      refine (hwa _).mono ?_
                      rintro e wl0 ⟨rfl, hbl0⟩
                      have zl0 := hbl0.size
                      (try simp at zl0)
                      have ma0 := cell_keep hbl0 (cell_alloc (o := (.cells #[.int .i64 kb, .int .i64 cb, .int .i64 qb, .string yb, .string xb, .int .i64 rb] 24)) (new_cell w #[.int .i64 ka, .int .i64 ca, .int .i64 qa, .string ya, .string xa, .int .i64 ra] 24 0 rfl).1)
                      (try simp at ma0)
                      have ma1 := cell_keep hbl0 (cell_alloc (o := (.cells #[.int .i64 kb, .int .i64 cb, .int .i64 qb, .string yb, .string xb, .int .i64 rb] 24)) (new_cell w #[.int .i64 ka, .int .i64 ca, .int .i64 qa, .string ya, .string xa, .int .i64 ra] 24 1 rfl).1)
                      (try simp at ma1)
                      have ma2 := cell_keep hbl0 (cell_alloc (o := (.cells #[.int .i64 kb, .int .i64 cb, .int .i64 qb, .string yb, .string xb, .int .i64 rb] 24)) (new_cell w #[.int .i64 ka, .int .i64 ca, .int .i64 qa, .string ya, .string xa, .int .i64 ra] 24 2 rfl).1)
                      (try simp at ma2)
                      have ma3 := cell_keep hbl0 (cell_alloc (o := (.cells #[.int .i64 kb, .int .i64 cb, .int .i64 qb, .string yb, .string xb, .int .i64 rb] 24)) (new_cell w #[.int .i64 ka, .int .i64 ca, .int .i64 qa, .string ya, .string xa, .int .i64 ra] 24 3 rfl).1)
                      (try simp at ma3)
                      have ma4 := cell_keep hbl0 (cell_alloc (o := (.cells #[.int .i64 kb, .int .i64 cb, .int .i64 qb, .string yb, .string xb, .int .i64 rb] 24)) (new_cell w #[.int .i64 ka, .int .i64 ca, .int .i64 qa, .string ya, .string xa, .int .i64 ra] 24 4 rfl).1)
                      (try simp at ma4)
                      have ma5 := cell_keep hbl0 (cell_alloc (o := (.cells #[.int .i64 kb, .int .i64 cb, .int .i64 qb, .string yb, .string xb, .int .i64 rb] 24)) (new_cell w #[.int .i64 ka, .int .i64 ca, .int .i64 qa, .string ya, .string xa, .int .i64 ra] 24 5 rfl).1)
                      (try simp at ma5)
                      have mb0 := cell_keep hbl0 (new_cell (w.alloc (.cells #[.int .i64 ka, .int .i64 ca, .int .i64 qa, .string ya, .string xa, .int .i64 ra] 24)) #[.int .i64 kb, .int .i64 cb, .int .i64 qb, .string yb, .string xb, .int .i64 rb] 24 0 rfl).1
                      (try simp at mb0)
                      have mb1 := cell_keep hbl0 (new_cell (w.alloc (.cells #[.int .i64 ka, .int .i64 ca, .int .i64 qa, .string ya, .string xa, .int .i64 ra] 24)) #[.int .i64 kb, .int .i64 cb, .int .i64 qb, .string yb, .string xb, .int .i64 rb] 24 1 rfl).1
                      (try simp at mb1)
                      have mb2 := cell_keep hbl0 (new_cell (w.alloc (.cells #[.int .i64 ka, .int .i64 ca, .int .i64 qa, .string ya, .string xa, .int .i64 ra] 24)) #[.int .i64 kb, .int .i64 cb, .int .i64 qb, .string yb, .string xb, .int .i64 rb] 24 2 rfl).1
                      (try simp at mb2)
                      have mb3 := cell_keep hbl0 (new_cell (w.alloc (.cells #[.int .i64 ka, .int .i64 ca, .int .i64 qa, .string ya, .string xa, .int .i64 ra] 24)) #[.int .i64 kb, .int .i64 cb, .int .i64 qb, .string yb, .string xb, .int .i64 rb] 24 3 rfl).1
                      (try simp at mb3)
                      have mb4 := cell_keep hbl0 (new_cell (w.alloc (.cells #[.int .i64 ka, .int .i64 ca, .int .i64 qa, .string ya, .string xa, .int .i64 ra] 24)) #[.int .i64 kb, .int .i64 cb, .int .i64 qb, .string yb, .string xb, .int .i64 rb] 24 4 rfl).1
                      (try simp at mb4)
                      have mb5 := cell_keep hbl0 (new_cell (w.alloc (.cells #[.int .i64 ka, .int .i64 ca, .int .i64 qa, .string ya, .string xa, .int .i64 ra] 24)) #[.int .i64 kb, .int .i64 cb, .int .i64 qb, .string yb, .string xb, .int .i64 rb] 24 5 rfl).1
                      (try simp at mb5)
                      go_wp2_with fail
                      refine (hz1 _).mono ?_
                      rintro e wl1 ⟨rfl, rfl⟩
                      go_wp2_with fail
                      go_ret
                      exact ⟨by first | rfl | (rw [HR.out]; simp [*]), by ((repeat' first | with_reducible exact Below.refl _ _ | with_reducible assumption | with_reducible refine Below.alloc ?_ ?_ _ | with_reducible refine Below.setCell ?_ ?_ _ | with_reducible apply Below.drew | with_reducible apply below_drewN | with_reducible refine below_call ?_ (by with_reducible assumption) ?_) <;> (first | omega | (simp; done) | (simp; omega) | (simp at *; omega)))⟩
                  · go_enter Try.func38, Try.ntmps38
                    go_wp2_with fail
                    refine (hwa _).mono ?_
                    rintro e wl0 ⟨rfl, hbl0⟩
                    have zl0 := hbl0.size
                    (try simp at zl0)
                    have ma0 := cell_keep hbl0 (cell_alloc (o := (.cells #[.int .i64 kb, .int .i64 cb, .int .i64 qb, .string yb, .string xb, .int .i64 rb] 24)) (new_cell w #[.int .i64 ka, .int .i64 ca, .int .i64 qa, .string ya, .string xa, .int .i64 ra] 24 0 rfl).1)
                    (try simp at ma0)
                    have ma1 := cell_keep hbl0 (cell_alloc (o := (.cells #[.int .i64 kb, .int .i64 cb, .int .i64 qb, .string yb, .string xb, .int .i64 rb] 24)) (new_cell w #[.int .i64 ka, .int .i64 ca, .int .i64 qa, .string ya, .string xa, .int .i64 ra] 24 1 rfl).1)
                    (try simp at ma1)
                    have ma2 := cell_keep hbl0 (cell_alloc (o := (.cells #[.int .i64 kb, .int .i64 cb, .int .i64 qb, .string yb, .string xb, .int .i64 rb] 24)) (new_cell w #[.int .i64 ka, .int .i64 ca, .int .i64 qa, .string ya, .string xa, .int .i64 ra] 24 2 rfl).1)
                    (try simp at ma2)
                    have ma3 := cell_keep hbl0 (cell_alloc (o := (.cells #[.int .i64 kb, .int .i64 cb, .int .i64 qb, .string yb, .string xb, .int .i64 rb] 24)) (new_cell w #[.int .i64 ka, .int .i64 ca, .int .i64 qa, .string ya, .string xa, .int .i64 ra] 24 3 rfl).1)
                    (try simp at ma3)
                    have ma4 := cell_keep hbl0 (cell_alloc (o := (.cells #[.int .i64 kb, .int .i64 cb, .int .i64 qb, .string yb, .string xb, .int .i64 rb] 24)) (new_cell w #[.int .i64 ka, .int .i64 ca, .int .i64 qa, .string ya, .string xa, .int .i64 ra] 24 4 rfl).1)
                    (try simp at ma4)
                    have ma5 := cell_keep hbl0 (cell_alloc (o := (.cells #[.int .i64 kb, .int .i64 cb, .int .i64 qb, .string yb, .string xb, .int .i64 rb] 24)) (new_cell w #[.int .i64 ka, .int .i64 ca, .int .i64 qa, .string ya, .string xa, .int .i64 ra] 24 5 rfl).1)
                    (try simp at ma5)
                    have mb0 := cell_keep hbl0 (new_cell (w.alloc (.cells #[.int .i64 ka, .int .i64 ca, .int .i64 qa, .string ya, .string xa, .int .i64 ra] 24)) #[.int .i64 kb, .int .i64 cb, .int .i64 qb, .string yb, .string xb, .int .i64 rb] 24 0 rfl).1
                    (try simp at mb0)
                    have mb1 := cell_keep hbl0 (new_cell (w.alloc (.cells #[.int .i64 ka, .int .i64 ca, .int .i64 qa, .string ya, .string xa, .int .i64 ra] 24)) #[.int .i64 kb, .int .i64 cb, .int .i64 qb, .string yb, .string xb, .int .i64 rb] 24 1 rfl).1
                    (try simp at mb1)
                    have mb2 := cell_keep hbl0 (new_cell (w.alloc (.cells #[.int .i64 ka, .int .i64 ca, .int .i64 qa, .string ya, .string xa, .int .i64 ra] 24)) #[.int .i64 kb, .int .i64 cb, .int .i64 qb, .string yb, .string xb, .int .i64 rb] 24 2 rfl).1
                    (try simp at mb2)
                    have mb3 := cell_keep hbl0 (new_cell (w.alloc (.cells #[.int .i64 ka, .int .i64 ca, .int .i64 qa, .string ya, .string xa, .int .i64 ra] 24)) #[.int .i64 kb, .int .i64 cb, .int .i64 qb, .string yb, .string xb, .int .i64 rb] 24 3 rfl).1
                    (try simp at mb3)
                    have mb4 := cell_keep hbl0 (new_cell (w.alloc (.cells #[.int .i64 ka, .int .i64 ca, .int .i64 qa, .string ya, .string xa, .int .i64 ra] 24)) #[.int .i64 kb, .int .i64 cb, .int .i64 qb, .string yb, .string xb, .int .i64 rb] 24 4 rfl).1
                    (try simp at mb4)
                    have mb5 := cell_keep hbl0 (new_cell (w.alloc (.cells #[.int .i64 ka, .int .i64 ca, .int .i64 qa, .string ya, .string xa, .int .i64 ra] 24)) #[.int .i64 kb, .int .i64 cb, .int .i64 qb, .string yb, .string xb, .int .i64 rb] 24 5 rfl).1
                    (try simp at mb5)
                    go_wp2_with fail
                    refine (hz1 _).mono ?_
                    rintro e wl1 ⟨rfl, rfl⟩
                    go_wp2_with fail
                    go_ret
                    exact ⟨by first | rfl | (rw [HR.out]; simp [*]), by ((repeat' first | with_reducible exact Below.refl _ _ | with_reducible assumption | with_reducible refine Below.alloc ?_ ?_ _ | with_reducible refine Below.setCell ?_ ?_ _ | with_reducible apply Below.drew | with_reducible apply below_drewN | with_reducible refine below_call ?_ (by with_reducible assumption) ?_) <;> (first | omega | (simp; done) | (simp; omega) | (simp at *; omega)))⟩
                · have ha2 : (ka == (5 : Int)) = false := by simp [ha]
                  by_cases hb : kb = 5
                  · have hb2 : (kb == (5 : Int)) = true := by simp [hb]
                    clear hb
                    go_enter Try.func38, Try.ntmps38
                    go_wp2_with fail
                    refine (hwa _).mono ?_
                    rintro e wl0 ⟨rfl, hbl0⟩
                    have zl0 := hbl0.size
                    (try simp at zl0)
                    have ma0 := cell_keep hbl0 (cell_alloc (o := (.cells #[.int .i64 kb, .int .i64 cb, .int .i64 qb, .string yb, .string xb, .int .i64 rb] 24)) (new_cell w #[.int .i64 ka, .int .i64 ca, .int .i64 qa, .string ya, .string xa, .int .i64 ra] 24 0 rfl).1)
                    (try simp at ma0)
                    have ma1 := cell_keep hbl0 (cell_alloc (o := (.cells #[.int .i64 kb, .int .i64 cb, .int .i64 qb, .string yb, .string xb, .int .i64 rb] 24)) (new_cell w #[.int .i64 ka, .int .i64 ca, .int .i64 qa, .string ya, .string xa, .int .i64 ra] 24 1 rfl).1)
                    (try simp at ma1)
                    have ma2 := cell_keep hbl0 (cell_alloc (o := (.cells #[.int .i64 kb, .int .i64 cb, .int .i64 qb, .string yb, .string xb, .int .i64 rb] 24)) (new_cell w #[.int .i64 ka, .int .i64 ca, .int .i64 qa, .string ya, .string xa, .int .i64 ra] 24 2 rfl).1)
                    (try simp at ma2)
                    have ma3 := cell_keep hbl0 (cell_alloc (o := (.cells #[.int .i64 kb, .int .i64 cb, .int .i64 qb, .string yb, .string xb, .int .i64 rb] 24)) (new_cell w #[.int .i64 ka, .int .i64 ca, .int .i64 qa, .string ya, .string xa, .int .i64 ra] 24 3 rfl).1)
                    (try simp at ma3)
                    have ma4 := cell_keep hbl0 (cell_alloc (o := (.cells #[.int .i64 kb, .int .i64 cb, .int .i64 qb, .string yb, .string xb, .int .i64 rb] 24)) (new_cell w #[.int .i64 ka, .int .i64 ca, .int .i64 qa, .string ya, .string xa, .int .i64 ra] 24 4 rfl).1)
                    (try simp at ma4)
                    have ma5 := cell_keep hbl0 (cell_alloc (o := (.cells #[.int .i64 kb, .int .i64 cb, .int .i64 qb, .string yb, .string xb, .int .i64 rb] 24)) (new_cell w #[.int .i64 ka, .int .i64 ca, .int .i64 qa, .string ya, .string xa, .int .i64 ra] 24 5 rfl).1)
                    (try simp at ma5)
                    have mb0 := cell_keep hbl0 (new_cell (w.alloc (.cells #[.int .i64 ka, .int .i64 ca, .int .i64 qa, .string ya, .string xa, .int .i64 ra] 24)) #[.int .i64 kb, .int .i64 cb, .int .i64 qb, .string yb, .string xb, .int .i64 rb] 24 0 rfl).1
                    (try simp at mb0)
                    have mb1 := cell_keep hbl0 (new_cell (w.alloc (.cells #[.int .i64 ka, .int .i64 ca, .int .i64 qa, .string ya, .string xa, .int .i64 ra] 24)) #[.int .i64 kb, .int .i64 cb, .int .i64 qb, .string yb, .string xb, .int .i64 rb] 24 1 rfl).1
                    (try simp at mb1)
                    have mb2 := cell_keep hbl0 (new_cell (w.alloc (.cells #[.int .i64 ka, .int .i64 ca, .int .i64 qa, .string ya, .string xa, .int .i64 ra] 24)) #[.int .i64 kb, .int .i64 cb, .int .i64 qb, .string yb, .string xb, .int .i64 rb] 24 2 rfl).1
                    (try simp at mb2)
                    have mb3 := cell_keep hbl0 (new_cell (w.alloc (.cells #[.int .i64 ka, .int .i64 ca, .int .i64 qa, .string ya, .string xa, .int .i64 ra] 24)) #[.int .i64 kb, .int .i64 cb, .int .i64 qb, .string yb, .string xb, .int .i64 rb] 24 3 rfl).1
                    (try simp at mb3)
                    have mb4 := cell_keep hbl0 (new_cell (w.alloc (.cells #[.int .i64 ka, .int .i64 ca, .int .i64 qa, .string ya, .string xa, .int .i64 ra] 24)) #[.int .i64 kb, .int .i64 cb, .int .i64 qb, .string yb, .string xb, .int .i64 rb] 24 4 rfl).1
                    (try simp at mb4)
                    have mb5 := cell_keep hbl0 (new_cell (w.alloc (.cells #[.int .i64 ka, .int .i64 ca, .int .i64 qa, .string ya, .string xa, .int .i64 ra] 24)) #[.int .i64 kb, .int .i64 cb, .int .i64 qb, .string yb, .string xb, .int .i64 rb] 24 5 rfl).1
                    (try simp at mb5)
                    go_wp2_with fail
                    refine (hz2 _).mono ?_
                    rintro e wl1 ⟨rfl, rfl⟩
                    go_wp2_with fail
                    go_ret
                    exact ⟨by first | rfl | (rw [HR.out]; simp [*]), by ((repeat' first | with_reducible exact Below.refl _ _ | with_reducible assumption | with_reducible refine Below.alloc ?_ ?_ _ | with_reducible refine Below.setCell ?_ ?_ _ | with_reducible apply Below.drew | with_reducible apply below_drewN | with_reducible refine below_call ?_ (by with_reducible assumption) ?_) <;> (first | omega | (simp; done) | (simp; omega) | (simp at *; omega)))⟩
                  · have hb2 : (kb == (5 : Int)) = false := by simp [hb]
                    go_enter Try.func38, Try.ntmps38
                    go_wp2_with fail
                    refine (hwa _).mono ?_
                    rintro e wl0 ⟨rfl, hbl0⟩
                    have zl0 := hbl0.size
                    (try simp at zl0)
                    have ma0 := cell_keep hbl0 (cell_alloc (o := (.cells #[.int .i64 kb, .int .i64 cb, .int .i64 qb, .string yb, .string xb, .int .i64 rb] 24)) (new_cell w #[.int .i64 ka, .int .i64 ca, .int .i64 qa, .string ya, .string xa, .int .i64 ra] 24 0 rfl).1)
                    (try simp at ma0)
                    have ma1 := cell_keep hbl0 (cell_alloc (o := (.cells #[.int .i64 kb, .int .i64 cb, .int .i64 qb, .string yb, .string xb, .int .i64 rb] 24)) (new_cell w #[.int .i64 ka, .int .i64 ca, .int .i64 qa, .string ya, .string xa, .int .i64 ra] 24 1 rfl).1)
                    (try simp at ma1)
                    have ma2 := cell_keep hbl0 (cell_alloc (o := (.cells #[.int .i64 kb, .int .i64 cb, .int .i64 qb, .string yb, .string xb, .int .i64 rb] 24)) (new_cell w #[.int .i64 ka, .int .i64 ca, .int .i64 qa, .string ya, .string xa, .int .i64 ra] 24 2 rfl).1)
                    (try simp at ma2)
                    have ma3 := cell_keep hbl0 (cell_alloc (o := (.cells #[.int .i64 kb, .int .i64 cb, .int .i64 qb, .string yb, .string xb, .int .i64 rb] 24)) (new_cell w #[.int .i64 ka, .int .i64 ca, .int .i64 qa, .string ya, .string xa, .int .i64 ra] 24 3 rfl).1)
                    (try simp at ma3)
                    have ma4 := cell_keep hbl0 (cell_alloc (o := (.cells #[.int .i64 kb, .int .i64 cb, .int .i64 qb, .string yb, .string xb, .int .i64 rb] 24)) (new_cell w #[.int .i64 ka, .int .i64 ca, .int .i64 qa, .string ya, .string xa, .int .i64 ra] 24 4 rfl).1)
                    (try simp at ma4)
                    have ma5 := cell_keep hbl0 (cell_alloc (o := (.cells #[.int .i64 kb, .int .i64 cb, .int .i64 qb, .string yb, .string xb, .int .i64 rb] 24)) (new_cell w #[.int .i64 ka, .int .i64 ca, .int .i64 qa, .string ya, .string xa, .int .i64 ra] 24 5 rfl).1)
                    (try simp at ma5)
                    have mb0 := cell_keep hbl0 (new_cell (w.alloc (.cells #[.int .i64 ka, .int .i64 ca, .int .i64 qa, .string ya, .string xa, .int .i64 ra] 24)) #[.int .i64 kb, .int .i64 cb, .int .i64 qb, .string yb, .string xb, .int .i64 rb] 24 0 rfl).1
                    (try simp at mb0)
                    have mb1 := cell_keep hbl0 (new_cell (w.alloc (.cells #[.int .i64 ka, .int .i64 ca, .int .i64 qa, .string ya, .string xa, .int .i64 ra] 24)) #[.int .i64 kb, .int .i64 cb, .int .i64 qb, .string yb, .string xb, .int .i64 rb] 24 1 rfl).1
                    (try simp at mb1)
                    have mb2 := cell_keep hbl0 (new_cell (w.alloc (.cells #[.int .i64 ka, .int .i64 ca, .int .i64 qa, .string ya, .string xa, .int .i64 ra] 24)) #[.int .i64 kb, .int .i64 cb, .int .i64 qb, .string yb, .string xb, .int .i64 rb] 24 2 rfl).1
                    (try simp at mb2)
                    have mb3 := cell_keep hbl0 (new_cell (w.alloc (.cells #[.int .i64 ka, .int .i64 ca, .int .i64 qa, .string ya, .string xa, .int .i64 ra] 24)) #[.int .i64 kb, .int .i64 cb, .int .i64 qb, .string yb, .string xb, .int .i64 rb] 24 3 rfl).1
                    (try simp at mb3)
                    have mb4 := cell_keep hbl0 (new_cell (w.alloc (.cells #[.int .i64 ka, .int .i64 ca, .int .i64 qa, .string ya, .string xa, .int .i64 ra] 24)) #[.int .i64 kb, .int .i64 cb, .int .i64 qb, .string yb, .string xb, .int .i64 rb] 24 4 rfl).1
                    (try simp at mb4)
                    have mb5 := cell_keep hbl0 (new_cell (w.alloc (.cells #[.int .i64 ka, .int .i64 ca, .int .i64 qa, .string ya, .string xa, .int .i64 ra] 24)) #[.int .i64 kb, .int .i64 cb, .int .i64 qb, .string yb, .string xb, .int .i64 rb] 24 5 rfl).1
                    (try simp at mb5)
                    go_wp2_with fail
                    go_ret
                    exact ⟨by first | rfl | (rw [HR.out]; simp [*]), by ((repeat' first | with_reducible exact Below.refl _ _ | with_reducible assumption | with_reducible refine Below.alloc ?_ ?_ _ | with_reducible refine Below.setCell ?_ ?_ _ | with_reducible apply Below.drew | with_reducible apply below_drewN | with_reducible refine below_call ?_ (by with_reducible assumption) ?_) <;> (first | omega | (simp; done) | (simp; omega) | (simp at *; omega)))⟩
end Go.Proofs.Ytpdfbkkhmfnnjaa
