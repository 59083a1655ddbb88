/- The walks of package cmd: Writes, keys, Meet. -/
import Derived.Test.YtpdfbkkhmfnnjaaIndexMeetsQ0
namespace Go.Proofs.Ytpdfbkkhmfnnjaa
open Go.RowKit
set_option linter.unusedVariables false
set_option linter.unusedSimpArgs false
set_option maxRecDepth 20000
attribute [local go_sem ↓] Go.wp_at_zero Go.wp_at_succ
attribute [local go_sem] World.cell?_alloc_some frozen_alloc_some

def cwrites (k : Int) : Bool := k == 2 || k == 3 || k == 4
set_option maxHeartbeats 2000000 in
theorem writes_any (k c q : Int) (y x : ByteArray) (r : Int) (w : World) :
    Calls Try.prog 44 #[.agg #[.int .i64 k, .int .i64 c, .int .i64 q, .string y, .string x, .int .i64 r]] w (Gives w (.bool (cwrites k))) := by
  unfold cwrites
  by_cases h2 : k = 2
  · subst h2
    go_enter Try.func44, Try.ntmps44
    go_wp2_with fail
    go_ret
    exact ⟨rfl, by ((repeat' first | with_reducible exact Below.refl _ _ | with_reducible assumption | with_reducible refine Below.alloc ?_ ?_ _ | with_reducible refine Below.setCell ?_ ?_ _ | with_reducible apply Below.drew | with_reducible apply below_drewN | with_reducible refine below_call ?_ (by with_reducible assumption) ?_) <;> (first | omega | (simp; done) | (simp; omega) | (simp at *; omega)))⟩
  · by_cases h3 : k = 3
    · subst h3
      go_enter Try.func44, Try.ntmps44
      go_wp2_with fail
      go_ret
      exact ⟨rfl, by ((repeat' first | with_reducible exact Below.refl _ _ | with_reducible assumption | with_reducible refine Below.alloc ?_ ?_ _ | with_reducible refine Below.setCell ?_ ?_ _ | with_reducible apply Below.drew | with_reducible apply below_drewN | with_reducible refine below_call ?_ (by with_reducible assumption) ?_) <;> (first | omega | (simp; done) | (simp; omega) | (simp at *; omega)))⟩
    · by_cases h4 : k = 4
      · subst h4
        go_enter Try.func44, Try.ntmps44
        go_wp2_with fail
        go_ret
        exact ⟨rfl, by ((repeat' first | with_reducible exact Below.refl _ _ | with_reducible assumption | with_reducible refine Below.alloc ?_ ?_ _ | with_reducible refine Below.setCell ?_ ?_ _ | with_reducible apply Below.drew | with_reducible apply below_drewN | with_reducible refine below_call ?_ (by with_reducible assumption) ?_) <;> (first | omega | (simp; done) | (simp; omega) | (simp at *; omega)))⟩
      · go_enter Try.func44, Try.ntmps44
        go_wp2_with fail
        go_ret
        exact ⟨by simp [h2, h3, h4], by ((repeat' first | with_reducible exact Below.refl _ _ | with_reducible assumption | with_reducible refine Below.alloc ?_ ?_ _ | with_reducible refine Below.setCell ?_ ?_ _ | with_reducible apply Below.drew | with_reducible apply below_drewN | with_reducible refine below_call ?_ (by with_reducible assumption) ?_) <;> (first | omega | (simp; done) | (simp; omega) | (simp at *; omega)))⟩

def isPre (s p : ByteArray) : Bool := Lib.hasPrefix s.data.toList p.data.toList
theorem begins_any (s p : ByteArray) (w : World) : Calls Try.prog 74 #[.string s, .string p] w (fun e w' => e = .returned (.bool (isPre s p)) ∧ w' = w) := by
  have hp := fun W => Try.strings_HasPrefix s p W
  go_enter Try.func74, Try.ntmps74
  go_wp2_with fail
  refine (hp _).mono ?_
  rintro e w1 ⟨rfl, rfl⟩
  go_wp2_with fail
  go_ret
  exact ⟨rfl, rfl⟩

theorem text_inj {s t : ByteArray} (h : s.toList = t.toList) : s = t := by
  obtain ⟨⟨a⟩⟩ := s
  obtain ⟨⟨b⟩⟩ := t
  simp only [ByteArray.toList_eq] at h
  rw [show a = b from h]
/-- Whether keys meet. -/
def ckeys (ka : Int) (ya : ByteArray) (kb : Int) (yb : ByteArray) : Bool := decide (ya = yb) || (ka == 5 && isPre yb ya) || (kb == 5 && isPre ya yb)
set_option maxHeartbeats 4000000 in
theorem keys_any (ka ca qa : Int) (ya xa : ByteArray) (ra : Int) (kb cb qb : Int) (yb xb : ByteArray) (rb : Int) (w : World) :
    Calls Try.prog 45 #[.agg #[.int .i64 ka, .int .i64 ca, .int .i64 qa, .string ya, .string xa, .int .i64 ra], .agg #[.int .i64 kb, .int .i64 cb, .int .i64 qb, .string yb, .string xb, .int .i64 rb]] w (Gives w (.bool (ckeys ka ya kb yb))) := by
  unfold ckeys
  by_cases hy : ya = yb
  · subst hy
    go_enter Try.func45, Try.ntmps45
    go_wp2_with fail
    go_ret
    exact ⟨by simp, by ((repeat' first | with_reducible exact Below.refl _ _ | with_reducible assumption | with_reducible refine Below.alloc ?_ ?_ _ | with_reducible refine Below.setCell ?_ ?_ _ | with_reducible apply Below.drew | with_reducible apply below_drewN | with_reducible refine below_call ?_ (by with_reducible assumption) ?_) <;> (first | omega | (simp; done) | (simp; omega) | (simp at *; omega)))⟩
  · have hy' : ¬ ya.toList = yb.toList := fun h => hy (text_inj h)
    have hy2 : decide (ya = yb) = false := by simp [hy]
    have hy3 : (ya.toList == yb.toList) = false := by simpa using hy'
    rw [hy2]
    have h1 : ∀ W, Calls Try.prog 74 #[.string yb, .string ya] W (fun e w' => e = .returned (.bool (isPre yb ya)) ∧ w' = W) := fun W => begins_any yb ya W
    have h2 : ∀ W, Calls Try.prog 74 #[.string ya, .string yb] W (fun e w' => e = .returned (.bool (isPre ya yb)) ∧ w' = W) := fun W => begins_any ya yb W
    generalize isPre yb ya = p at *
    generalize isPre ya yb = q at *
    clear hy2 hy
    by_cases ha : ka = 5
    · subst ha
      cases p
      · by_cases hb : kb = 5
        · subst hb
          go_enter Try.func45, Try.ntmps45
          go_wp2_with fail
          refine (h1 _).mono ?_
          rintro e wl0 ⟨rfl, rfl⟩
          go_wp2_with fail
          refine (h2 _).mono ?_
          rintro e wl1 ⟨rfl, rfl⟩
          go_wp2_with fail
          go_ret
          exact ⟨by simp [*], by ((repeat' first | with_reducible exact Below.refl _ _ | with_reducible assumption | with_reducible refine Below.alloc ?_ ?_ _ | with_reducible refine Below.setCell ?_ ?_ _ | with_reducible apply Below.drew | with_reducible apply below_drewN | with_reducible refine below_call ?_ (by with_reducible assumption) ?_) <;> (first | omega | (simp; done) | (simp; omega) | (simp at *; omega)))⟩
        · have hb2 : (kb == (5 : Int)) = false := by simp [hb]
          go_enter Try.func45, Try.ntmps45
          go_wp2_with fail
          refine (h1 _).mono ?_
          rintro e wl0 ⟨rfl, rfl⟩
          go_wp2_with fail
          go_ret
          exact ⟨by simp [*], by ((repeat' first | with_reducible exact Below.refl _ _ | with_reducible assumption | with_reducible refine Below.alloc ?_ ?_ _ | with_reducible refine Below.setCell ?_ ?_ _ | with_reducible apply Below.drew | with_reducible apply below_drewN | with_reducible refine below_call ?_ (by with_reducible assumption) ?_) <;> (first | omega | (simp; done) | (simp; omega) | (simp at *; omega)))⟩
      · go_enter Try.func45, Try.ntmps45
        go_wp2_with fail
        refine (h1 _).mono ?_
        rintro e wl0 ⟨rfl, rfl⟩
        go_wp2_with fail
        go_ret
        exact ⟨by simp [*], by ((repeat' first | with_reducible exact Below.refl _ _ | with_reducible assumption | with_reducible refine Below.alloc ?_ ?_ _ | with_reducible refine Below.setCell ?_ ?_ _ | with_reducible apply Below.drew | with_reducible apply below_drewN | with_reducible refine below_call ?_ (by with_reducible assumption) ?_) <;> (first | omega | (simp; done) | (simp; omega) | (simp at *; omega)))⟩
    · have ha2 : (ka == (5 : Int)) = false := by simp [ha]
      by_cases hb : kb = 5
      · subst hb
        go_enter Try.func45, Try.ntmps45
        go_wp2_with fail
        refine (h2 _).mono ?_
        rintro e wl0 ⟨rfl, rfl⟩
        go_wp2_with fail
        go_ret
        exact ⟨by simp [*], by ((repeat' first | with_reducible exact Below.refl _ _ | with_reducible assumption | with_reducible refine Below.alloc ?_ ?_ _ | with_reducible refine Below.setCell ?_ ?_ _ | with_reducible apply Below.drew | with_reducible apply below_drewN | with_reducible refine below_call ?_ (by with_reducible assumption) ?_) <;> (first | omega | (simp; done) | (simp; omega) | (simp at *; omega)))⟩
      · have hb2 : (kb == (5 : Int)) = false := by simp [hb]
        go_enter Try.func45, Try.ntmps45
        go_wp2_with fail
        go_ret
        exact ⟨by simp [*], by ((repeat' first | with_reducible exact Below.refl _ _ | with_reducible assumption | with_reducible refine Below.alloc ?_ ?_ _ | with_reducible refine Below.setCell ?_ ?_ _ | with_reducible apply Below.drew | with_reducible apply below_drewN | with_reducible refine below_call ?_ (by with_reducible assumption) ?_) <;> (first | omega | (simp; done) | (simp; omega) | (simp at *; omega)))⟩

/-- Whether two commands meet. -/
def cmeet (ka ca : Int) (ya : ByteArray) (kb cb : Int) (yb : ByteArray) : Bool :=
  if ka = 0 ∨ kb = 0 then false else if ka = 6 ∨ kb = 6 ∨ ca = cb then true else (cwrites ka || cwrites kb) && ckeys ka ya kb yb
set_option maxHeartbeats 4000000 in
theorem meet_any (ka ca qa : Int) (ya xa : ByteArray) (ra : Int) (kb cb qb : Int) (yb xb : ByteArray) (rb : Int) (w : World) :
    Calls Try.prog 23 #[.agg #[.int .i64 ka, .int .i64 ca, .int .i64 qa, .string ya, .string xa, .int .i64 ra], .agg #[.int .i64 kb, .int .i64 cb, .int .i64 qb, .string yb, .string xb, .int .i64 rb]] w (Gives w (.bool (cmeet ka ca ya kb cb yb))) := by
  obtain ⟨R, hR⟩ : ∃ R, R = cmeet ka ca ya kb cb yb := ⟨_, rfl⟩
  rw [← hR]
  have hwa := fun W => writes_any ka ca qa ya xa ra W
  have hwb := fun W => writes_any kb cb qb yb xb rb W
  have hkk := fun W => keys_any ka ca qa ya xa ra kb cb qb yb xb rb W
  obtain ⟨p, hp⟩ : ∃ p, p = cwrites ka := ⟨_, rfl⟩
  obtain ⟨q, hq⟩ : ∃ q, q = cwrites kb := ⟨_, rfl⟩
  obtain ⟨z, hz⟩ : ∃ z, z = ckeys ka ya kb yb := ⟨_, rfl⟩
  rw [← hp] at hwa
  rw [← hq] at hwb
  rw [← hz] at hkk
  have HR := Lib.hid (by rw [hR, cmeet, ← hp, ← hq, ← hz] : R = if ka = 0 ∨ kb = 0 then false else if ka = 6 ∨ kb = 6 ∨ ca = cb then true else (p || q) && z)
  clear hp hq hz hR
  by_cases h1 : ka = 0
  · subst h1
    go_enter Try.func23, Try.ntmps23
    go_wp2_with fail
    go_ret
    exact ⟨by rw [HR.out]; simp [*], by ((repeat' first | with_reducible exact Below.refl _ _ | with_reducible assumption | with_reducible refine Below.alloc ?_ ?_ _ | with_reducible refine Below.setCell ?_ ?_ _ | with_reducible apply Below.drew | with_reducible apply below_drewN | with_reducible refine below_call ?_ (by with_reducible assumption) ?_) <;> (first | omega | (simp; done) | (simp; omega) | (simp at *; omega)))⟩
  · have h12 : (ka == (0 : Int)) = false := by simp [h1]
    by_cases h2 : kb = 0
    · subst h2
      go_enter Try.func23, Try.ntmps23
      go_wp2_with fail
      go_ret
      exact ⟨by rw [HR.out]; simp [*], by ((repeat' first | with_reducible exact Below.refl _ _ | with_reducible assumption | with_reducible refine Below.alloc ?_ ?_ _ | with_reducible refine Below.setCell ?_ ?_ _ | with_reducible apply Below.drew | with_reducible apply below_drewN | with_reducible refine below_call ?_ (by with_reducible assumption) ?_) <;> (first | omega | (simp; done) | (simp; omega) | (simp at *; omega)))⟩
    · have h22 : (kb == (0 : Int)) = false := by simp [h2]
      by_cases h3 : ka = 6
      · subst h3
        go_enter Try.func23, Try.ntmps23
        go_wp2_with fail
        go_ret
        exact ⟨by rw [HR.out]; simp [*], by ((repeat' first | with_reducible exact Below.refl _ _ | with_reducible assumption | with_reducible refine Below.alloc ?_ ?_ _ | with_reducible refine Below.setCell ?_ ?_ _ | with_reducible apply Below.drew | with_reducible apply below_drewN | with_reducible refine below_call ?_ (by with_reducible assumption) ?_) <;> (first | omega | (simp; done) | (simp; omega) | (simp at *; omega)))⟩
      · have h32 : (ka == (6 : Int)) = false := by simp [h3]
        by_cases h4 : kb = 6
        · subst h4
          go_enter Try.func23, Try.ntmps23
          go_wp2_with fail
          go_ret
          exact ⟨by rw [HR.out]; simp [*], by ((repeat' first | with_reducible exact Below.refl _ _ | with_reducible assumption | with_reducible refine Below.alloc ?_ ?_ _ | with_reducible refine Below.setCell ?_ ?_ _ | with_reducible apply Below.drew | with_reducible apply below_drewN | with_reducible refine below_call ?_ (by with_reducible assumption) ?_) <;> (first | omega | (simp; done) | (simp; omega) | (simp at *; omega)))⟩
        · have h42 : (kb == (6 : Int)) = false := by simp [h4]
          by_cases h5 : ca = cb
          · subst h5
            go_enter Try.func23, Try.ntmps23
            go_wp2_with fail
            go_ret
            exact ⟨by rw [HR.out]; simp [*], by ((repeat' first | with_reducible exact Below.refl _ _ | with_reducible assumption | with_reducible refine Below.alloc ?_ ?_ _ | with_reducible refine Below.setCell ?_ ?_ _ | with_reducible apply Below.drew | with_reducible apply below_drewN | with_reducible refine below_call ?_ (by with_reducible assumption) ?_) <;> (first | omega | (simp; done) | (simp; omega) | (simp at *; omega)))⟩
          · have h52 : (ca == cb) = false := by simp [h5]
            cases p
            · cases q
              · go_enter Try.func23, Try.ntmps23
                go_wp2_with fail
                refine (hwa _).mono ?_
                rintro e wl0 ⟨rfl, hbl0⟩
                have zl0 := hbl0.size
                (try simp at zl0)
                have ma0 := cell_keep hbl0 (cell_alloc (o := (.cells #[.int .i64 kb, .int .i64 cb, .int .i64 qb, .string yb, .string xb, .int .i64 rb] 24)) (new_cell w #[.int .i64 ka, .int .i64 ca, .int .i64 qa, .string ya, .string xa, .int .i64 ra] 24 0 rfl).1)
                have ma1 := cell_keep hbl0 (cell_alloc (o := (.cells #[.int .i64 kb, .int .i64 cb, .int .i64 qb, .string yb, .string xb, .int .i64 rb] 24)) (new_cell w #[.int .i64 ka, .int .i64 ca, .int .i64 qa, .string ya, .string xa, .int .i64 ra] 24 1 rfl).1)
                have ma2 := cell_keep hbl0 (cell_alloc (o := (.cells #[.int .i64 kb, .int .i64 cb, .int .i64 qb, .string yb, .string xb, .int .i64 rb] 24)) (new_cell w #[.int .i64 ka, .int .i64 ca, .int .i64 qa, .string ya, .string xa, .int .i64 ra] 24 2 rfl).1)
                have ma3 := cell_keep hbl0 (cell_alloc (o := (.cells #[.int .i64 kb, .int .i64 cb, .int .i64 qb, .string yb, .string xb, .int .i64 rb] 24)) (new_cell w #[.int .i64 ka, .int .i64 ca, .int .i64 qa, .string ya, .string xa, .int .i64 ra] 24 3 rfl).1)
                have ma4 := cell_keep hbl0 (cell_alloc (o := (.cells #[.int .i64 kb, .int .i64 cb, .int .i64 qb, .string yb, .string xb, .int .i64 rb] 24)) (new_cell w #[.int .i64 ka, .int .i64 ca, .int .i64 qa, .string ya, .string xa, .int .i64 ra] 24 4 rfl).1)
                have ma5 := cell_keep hbl0 (cell_alloc (o := (.cells #[.int .i64 kb, .int .i64 cb, .int .i64 qb, .string yb, .string xb, .int .i64 rb] 24)) (new_cell w #[.int .i64 ka, .int .i64 ca, .int .i64 qa, .string ya, .string xa, .int .i64 ra] 24 5 rfl).1)
                have mb0 := cell_keep hbl0 (new_cell (w.alloc (.cells #[.int .i64 ka, .int .i64 ca, .int .i64 qa, .string ya, .string xa, .int .i64 ra] 24)) #[.int .i64 kb, .int .i64 cb, .int .i64 qb, .string yb, .string xb, .int .i64 rb] 24 0 rfl).1
                (try simp at mb0)
                have mb1 := cell_keep hbl0 (new_cell (w.alloc (.cells #[.int .i64 ka, .int .i64 ca, .int .i64 qa, .string ya, .string xa, .int .i64 ra] 24)) #[.int .i64 kb, .int .i64 cb, .int .i64 qb, .string yb, .string xb, .int .i64 rb] 24 1 rfl).1
                (try simp at mb1)
                have mb2 := cell_keep hbl0 (new_cell (w.alloc (.cells #[.int .i64 ka, .int .i64 ca, .int .i64 qa, .string ya, .string xa, .int .i64 ra] 24)) #[.int .i64 kb, .int .i64 cb, .int .i64 qb, .string yb, .string xb, .int .i64 rb] 24 2 rfl).1
                (try simp at mb2)
                have mb3 := cell_keep hbl0 (new_cell (w.alloc (.cells #[.int .i64 ka, .int .i64 ca, .int .i64 qa, .string ya, .string xa, .int .i64 ra] 24)) #[.int .i64 kb, .int .i64 cb, .int .i64 qb, .string yb, .string xb, .int .i64 rb] 24 3 rfl).1
                (try simp at mb3)
                have mb4 := cell_keep hbl0 (new_cell (w.alloc (.cells #[.int .i64 ka, .int .i64 ca, .int .i64 qa, .string ya, .string xa, .int .i64 ra] 24)) #[.int .i64 kb, .int .i64 cb, .int .i64 qb, .string yb, .string xb, .int .i64 rb] 24 4 rfl).1
                (try simp at mb4)
                have mb5 := cell_keep hbl0 (new_cell (w.alloc (.cells #[.int .i64 ka, .int .i64 ca, .int .i64 qa, .string ya, .string xa, .int .i64 ra] 24)) #[.int .i64 kb, .int .i64 cb, .int .i64 qb, .string yb, .string xb, .int .i64 rb] 24 5 rfl).1
                (try simp at mb5)
                go_wp2_with fail
                refine (hwb _).mono ?_
                rintro e wl1 ⟨rfl, hbl1⟩
                have zl1 := hbl1.size
                (try simp at zl1)
                replace ma0 := cell_keep hbl1 ma0
                replace ma1 := cell_keep hbl1 ma1
                replace ma2 := cell_keep hbl1 ma2
                replace ma3 := cell_keep hbl1 ma3
                replace ma4 := cell_keep hbl1 ma4
                replace ma5 := cell_keep hbl1 ma5
                replace mb0 := cell_keep hbl1 mb0
                replace mb1 := cell_keep hbl1 mb1
                replace mb2 := cell_keep hbl1 mb2
                replace mb3 := cell_keep hbl1 mb3
                replace mb4 := cell_keep hbl1 mb4
                replace mb5 := cell_keep hbl1 mb5
                go_wp2_with fail
                go_ret
                exact ⟨by rw [HR.out]; simp [*], by ((repeat' first | with_reducible exact Below.refl _ _ | with_reducible assumption | with_reducible refine Below.alloc ?_ ?_ _ | with_reducible refine Below.setCell ?_ ?_ _ | with_reducible apply Below.drew | with_reducible apply below_drewN | with_reducible refine below_call ?_ (by with_reducible assumption) ?_) <;> (first | omega | (simp; done) | (simp; omega) | (simp at *; omega)))⟩
              · go_enter Try.func23, Try.ntmps23
                go_wp2_with fail
                refine (hwa _).mono ?_
                rintro e wl0 ⟨rfl, hbl0⟩
                have zl0 := hbl0.size
                (try simp at zl0)
                have ma0 := cell_keep hbl0 (cell_alloc (o := (.cells #[.int .i64 kb, .int .i64 cb, .int .i64 qb, .string yb, .string xb, .int .i64 rb] 24)) (new_cell w #[.int .i64 ka, .int .i64 ca, .int .i64 qa, .string ya, .string xa, .int .i64 ra] 24 0 rfl).1)
                have ma1 := cell_keep hbl0 (cell_alloc (o := (.cells #[.int .i64 kb, .int .i64 cb, .int .i64 qb, .string yb, .string xb, .int .i64 rb] 24)) (new_cell w #[.int .i64 ka, .int .i64 ca, .int .i64 qa, .string ya, .string xa, .int .i64 ra] 24 1 rfl).1)
                have ma2 := cell_keep hbl0 (cell_alloc (o := (.cells #[.int .i64 kb, .int .i64 cb, .int .i64 qb, .string yb, .string xb, .int .i64 rb] 24)) (new_cell w #[.int .i64 ka, .int .i64 ca, .int .i64 qa, .string ya, .string xa, .int .i64 ra] 24 2 rfl).1)
                have ma3 := cell_keep hbl0 (cell_alloc (o := (.cells #[.int .i64 kb, .int .i64 cb, .int .i64 qb, .string yb, .string xb, .int .i64 rb] 24)) (new_cell w #[.int .i64 ka, .int .i64 ca, .int .i64 qa, .string ya, .string xa, .int .i64 ra] 24 3 rfl).1)
                have ma4 := cell_keep hbl0 (cell_alloc (o := (.cells #[.int .i64 kb, .int .i64 cb, .int .i64 qb, .string yb, .string xb, .int .i64 rb] 24)) (new_cell w #[.int .i64 ka, .int .i64 ca, .int .i64 qa, .string ya, .string xa, .int .i64 ra] 24 4 rfl).1)
                have ma5 := cell_keep hbl0 (cell_alloc (o := (.cells #[.int .i64 kb, .int .i64 cb, .int .i64 qb, .string yb, .string xb, .int .i64 rb] 24)) (new_cell w #[.int .i64 ka, .int .i64 ca, .int .i64 qa, .string ya, .string xa, .int .i64 ra] 24 5 rfl).1)
                have mb0 := cell_keep hbl0 (new_cell (w.alloc (.cells #[.int .i64 ka, .int .i64 ca, .int .i64 qa, .string ya, .string xa, .int .i64 ra] 24)) #[.int .i64 kb, .int .i64 cb, .int .i64 qb, .string yb, .string xb, .int .i64 rb] 24 0 rfl).1
                (try simp at mb0)
                have mb1 := cell_keep hbl0 (new_cell (w.alloc (.cells #[.int .i64 ka, .int .i64 ca, .int .i64 qa, .string ya, .string xa, .int .i64 ra] 24)) #[.int .i64 kb, .int .i64 cb, .int .i64 qb, .string yb, .string xb, .int .i64 rb] 24 1 rfl).1
                (try simp at mb1)
                have mb2 := cell_keep hbl0 (new_cell (w.alloc (.cells #[.int .i64 ka, .int .i64 ca, .int .i64 qa, .string ya, .string xa, .int .i64 ra] 24)) #[.int .i64 kb, .int .i64 cb, .int .i64 qb, .string yb, .string xb, .int .i64 rb] 24 2 rfl).1
                (try simp at mb2)
                have mb3 := cell_keep hbl0 (new_cell (w.alloc (.cells #[.int .i64 ka, .int .i64 ca, .int .i64 qa, .string ya, .string xa, .int .i64 ra] 24)) #[.int .i64 kb, .int .i64 cb, .int .i64 qb, .string yb, .string xb, .int .i64 rb] 24 3 rfl).1
                (try simp at mb3)
                have mb4 := cell_keep hbl0 (new_cell (w.alloc (.cells #[.int .i64 ka, .int .i64 ca, .int .i64 qa, .string ya, .string xa, .int .i64 ra] 24)) #[.int .i64 kb, .int .i64 cb, .int .i64 qb, .string yb, .string xb, .int .i64 rb] 24 4 rfl).1
                (try simp at mb4)
                have mb5 := cell_keep hbl0 (new_cell (w.alloc (.cells #[.int .i64 ka, .int .i64 ca, .int .i64 qa, .string ya, .string xa, .int .i64 ra] 24)) #[.int .i64 kb, .int .i64 cb, .int .i64 qb, .string yb, .string xb, .int .i64 rb] 24 5 rfl).1
                (try simp at mb5)
                go_wp2_with fail
                refine (hwb _).mono ?_
                rintro e wl1 ⟨rfl, hbl1⟩
                have zl1 := hbl1.size
                (try simp at zl1)
                replace ma0 := cell_keep hbl1 ma0
                replace ma1 := cell_keep hbl1 ma1
                replace ma2 := cell_keep hbl1 ma2
                replace ma3 := cell_keep hbl1 ma3
                replace ma4 := cell_keep hbl1 ma4
                replace ma5 := cell_keep hbl1 ma5
                replace mb0 := cell_keep hbl1 mb0
                replace mb1 := cell_keep hbl1 mb1
                replace mb2 := cell_keep hbl1 mb2
                replace mb3 := cell_keep hbl1 mb3
                replace mb4 := cell_keep hbl1 mb4
                replace mb5 := cell_keep hbl1 mb5
                go_wp2_with fail
                refine (hkk _).mono ?_
                rintro e wl2 ⟨rfl, hbl2⟩
                have zl2 := hbl2.size
                (try simp at zl2)
                go_wp2_with fail
                go_ret
                exact ⟨by rw [HR.out]; simp [*], by ((repeat' first | with_reducible exact Below.refl _ _ | with_reducible assumption | with_reducible refine Below.alloc ?_ ?_ _ | with_reducible refine Below.setCell ?_ ?_ _ | with_reducible apply Below.drew | with_reducible apply below_drewN | with_reducible refine below_call ?_ (by with_reducible assumption) ?_) <;> (first | omega | (simp; done) | (simp; omega) | (simp at *; omega)))⟩
            · go_enter Try.func23, Try.ntmps23
              go_wp2_with fail
              refine (hwa _).mono ?_
              rintro e wl0 ⟨rfl, hbl0⟩
              have zl0 := hbl0.size
              (try simp at zl0)
              have ma0 := cell_keep hbl0 (cell_alloc (o := (.cells #[.int .i64 kb, .int .i64 cb, .int .i64 qb, .string yb, .string xb, .int .i64 rb] 24)) (new_cell w #[.int .i64 ka, .int .i64 ca, .int .i64 qa, .string ya, .string xa, .int .i64 ra] 24 0 rfl).1)
              have ma1 := cell_keep hbl0 (cell_alloc (o := (.cells #[.int .i64 kb, .int .i64 cb, .int .i64 qb, .string yb, .string xb, .int .i64 rb] 24)) (new_cell w #[.int .i64 ka, .int .i64 ca, .int .i64 qa, .string ya, .string xa, .int .i64 ra] 24 1 rfl).1)
              have ma2 := cell_keep hbl0 (cell_alloc (o := (.cells #[.int .i64 kb, .int .i64 cb, .int .i64 qb, .string yb, .string xb, .int .i64 rb] 24)) (new_cell w #[.int .i64 ka, .int .i64 ca, .int .i64 qa, .string ya, .string xa, .int .i64 ra] 24 2 rfl).1)
              have ma3 := cell_keep hbl0 (cell_alloc (o := (.cells #[.int .i64 kb, .int .i64 cb, .int .i64 qb, .string yb, .string xb, .int .i64 rb] 24)) (new_cell w #[.int .i64 ka, .int .i64 ca, .int .i64 qa, .string ya, .string xa, .int .i64 ra] 24 3 rfl).1)
              have ma4 := cell_keep hbl0 (cell_alloc (o := (.cells #[.int .i64 kb, .int .i64 cb, .int .i64 qb, .string yb, .string xb, .int .i64 rb] 24)) (new_cell w #[.int .i64 ka, .int .i64 ca, .int .i64 qa, .string ya, .string xa, .int .i64 ra] 24 4 rfl).1)
              have ma5 := cell_keep hbl0 (cell_alloc (o := (.cells #[.int .i64 kb, .int .i64 cb, .int .i64 qb, .string yb, .string xb, .int .i64 rb] 24)) (new_cell w #[.int .i64 ka, .int .i64 ca, .int .i64 qa, .string ya, .string xa, .int .i64 ra] 24 5 rfl).1)
              have mb0 := cell_keep hbl0 (new_cell (w.alloc (.cells #[.int .i64 ka, .int .i64 ca, .int .i64 qa, .string ya, .string xa, .int .i64 ra] 24)) #[.int .i64 kb, .int .i64 cb, .int .i64 qb, .string yb, .string xb, .int .i64 rb] 24 0 rfl).1
              (try simp at mb0)
              have mb1 := cell_keep hbl0 (new_cell (w.alloc (.cells #[.int .i64 ka, .int .i64 ca, .int .i64 qa, .string ya, .string xa, .int .i64 ra] 24)) #[.int .i64 kb, .int .i64 cb, .int .i64 qb, .string yb, .string xb, .int .i64 rb] 24 1 rfl).1
              (try simp at mb1)
              have mb2 := cell_keep hbl0 (new_cell (w.alloc (.cells #[.int .i64 ka, .int .i64 ca, .int .i64 qa, .string ya, .string xa, .int .i64 ra] 24)) #[.int .i64 kb, .int .i64 cb, .int .i64 qb, .string yb, .string xb, .int .i64 rb] 24 2 rfl).1
              (try simp at mb2)
              have mb3 := cell_keep hbl0 (new_cell (w.alloc (.cells #[.int .i64 ka, .int .i64 ca, .int .i64 qa, .string ya, .string xa, .int .i64 ra] 24)) #[.int .i64 kb, .int .i64 cb, .int .i64 qb, .string yb, .string xb, .int .i64 rb] 24 3 rfl).1
              (try simp at mb3)
              have mb4 := cell_keep hbl0 (new_cell (w.alloc (.cells #[.int .i64 ka, .int .i64 ca, .int .i64 qa, .string ya, .string xa, .int .i64 ra] 24)) #[.int .i64 kb, .int .i64 cb, .int .i64 qb, .string yb, .string xb, .int .i64 rb] 24 4 rfl).1
              (try simp at mb4)
              have mb5 := cell_keep hbl0 (new_cell (w.alloc (.cells #[.int .i64 ka, .int .i64 ca, .int .i64 qa, .string ya, .string xa, .int .i64 ra] 24)) #[.int .i64 kb, .int .i64 cb, .int .i64 qb, .string yb, .string xb, .int .i64 rb] 24 5 rfl).1
              (try simp at mb5)
              go_wp2_with fail
              refine (hkk _).mono ?_
              rintro e wl1 ⟨rfl, hbl1⟩
              have zl1 := hbl1.size
              (try simp at zl1)
              go_wp2_with fail
              go_ret
              exact ⟨by rw [HR.out]; simp [*], by ((repeat' first | with_reducible exact Below.refl _ _ | with_reducible assumption | with_reducible refine Below.alloc ?_ ?_ _ | with_reducible refine Below.setCell ?_ ?_ _ | with_reducible apply Below.drew | with_reducible apply below_drewN | with_reducible refine below_call ?_ (by with_reducible assumption) ?_) <;> (first | omega | (simp; done) | (simp; omega) | (simp at *; omega)))⟩
end Go.Proofs.Ytpdfbkkhmfnnjaa
