/- The walks of stonecropref04.Runes, Beginning, Key. -/
import Derived.Test.YtmgiholmhhjpaaaDoorRecChecksQ22
import Derived.Test.YtmgiholmhhjpaaaDoorRecChecksQ9
namespace Go.Proofs.YtmgiholmhhjpaaaDoor
open Go.RowKit
set_option linter.unusedVariables false
set_option linter.unusedSimpArgs false
set_option maxRecDepth 20000
attribute [local go_sem ↓] Go.wp_at_zero Go.wp_at_succ
attribute [local go_sem] World.cell?_alloc_some frozen_alloc_some
attribute [local go_sem] lt2 lt3 lt4 lt5
attribute [local simp] lt2 lt3 lt4 lt5

theorem info_rune : ∃ i, Tryd.prog.info? 119 = some i ∧ i.zero = some (.agg #[.int .i64 0, .int .i64 0]) ∧ i.size = 2 ∧ i.bytes = 16 := by
  have h : (Tryd.prog.info? 119).map (fun i => (i.zero, i.size, i.bytes)) = some (some (.agg #[.int .i64 0, .int .i64 0]), 2, 16) := by kernel_rfl
  cases hi : Tryd.prog.info? 119 with
  | none => rw [hi] at h; cases h
  | some i =>
    rw [hi] at h
    simp at h
    exact ⟨i, rfl, h.1, h.2.1, h.2.2⟩
theorem own_form2 {w : World} {base : Nat} {e : TypeId} {size : Nat} {v : Value} {n : Nat} {xs : List Value} (h : w.ownsRow base e size v n xs) : ∃ A c, v = .slice A n c ∧ n ≤ c ∧ c ≤ maxLen := by
  rcases h.2 with ⟨rfl, rfl⟩ | ⟨g, cap, cur, rfl, _, _, hle, hm, _⟩
  · exact ⟨none, 0, rfl, Nat.le_refl _, Nat.zero_le _⟩
  · exact ⟨_, cap, rfl, hle, hm⟩
theorem grown_cell_any {w w' : World} {row : Option Nat} (hg : w.grownBy w' row) {a : Addr} {v : Value} (h : w.cell? a = some v) (hr : some a.block ≠ row) : w'.cell? a = some v := by
  rw [← h]
  exact World.cell?_of_block (w := w) (hg.block _ (World.block_lt_of_cell? _ _ h) hr)
/-- The document's runes from a place on. -/
def drunes (s : ByteArray) : Nat → Nat → List (Int × Nat)
  | 0, _ => []
  | f + 1, pos => if pos < s.size then dAt s pos :: drunes s f (pos + (dAt s pos).2) else []
theorem drunes_end (s : ByteArray) (f pos : Nat) (h : ¬ pos < s.size) : drunes s f pos = [] := by cases f <;> simp [drunes, h]
theorem dAt_width (s : ByteArray) (pos : Nat) : (dAt s pos).2 = (Utf8.decode s pos).2 := by
  rw [dAt_eq]; unfold dLone; split
  · rename_i h; exact h.2.symm
  · rfl
theorem dAt_bounds (s : ByteArray) (pos : Nat) (h : pos < s.size) : 1 ≤ (dAt s pos).2 ∧ (dAt s pos).2 ≤ 4 := by
  refine ⟨by rw [dAt_width]; exact width_pos s pos h, ?_⟩
  unfold dAt dN
  repeat' split
  all_goals simp
def rcells (l : List (Int × Nat)) : List Value := l.flatMap fun r => [.int .i64 r.1, .int .i64 (r.2 : Int)]
theorem rcells_snoc (l : List (Int × Nat)) (r : Int × Nat) : rcells (l ++ [r]) = rcells l ++ [.int .i64 r.1, .int .i64 (r.2 : Int)] := by simp [rcells]
theorem rcells_len (l : List (Int × Nat)) : (rcells l).length = 2 * l.length := by induction l with | nil => rfl | cons a l ih => simp [rcells] at ih ⊢; omega
theorem rcells_get (l : List (Int × Nat)) (i : Nat) (r : Int × Nat) (h : l[i]? = some r) : (rcells l)[2 * i]? = some (.int .i64 r.1) := by
  induction l generalizing i with
  | nil => simp at h
  | cons a l ih =>
    cases i with
    | zero => simp at h; subst h; rfl
    | succ i =>
      have := ih i (by simpa using h)
      rw [show 2 * (i + 1) = 2 * i + 2 by omega]
      simpa [rcells] using this
def rmore (s : ByteArray) (f pos : Nat) : Nat := (drunes s f pos).length
/-- A row of its own of runes. -/
def RowR (w : World) (base : Nat) (v : Value) (l : List (Int × Nat)) : Prop := w.ownsRow base 119 2 v l.length (rcells l)
set_option maxHeartbeats 8000000 in
theorem runes_any (s : ByteArray) (w : World) (hs : s.size ≤ 1000000000) : Calls Tryd.prog 87 #[.string s] w (fun e w' => ∃ v, e = .returned v ∧ RowR w' w.heap.size v (drunes s s.size 0) ∧ Below w.heap.size w w') := by
  obtain ⟨L, hL⟩ : ∃ L, L = drunes s s.size 0 := ⟨_, rfl⟩
  rw [← hL]
  have HL := Lib.hid hL
  clear hL
  go_enter Tryd.func87, Tryd.ntmps87
  go_wp2_with fail
  go_loopw [3, 4] (fun s3 s4 wr => ∃ (pre : List (Int × Nat)) (pos f : Nat), s4 = .int .i64 (pos : Int) ∧ RowR wr w.heap.size s3 pre ∧ Below w.heap.size w wr ∧ L = pre ++ drunes s f pos ∧ s.size ≤ pos + f ∧ pos ≤ s.size + 4 ∧ pre.length ≤ pos) (fun _ s4 _ => s.size + 5 - (intOf s4).toNat)
  case atStart => exact ⟨[], 0, s.size, rfl, World.ownsRow_nil _ _ _ _, Below.refl _ _, HL.out, by omega, by omega, by simp⟩
  case round =>
    obtain ⟨pre, pos, f, rfl, hrow, hbr, hl, hf, hp4, hpl⟩ := hrel
    have zr := hbr.size
    by_cases hp : pos < s.size
    · have hat := at_any s pos wr hp hs
      have hw := dAt_bounds s pos hp
      obtain ⟨f, rfl⟩ : ∃ f', f = f' + 1 := ⟨f - 1, by omega⟩
      simp only [drunes, if_pos hp] at hl
      generalize dAt s pos = y at *
      obtain ⟨V, N⟩ := y
      simp only at hw hl
      unfold rv at hat
      simp only at hat
      have hp' : (pos : Int) < (s.size : Int) := by omega
      have hwn : IntKind.i64.wrap ((pos : Int) + (N : Int)) = ((pos + N : Nat) : Int) := by rw [IntWalk.i64_in _ (by omega)]; omega
      have Hl := Lib.hid hl
      have Hrow := Lib.hid hrow
      obtain ⟨A3, c3, rfl, hl3, hc3⟩ := own_form2 hrow
      clear hl hrow
      go_wp2_with fail
      refine hat.mono ?_
      rintro e w1 ⟨rfl, hb1⟩
      have z1 := hb1.size
      have hrow1 : w1.ownsRow w.heap.size 119 2 (.slice A3 pre.length c3) pre.length (rcells pre) := World.ownsRow.kept Hrow.out (grown_of_below hb1 none) (by cases (Value.slice A3 pre.length c3).ownBlock <;> simp)
      have hbb : Below w.heap.size w ((w1.alloc (.cells #[.int .i64 V, .int .i64 (N : Int)] 119)).alloc (.cells #[.int .i64 V, .int .i64 (N : Int)] 119)) := ((below_call hbr hb1 zr).alloc (by omega) _).alloc (by simp; omega) _
      have hrow2 : ((w1.alloc (.cells #[.int .i64 V, .int .i64 (N : Int)] 119)).alloc (.cells #[.int .i64 V, .int .i64 (N : Int)] 119)).ownsRow w.heap.size 119 2 (.slice A3 pre.length c3) pre.length (rcells pre) :=
        World.ownsRow.kept hrow1 (grown_of_below ((below_one _).trans ((below_one _).mono (by simp))) none) (by cases (Value.slice A3 pre.length c3).ownBlock <;> simp)
      have hsrc : Src ((w1.alloc (.cells #[.int .i64 V, .int .i64 (N : Int)] 119)).alloc (.cells #[.int .i64 V, .int .i64 (N : Int)] 119)) 2 (some ⟨w1.heap.size + 1, 0, none⟩) 1 [.int .i64 V, .int .i64 (N : Int)] := by
        refine ⟨rfl, fun j x hj => ⟨_, rfl, ?_⟩, fun x hx => ?_⟩
        · have hadd : (⟨w1.heap.size + 1, 0, none⟩ : Addr).add j = ⟨w1.heap.size + 1, j, none⟩ := by unfold Addr.add; split <;> simp_all
          rw [hadd]
          have h := (new_cell (w1.alloc (.cells #[.int .i64 V, .int .i64 (N : Int)] 119)) #[.int .i64 V, .int .i64 (N : Int)] 119 j (by simpa using hj)).1
          simp only [World.size_alloc] at h
          exact h
        · simp at hx; rcases hx with rfl | rfl <;> rfl
      have n5 : ((w1.alloc (.cells #[.int .i64 V, .int .i64 (N : Int)] 119)).alloc (.cells #[.int .i64 V, .int .i64 (N : Int)] 119)).cell? ⟨w1.heap.size, 1, none⟩ = some (.int .i64 (N : Int)) := cell_alloc (new_cell w1 _ _ 1 rfl).1
      have hnrow : some w1.heap.size ≠ (Value.slice A3 pre.length c3).ownBlock := fun e => Nat.lt_irrefl _ (Nat.lt_of_lt_of_le ((Hrow.out.lt _ e.symm).2) z1)
      obtain ⟨ii, hi, hz0, hz1, hz2⟩ := info_rune
      go_wp2_with ((at_builtin; go_loud (refine wpList_app _ rfl (.tmp 13) (.tmp 15) 116 rfl _ 119 ii _ 2 16 Tryd.underlying116 hi hz0 hz1 hz2 rfl (by omega) _ _ _ rfl hrow2 _ _ _ _ rfl hsrc ?h63 ?hby ?hbase ?_); (case h63 => (unfold maxLen; first | omega | (simp; done) | (simp; omega))); (case hby => first | omega | (simp; done) | (simp; omega)); (case hbase => first | omega | (simp; done) | (simp; omega)); intro v6 w6 hownw6 hgroww6 hatw6 holdw6); have n6 := grown_cell_any hgroww6 n5 hnrow)
      go_roundw
      case rel =>
        refine ⟨pre ++ [(V, N)], pos + N, f, by first | rfl | go_num, ?_, below_app hbb hrow2 hgroww6 (Nat.le_refl _) (by simp; omega), by rw [Hl.out]; simp, by omega, by omega, by simp; omega⟩
        unfold RowR
        rw [rcells_snoc, List.length_append, List.length_singleton]
        exact hownw6
      case measure => simp [intOf]; omega
    · rw [drunes_end s f pos hp, List.append_nil] at hl
      subst hl
      have hp' : ¬ (pos : Int) < (s.size : Int) := by omega
      have Hrow := Lib.hid hrow
      clear hrow
      go_wp2_with fail
      go_ret
      exact ⟨_, rfl, Hrow.out, hbr⟩
theorem RowR.elem {w : World} {base : Nat} {A : Option Addr} {m c : Nat} {l : List (Int × Nat)} (h : RowR w base (.slice A m c) l) {j : Nat} {r : Int × Nat} (hj : l[j]? = some r) :
    ∃ ad eb eo, A = some ad ∧ ad.add (j * 2) = ⟨eb, eo, none⟩ ∧ w.cell? ⟨eb, eo, none⟩ = some (.int .i64 r.1) := by
  have hlt : j < l.length := (List.getElem?_eq_some_iff.1 hj).1
  rcases h.2 with ⟨hv, hn⟩ | ⟨g, cap, cur, hv, hb, _⟩
  · omega
  · injection hv with hv _ _
    subst hv
    have hc := World.ownsRow.cells h (g := g) rfl (2 * j) (.int .i64 r.1) (rcells_get l j r hj)
    have hadd : (⟨g, 0, none⟩ : Addr).add (j * 2) = ⟨g, 2 * j, none⟩ := by unfold Addr.add; split <;> simp_all <;> omega
    have hadd2 : (⟨g, 0, none⟩ : Addr).add (2 * j) = ⟨g, 2 * j, none⟩ := by unfold Addr.add; split <;> simp_all
    rw [hadd2] at hc
    exact ⟨_, g, 2 * j, rfl, hadd, hc⟩
def dbad (r : Int × Nat) : Bool := decide (r.1 < 32) || r.1 == 127
def dbeg (s : ByteArray) : Bool := (drunes s s.size 0).all (fun r => !dbad r) && decide ((drunes s s.size 0).length ≤ 32)
set_option maxHeartbeats 8000000 in
theorem dbeg_any (s : ByteArray) (w : World) (hs : s.size ≤ 1000000000) : Calls Tryd.prog 63 #[.string s] w (Gives w (.bool (dbeg s))) := by
  have hru := runes_any s w hs
  obtain ⟨R, hR⟩ : ∃ R, R = dbeg s := ⟨_, rfl⟩
  rw [← hR]
  unfold dbeg at hR
  generalize drunes s s.size 0 = l at *
  have HR := Lib.hid hR
  clear hR
  go_enter Tryd.func63, Tryd.ntmps63
  go_wp2_with fail
  refine hru.mono ?_
  rintro e w1 ⟨v, rfl, hrow, hb1⟩
  obtain ⟨A, c, rfl, hlc, hcm⟩ := own_form2 hrow
  have z1 := hb1.size
  have Hrow := Lib.hid hrow
  have hlm : l.length ≤ 9223372036854775807 := Nat.le_trans hlc hcm
  clear hrow hru
  go_wp2_with fail
  go_loop [4] (fun s4 => ∃ j : Nat, j ≤ l.length ∧ s4 = .int .i64 (j : Int) ∧ ∀ t r, t < j → l[t]? = some r → dbad r = false) (fun s4 => l.length - (intOf s4).toNat)
  case atStart => exact ⟨0, by omega, rfl, fun t r ht => absurd ht (by omega)⟩
  case round =>
    obtain ⟨j, hj, rfl, hbf⟩ := hrel
    have Hbf := Lib.hid hbf
    clear hbf
    by_cases hlt : j < l.length
    · have hget : l[j]? = some l[j] := List.getElem?_eq_getElem hlt
      obtain ⟨ad, eb, eo, rfl, ha, hc⟩ := Hrow.out.elem hget
      have Hget := Lib.hid hget
      generalize l[j] = r at *
      obtain ⟨V, N⟩ := r
      simp only at hc
      have j0 : (0 : Int) ≤ (j : Int) := by omega
      have j1 : (j : Int) < (l.length : Int) := by omega
      clear hget
      by_cases g1 : V < 32
      · go_wp2_with fail
        go_ret
        refine ⟨?_, by ((repeat' first | with_reducible exact Below.refl _ _ | with_reducible assumption | with_reducible refine Below.alloc ?_ ?_ _ | with_reducible refine Below.setCell ?_ ?_ _ | with_reducible apply Below.drew | with_reducible apply below_drewN | with_reducible refine below_call ?_ (by with_reducible assumption) ?_) <;> (first | omega | (simp; done) | (simp; omega) | (simp at *; omega)))⟩
        rw [HR.out]
        have : l.all (fun r => !dbad r) = false := List.all_eq_false.2 ⟨(V, N), List.mem_of_getElem? Hget.out, by simp [dbad, g1]⟩
        rw [this]; rfl
      · by_cases g2 : V = 127
        · have g2' : (V == (127 : Int)) = true := by simp [g2]
          clear g2
          go_wp2_with fail
          go_ret
          refine ⟨?_, by ((repeat' first | with_reducible exact Below.refl _ _ | with_reducible assumption | with_reducible refine Below.alloc ?_ ?_ _ | with_reducible refine Below.setCell ?_ ?_ _ | with_reducible apply Below.drew | with_reducible apply below_drewN | with_reducible refine below_call ?_ (by with_reducible assumption) ?_) <;> (first | omega | (simp; done) | (simp; omega) | (simp at *; omega)))⟩
          rw [HR.out]
          have : l.all (fun r => !dbad r) = false := List.all_eq_false.2 ⟨(V, N), List.mem_of_getElem? Hget.out, by simp [dbad, g2']⟩
          rw [this]; rfl
        · have g2' : (V == (127 : Int)) = false := by simp [g2]
          go_wp2_with fail
          go_round
          case rel => exact ⟨j + 1, by omega, by first | rfl | go_num, fun t r ht hr => by
            by_cases h : t < j
            · exact Hbf.out t r h hr
            · obtain rfl : t = j := by omega
              rw [Hget.out] at hr
              injection hr with hr
              subst hr
              simp [dbad, g2']; omega⟩
          case measure => simp [intOf]; omega
    · have hjl : j = l.length := by omega
      have hall : l.all (fun r => !dbad r) = true := List.all_eq_true.2 fun r hr => by
        obtain ⟨t, ht, rfl⟩ := List.mem_iff_getElem.1 hr
        simp [Hbf.out t l[t] (by omega) (List.getElem?_eq_getElem ht)]
      have hr2 := HR.out
      rw [hall, Bool.true_and] at hr2
      have Hr2 := Lib.hid hr2
      clear hall hr2 hjl
      by_cases g : l.length ≤ 32
      · have g' : (l.length : Int) ≤ 32 := by omega
        go_wp2_with fail
        go_ret
        exact ⟨by rw [Hr2.out]; simp [g], by ((repeat' first | with_reducible exact Below.refl _ _ | with_reducible assumption | with_reducible refine Below.alloc ?_ ?_ _ | with_reducible refine Below.setCell ?_ ?_ _ | with_reducible apply Below.drew | with_reducible apply below_drewN | with_reducible refine below_call ?_ (by with_reducible assumption) ?_) <;> (first | omega | (simp; done) | (simp; omega) | (simp at *; omega)))⟩
      · have g' : ¬ (l.length : Int) ≤ 32 := by omega
        go_wp2_with fail
        go_ret
        exact ⟨by rw [Hr2.out]; simp [g], by ((repeat' first | with_reducible exact Below.refl _ _ | with_reducible assumption | with_reducible refine Below.alloc ?_ ?_ _ | with_reducible refine Below.setCell ?_ ?_ _ | with_reducible apply Below.drew | with_reducible apply below_drewN | with_reducible refine below_call ?_ (by with_reducible assumption) ?_) <;> (first | omega | (simp; done) | (simp; omega) | (simp at *; omega)))⟩
def dkey (s : ByteArray) : Bool := !(s.toList == []) && dbeg s
theorem dkey_any (s : ByteArray) (w : World) (hs : s.size ≤ 1000000000) : Calls Tryd.prog 64 #[.string s] w (Gives w (.bool (dkey s))) := by
  have hb := fun W => dbeg_any s W hs
  unfold dkey
  generalize dbeg s = b at *
  by_cases h : s.toList = []
  · have h' : (s.toList == []) = true := by simp [h]
    have h2 : s.toList.isEmpty = true := by simp [h]
    rw [h']
    go_enter Tryd.func64, Tryd.ntmps64
    go_wp2_with fail
    go_ret
    exact ⟨rfl, by ((repeat' first | with_reducible exact Below.refl _ _ | with_reducible assumption | with_reducible refine Below.alloc ?_ ?_ _ | with_reducible refine Below.setCell ?_ ?_ _ | with_reducible apply Below.drew | with_reducible apply below_drewN | with_reducible refine below_call ?_ (by with_reducible assumption) ?_) <;> (first | omega | (simp; done) | (simp; omega) | (simp at *; omega)))⟩
  · have h' : (s.toList == []) = false := by simp [h]
    have h2 : s.toList.isEmpty = false := by simp [h]
    rw [h']
    go_enter Tryd.func64, Tryd.ntmps64
    go_wp2_with fail
    refine (hb _).mono ?_
    rintro e w1 ⟨rfl, hb1⟩
    go_wp2_with fail
    go_ret
    exact ⟨by simp, by ((repeat' first | with_reducible exact Below.refl _ _ | with_reducible assumption | with_reducible refine Below.alloc ?_ ?_ _ | with_reducible refine Below.setCell ?_ ?_ _ | with_reducible apply Below.drew | with_reducible apply below_drewN | with_reducible refine below_call ?_ (by with_reducible assumption) ?_) <;> (first | omega | (simp; done) | (simp; omega) | (simp at *; omega)))⟩
/-- The document's count and test against the library's decoder. -/
theorem drunes_len (s : ByteArray) : ∀ (f pos : Nat), (drunes s f pos).length = rcnt s f pos
  | 0, _ => rfl
  | f + 1, pos => by
    simp only [drunes, rcnt]
    split
    · rw [List.length_cons, drunes_len s f, dAt_width]; omega
    · rfl
theorem dbad_eq (s : ByteArray) (pos : Nat) : dbad (dAt s pos) = rbad s pos := by
  rw [dAt_eq]
  unfold dbad rbad lone dLone
  generalize Utf8.decode s pos = y
  obtain ⟨c, l⟩ := y
  by_cases h : c = 65533 ∧ l = 1
  · obtain ⟨rfl, rfl⟩ := h; rfl
  · simp only [if_neg h]
    have h2 : (c == 65533 && l == 1) = false := by
      rw [Bool.eq_false_iff]; intro e; simp at e; exact h e
    rw [h2, Bool.or_false]
    congr 1
    · rw [decide_eq_decide]; omega
    · rw [Bool.eq_iff_iff]; simp; omega
theorem drunes_all (s : ByteArray) : ∀ (f pos : Nat), (drunes s f pos).all (fun r => !dbad r) = rclean s f pos
  | 0, _ => rfl
  | f + 1, pos => by
    simp only [drunes, rclean]
    split
    · rw [List.all_cons, drunes_all s f, dAt_width, dbad_eq]
    · rfl
theorem dbeg_eq (s : ByteArray) : rbeg s = if dbeg s then 0 else 11 := by
  unfold rbeg dbeg
  rw [drunes_len, drunes_all]
  by_cases h : 32 < rcnt s s.size 0
  · have h2 : ¬ rcnt s s.size 0 ≤ 32 := by omega
    simp [h, h2]
  · have h2 : rcnt s s.size 0 ≤ 32 := by omega
    simp only [h, h2, decide_false, decide_true, Bool.false_or, Bool.and_true]
    cases rclean s s.size 0 <;> rfl
theorem dkey_eq (s : ByteArray) : rkey s = if dkey s then 0 else 11 := by
  unfold rkey dkey
  by_cases h : s.toList = []
  · simp [h]
  · rw [if_neg h, dbeg_eq]
    have : (s.toList == []) = false := by simp [h]
    rw [this]; rfl
end Go.Proofs.YtmgiholmhhjpaaaDoor
