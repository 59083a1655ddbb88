/- The law RescueNone: what is found (no program in sight); a row of what was said, cut and written into. The law RescueFast: what is found (no program in sight); the row of all but one, up to a number. -/
import Derived.Test.YtmgiholmhhjpaaaDoorRescueFastQ21
import Derived.WalkKit
import Derived.WalkSpells
import Derived.WalkLawsBesides
import Derived.Deep.RegionHeld3
import Derived.Deep.DrawnRows
import Derived.Deep.DeepCutAuto
import Derived.Deep.DeepFit
import Derived.Lib.Hide
import Derived.BigQuiet
import Derived.Deep.QuietTactic
namespace Go.Proofs.YtmgiholmhhjpaaaDoor
open Go.RowKit
set_option linter.unusedVariables false
set_option linter.unusedSimpArgs false
set_option maxRecDepth 20000
attribute [local go_sem ↓] Go.wp_at_zero Go.wp_at_succ
attribute [local go_sem] World.cell?_alloc_some frozen_alloc_some

theorem acc_none {ss : List SeenT} (h : ∀ s ∈ ss, s.r.st ≠ 2) : acc ss = none := by
  unfold acc
  induction ss with
  | nil => rfl
  | cons s l ih =>
    rw [List.foldl_cons]
    have : accStep none s = none := by unfold accStep; rw [if_neg (fun hc => h s (by simp) hc.1)]
    rw [this]
    exact ih fun x hx => h x (List.mem_cons_of_mem _ hx)
theorem fnd_one {st : Int} {ss : List SeenT} {r u : RecT} (hr : r.st = st) (hu : u.st ≠ st) (hall : ∀ s ∈ ss, s.r = r ∨ s.r = u) (hex : ∃ s ∈ ss, s.r = r) : ∃ s, fnd st ss = some s ∧ s.r = r := by
  unfold fnd
  cases hf : ss.find? (fun s => s.r.st == st) with
  | none =>
    obtain ⟨s, hs, hsr⟩ := hex
    have := List.find?_eq_none.1 hf s hs
    rw [hsr, hr] at this
    simp at this
  | some s =>
    refine ⟨s, rfl, ?_⟩
    have h1 := List.find?_some hf
    rcases hall s (List.mem_of_find?_eq_some hf) with h | h
    · exact h
    · rw [h] at h1; simp at h1; exact absurd h1 hu
/-- The number that becomes of a state. -/
def wantOf (st : Int) : Int := if st = 3 then 1 else if st = 2 then 2 else 3
theorem found_one {r u : RecT} {ss : List SeenT} (hall : ∀ s ∈ ss, s.r = r ∨ s.r = u) (hex : ∃ s ∈ ss, s.r = r) (hex2 : ∃ s ∈ ss, s.r = u) (hr : r.st = 1 ∨ r.st = 2 ∨ r.st = 3) (hu : u.st = 0)
    (h1 : lessB u.tr u.tb r.tr r.tb = true) (h2 : lessB r.tr r.tb u.tr u.tb = false) (h3 : lessB r.tr r.tb r.tr r.tb = false) (ir : Int) (f : RecT) : decD ir ss f = (wantOf r.st, r) := by
  unfold decD wantOf
  by_cases s3 : r.st = 3
  · obtain ⟨s, hs, hsr⟩ := fnd_one s3 (by omega) hall hex
    simp only [hs, hsr, if_pos s3]
  · have f3 : fnd 3 ss = none := fnd_none (fun s hs => by rcases hall s hs with h | h <;> rw [h] <;> omega)
    by_cases s2 : r.st = 2
    · obtain ⟨s, hs, hsr⟩ := (acc_has s2 h1 h2 h3 _ hall).2 hex
      simp only [f3, hs, hsr, if_neg s3, if_pos s2]
    · have fa : acc ss = none := acc_none (fun s hs => by rcases hall s hs with h | h <;> rw [h] <;> omega)
      obtain ⟨x, hx, hxu⟩ := hex2
      have ff : ss.all (fastOk ir f) = false := by
        rw [← Bool.not_eq_true]
        intro ha
        have := List.all_eq_true.1 ha x hx
        unfold fastOk at this
        rw [hxu, hu] at this
        simp at this
      obtain ⟨s, hs, hsr⟩ := fnd_one (st := 1) (by omega) (by omega) hall hex
      simp only [f3, fa, ff, hs, hsr, if_neg s3, if_neg s2]
      rfl
theorem found_none {u : RecT} {ss : List SeenT} (hall : ∀ s ∈ ss, s.r = u) (hex : ∃ s, s ∈ ss) (hu : u.st = 0) (ir : Int) (f : RecT) : decD ir ss f = (2, noop) := by
  unfold decD
  obtain ⟨x, hx⟩ := hex
  have ff : ss.all (fastOk ir f) = false := by
    rw [← Bool.not_eq_true]
    intro ha
    have := List.all_eq_true.1 ha x hx
    unfold fastOk at this
    rw [hall x hx, hu] at this
    simp at this
  simp only [fnd_none (st := 3) (fun s hs => by rw [hall s hs, hu]; decide), acc_none (fun s hs => by rw [hall s hs, hu]; decide), ff, fnd_none (st := 1) (fun s hs => by rw [hall s hs, hu]; decide)]
  rfl
theorem SeensAt.tail {w : World} {b o m : Nat} {s : SeenT} {ss : List SeenT} (h : SeensAt w (some ⟨b, o, none⟩) (m + 1) (s :: ss)) : SeensAt w (some ⟨b, o + 17, none⟩) m ss := by
  refine ⟨by have := h.1; simp at this; exact this, by have := h.2.1; omega, fun i x hi => ?_⟩
  obtain ⟨h1, b2, o2, e, h2⟩ := h.2.2 (i + 1) x (by rw [List.getElem?_cons_succ]; exact hi)
  injection e with e
  injection e with e1 e2
  subst e1 e2
  exact ⟨h1, b, o + 17, rfl, fun j v hj => by rw [← h2 j v hj]; congr 2; omega⟩
/-- A record's cells anew, in the midst of a row. -/
def recAt (w : World) (g off : Nat) (cs : Array Value) : World := w.setCells g off cs.toList
theorem own_there {w : World} {base : Nat} {e : TypeId} {g m c : Nat} {ss : List SeenT} (h : w.ownsRow base e 17 (.slice (some ⟨g, 0, none⟩) m c) m (flatS ss)) {jj : Nat} (hj : jj < m) : w.there g (jj * 17 + 1) 16 := by
  rcases h.2 with ⟨h0, _⟩ | ⟨g2, cap, cur, hv, hb, hg, hn, hcm, hs, ht⟩
  · cases h0
  · injection hv with hA _ _
    injection hA with hA
    injection hA with hA
    subst hA
    intro j hj2
    refine ⟨?_, by simp [World.frozen?, hg]⟩
    rw [cell_of_row w g _ cur e (0, 0) hg]
    have : jj * 17 + 1 + j < cur.size := by
      rw [hs]
      have : (jj + 1) * 17 ≤ cap * 17 := Nat.mul_le_mul_right _ (by omega)
      omega
    rw [Array.getElem?_eq_getElem this]
    rfl
theorem rec_store_at {w : World} {g off : Nat} (h : w.there g off 16) (r : RecT) : (storeRec ⟨g, off, none⟩ (.agg #[.int .i64 r.i, .int .i64 r.n, .int .i64 r.st, .int .i64 r.br, .int .i64 r.bb, .int .i64 r.tr, .int .i64 r.tb, .int .i64 r.k, .int .i64 r.c, .int .i64 r.q, .string r.y, .string r.x, .int .i64 r.r, .slice r.A r.m r.cap, .int .i64 r.sq, .int .i64 r.tg])).run Tryd.prog w = .ok () (recAt w g off #[.int .i64 r.i, .int .i64 r.n, .int .i64 r.st, .int .i64 r.br, .int .i64 r.bb, .int .i64 r.tr, .int .i64 r.tb, .int .i64 r.k, .int .i64 r.c, .int .i64 r.q, .string r.y, .string r.x, .int .i64 r.r, .slice r.A r.m r.cap, .int .i64 r.sq, .int .i64 r.tg]) :=
  run_storeVar_mid (P := Tryd.prog) w g off 33 #[.int .i64 r.i, .int .i64 r.n, .int .i64 r.st, .int .i64 r.br, .int .i64 r.bb, .int .i64 r.tr, .int .i64 r.tb, .int .i64 r.k, .int .i64 r.c, .int .i64 r.q, .string r.y, .string r.x, .int .i64 r.r, .slice r.A r.m r.cap, .int .i64 r.sq, .int .i64 r.tg] h (by rw [recinfo_size]; rfl) (by simp [Value.oneCell'])
theorem Blk.recAt_far {w : World} {g k off : Nat} {t : TypeId} {cs cs' : Array Value} (h : Blk w k t cs) (hk : k ≠ g) : Blk (recAt w g off cs') k t cs :=
  (World.heap_setCells_other w g off cs'.toList h.lt hk).trans h
theorem below_recAt {B g off : Nat} {a w : World} (h : Below B a w) (hg : B ≤ g) (cs : Array Value) : Below B a (recAt w g off cs) := below_setCells hg _ _ h
theorem cells_put {w : World} {g off : Nat} {L : List Value} {u : Value} (hL : L.length = 16) (ht : w.there g (off + 1) 16) (h0 : w.cell? ⟨g, off, none⟩ = some u) {k : Nat} {v : Value} (hk : (u :: L)[k]? = some v) : (w.setCells g (off + 1) L).cell? ⟨g, off + k, none⟩ = some v := by
  cases k with
  | zero =>
    exact (World.cell?_setCells_out g L (off + 1) w ⟨g, off, none⟩ (fun _ _ => Or.inl (Nat.lt_succ_self _))).trans (h0.trans hk)
  | succ k =>
    rw [List.getElem?_cons_succ] at hk
    have hk2 : k < L.length := by
      rcases Nat.lt_or_ge k L.length with h' | h'
      · exact h'
      · rw [List.getElem?_eq_none h'] at hk; cases hk
    have := World.cell?_setCells_in g L (off + 1) w (fun j hj => (ht j (by rw [← hL]; exact hj)).1) k hk2
    rw [show off + (k + 1) = off + 1 + k by omega, this, ← hk]
    exact (List.getElem?_eq_getElem hk2).symm
theorem cells_apart {w : World} {g off p : Nat} {L : List Value} (hL : L.length = 16) (h : p < off ∨ off + 16 ≤ p) : (w.setCells g off L).cell? ⟨g, p, none⟩ = w.cell? ⟨g, p, none⟩ :=
  World.cell?_setCells_out g _ _ _ _ (fun _ _ => by rw [hL]; exact h)
set_option maxHeartbeats 400000 in
theorem SeensAt.put {w : World} {g m : Nat} {ss : List SeenT} (h : SeensAt w (some ⟨g, 0, none⟩) m ss) {jj : Nat} (ht : w.there g (jj * 17 + 1) 16) {s : SeenT} (hj : ss[jj]? = some s) (r : RecT) (hok : ∀ x ∈ ss.set jj ⟨s.f, r⟩, x.r.Ok (recAt w g (jj * 17 + 1) #[.int .i64 r.i, .int .i64 r.n, .int .i64 r.st, .int .i64 r.br, .int .i64 r.bb, .int .i64 r.tr, .int .i64 r.tb, .int .i64 r.k, .int .i64 r.c, .int .i64 r.q, .string r.y, .string r.x, .int .i64 r.r, .slice r.A r.m r.cap, .int .i64 r.sq, .int .i64 r.tg])) :
    SeensAt (recAt w g (jj * 17 + 1) #[.int .i64 r.i, .int .i64 r.n, .int .i64 r.st, .int .i64 r.br, .int .i64 r.bb, .int .i64 r.tr, .int .i64 r.tb, .int .i64 r.k, .int .i64 r.c, .int .i64 r.q, .string r.y, .string r.x, .int .i64 r.r, .slice r.A r.m r.cap, .int .i64 r.sq, .int .i64 r.tg]) (some ⟨g, 0, none⟩) m (ss.set jj ⟨s.f, r⟩) := by
  refine ⟨by rw [List.length_set]; exact h.1, h.2.1, fun i x hi => ⟨hok x (List.mem_of_getElem? hi), g, 0, rfl, ?_⟩⟩
  clear hok
  rw [List.getElem?_set] at hi
  by_cases hij : jj = i
  · subst hij
    rw [if_pos rfl] at hi
    have hx : x = ⟨s.f, r⟩ := by split at hi; (injection hi with hi; exact hi.symm); cases hi
    subst hx
    obtain ⟨_, b2, o2, e, h2⟩ := h.2.2 jj s hj
    have e1 : g = b2 := congrArg Addr.block (Option.some.inj e)
    have e2 : 0 = o2 := congrArg Addr.off (Option.some.inj e)
    subst e1 e2
    clear e
    have h0 := h2 0 _ rfl
    have e1 : (#[.int .i64 r.i, .int .i64 r.n, .int .i64 r.st, .int .i64 r.br, .int .i64 r.bb, .int .i64 r.tr, .int .i64 r.tb, .int .i64 r.k, .int .i64 r.c, .int .i64 r.q, .string r.y, .string r.x, .int .i64 r.r, .slice r.A r.m r.cap, .int .i64 r.sq, .int .i64 r.tg] : Array Value).toList = [.int .i64 r.i, .int .i64 r.n, .int .i64 r.st, .int .i64 r.br, .int .i64 r.bb, .int .i64 r.tr, .int .i64 r.tb, .int .i64 r.k, .int .i64 r.c, .int .i64 r.q, .string r.y, .string r.x, .int .i64 r.r, .slice r.A r.m r.cap, .int .i64 r.sq, .int .i64 r.tg] := rfl
    obtain ⟨L, hL⟩ : ∃ L : List Value, L = [.int .i64 r.i, .int .i64 r.n, .int .i64 r.st, .int .i64 r.br, .int .i64 r.bb, .int .i64 r.tr, .int .i64 r.tb, .int .i64 r.k, .int .i64 r.c, .int .i64 r.q, .string r.y, .string r.x, .int .i64 r.r, .slice r.A r.m r.cap, .int .i64 r.sq, .int .i64 r.tg] := ⟨_, rfl⟩
    unfold recAt
    rw [e1, ← hL]
    intro k v hk
    rw [List.getElem?_toArray] at hk
    rw [Nat.zero_add] at h0 ⊢
    have hk2 : ((.int .i64 s.f) :: L)[k]? = some v := hk
    have hl : L.length = 16 := by rw [hL]; rfl
    clear hk e1 hL
    have hp := cells_put (g := g) (off := jj * 17) (L := L) (u := .int .i64 s.f) hl ht h0 hk2
    exact hp
  · rw [if_neg hij] at hi
    obtain ⟨_, b2, o2, e, h2⟩ := h.2.2 i x hi
    have e1 : g = b2 := congrArg Addr.block (Option.some.inj e)
    have e2 : 0 = o2 := congrArg Addr.off (Option.some.inj e)
    subst e1 e2
    clear e
    intro k v hk
    have hk17 : k < 17 := by
      rcases Nat.lt_or_ge k 17 with h' | h'
      · exact h'
      · rw [List.getElem?_toArray, List.getElem?_eq_none (by simp only [List.length_cons, List.length_nil]; omega)] at hk; cases hk
    unfold recAt
    obtain ⟨L, hL⟩ : ∃ L : List Value, L = [.int .i64 r.i, .int .i64 r.n, .int .i64 r.st, .int .i64 r.br, .int .i64 r.bb, .int .i64 r.tr, .int .i64 r.tb, .int .i64 r.k, .int .i64 r.c, .int .i64 r.q, .string r.y, .string r.x, .int .i64 r.r, .slice r.A r.m r.cap, .int .i64 r.sq, .int .i64 r.tg] := ⟨_, rfl⟩
    rw [show (#[.int .i64 r.i, .int .i64 r.n, .int .i64 r.st, .int .i64 r.br, .int .i64 r.bb, .int .i64 r.tr, .int .i64 r.tb, .int .i64 r.k, .int .i64 r.c, .int .i64 r.q, .string r.y, .string r.x, .int .i64 r.r, .slice r.A r.m r.cap, .int .i64 r.sq, .int .i64 r.tg] : Array Value).toList = [.int .i64 r.i, .int .i64 r.n, .int .i64 r.st, .int .i64 r.br, .int .i64 r.bb, .int .i64 r.tr, .int .i64 r.tb, .int .i64 r.k, .int .i64 r.c, .int .i64 r.q, .string r.y, .string r.x, .int .i64 r.r, .slice r.A r.m r.cap, .int .i64 r.sq, .int .i64 r.tg] from rfl, ← hL]
    have hp := cells_apart (w := w) (g := g) (off := jj * 17 + 1) (p := 0 + i * 17 + k) (L := L) (by rw [hL]; rfl)
    clear hL
    refine (hp ?_).trans (h2 k v hk)
    rcases Nat.lt_or_ge i jj with h' | h'
    · left; omega
    · right; omega
end Go.Proofs.YtmgiholmhhjpaaaDoor

namespace Go.Proofs.YtmgiholmhhjpaaaDoor
open Go.RowKit
set_option linter.unusedVariables false
set_option linter.unusedSimpArgs false
set_option maxRecDepth 20000
attribute [local go_sem ↓] Go.wp_at_zero Go.wp_at_succ
attribute [local go_sem] World.cell?_alloc_some frozen_alloc_some

theorem found_fast {r : RecT} {ss : List SeenT} {ir : Int} (hall : ∀ s ∈ ss, s.r = r ∧ s.f ≠ ir) (hr : r.st = 1) (h0 : r.tr = 0) (h1 : r.tb = ir) : decD ir ss r = (2, r) := by
  have ff : ss.all (fastOk ir r) = true := by
    rw [List.all_eq_true]
    intro s hs
    obtain ⟨e1, e2⟩ := hall s hs
    unfold fastOk
    rw [e1, hr, show peq r.tr r.tb 0 ir = true from peq_iff.2 ⟨h0, h1⟩, show asame r.p r.p = true from asame_iff.2 rfl]
    simp [ceq, e2]
  unfold decD
  simp only [fnd_none (st := 3) (fun s hs => by rw [(hall s hs).1, hr]; decide), acc_none (fun s hs => by rw [(hall s hs).1, hr]; decide), ff, if_true]
theorem found_slow {r u : RecT} {ss : List SeenT} {ir : Int} {f : RecT} (hall : ∀ s ∈ ss, s.r = r ∨ s.r = u) (hr : r.st = 1) (hu : u.st = 1) (hne : asame r.p u.p = false) (e1 : ∃ s ∈ ss, s.r = r) (e2 : ∃ s ∈ ss, s.r = u) (hf : f = r ∨ f = u) :
    decD ir ss f = (3, r) ∨ decD ir ss f = (3, u) := by
  have hne2 : asame u.p r.p = false := by
    rw [← Bool.not_eq_true] at hne ⊢
    exact fun h => hne (asame_iff.2 (asame_iff.1 h).symm)
  have ff : ss.all (fastOk ir f) = false := by
    rcases hf with rfl | rfl
    · obtain ⟨s, hs, hsu⟩ := e2
      rw [← Bool.not_eq_true]
      intro ha
      have := List.all_eq_true.1 ha s hs
      unfold fastOk at this
      rw [hsu, hne2] at this
      simp at this
    · obtain ⟨s, hs, hsr⟩ := e1
      rw [← Bool.not_eq_true]
      intro ha
      have := List.all_eq_true.1 ha s hs
      unfold fastOk at this
      rw [hsr, hne] at this
      simp at this
  have hst : ∀ s ∈ ss, s.r.st = 1 := fun s hs => by rcases hall s hs with h | h <;> rw [h] <;> assumption
  unfold decD
  simp only [fnd_none (st := 3) (fun s hs => by rw [hst s hs]; decide), acc_none (fun s hs => by rw [hst s hs]; decide), ff]
  cases hfd : fnd 1 ss with
  | none =>
    obtain ⟨s, hs, _⟩ := e1
    have := List.find?_eq_none.1 hfd s hs
    rw [hst s hs] at this
    simp at this
  | some s =>
    simp only
    rcases hall s (List.mem_of_find?_eq_some hfd) with h | h <;> rw [h] <;> simp
/-- Those of who that aren't h, up to Q of them. -/
def fl (who : Nat → Int) (h : Int) (Q : Nat) (r : RecT) : Nat → List SeenT
  | 0 => []
  | k + 1 => if who k ≠ h ∧ (fl who h Q r k).length < Q then fl who h Q r k ++ [⟨who k, r⟩] else fl who h Q r k
theorem fl_mem {who : Nat → Int} {h : Int} {Q : Nat} {r : RecT} {k : Nat} {s : SeenT} (hs : s ∈ fl who h Q r k) : ∃ j, j < k ∧ s = ⟨who j, r⟩ ∧ who j ≠ h := by
  induction k with
  | zero => cases hs
  | succ k ih =>
    rw [fl] at hs
    split at hs
    · rename_i hc
      rcases List.mem_append.1 hs with h1 | h1
      · obtain ⟨j, h2, h3⟩ := ih h1
        exact ⟨j, by omega, h3⟩
      · simp at h1
        exact ⟨k, by omega, h1, hc.1⟩
    · obtain ⟨j, h2, h3⟩ := ih hs
      exact ⟨j, by omega, h3⟩
theorem fl_nodup {who : Nat → Int} {h : Int} {Q : Nat} {r : RecT} {N : Nat} (hw : ∀ i j, i < N → j < N → who i = who j → i = j) {k : Nat} (hk : k ≤ N) : ((fl who h Q r k).map (·.f)).Nodup := by
  induction k with
  | zero => exact List.nodup_nil
  | succ k ih =>
    have ih' := ih (by omega)
    rw [fl]
    split
    · rw [List.map_append, List.nodup_append]
      refine ⟨ih', by simp, ?_⟩
      intro a ha b hb e
      simp at hb
      obtain ⟨s, hs, rfl⟩ := List.mem_map.1 ha
      obtain ⟨j, hj, rfl, _⟩ := fl_mem hs
      have := hw j k (by omega) (by omega) (e.trans hb)
      omega
    · exact ih'
theorem fl_len {who : Nat → Int} {h : Int} {Q : Nat} {r : RecT} {N : Nat} (hw : ∀ i j, i < N → j < N → who i = who j → i = j) {k : Nat} (hk : k ≤ N) :
    (fl who h Q r k).length = Q ∨ ((fl who h Q r k).length < Q ∧ ((fl who h Q r k).length = k ∨ ((fl who h Q r k).length + 1 = k ∧ ∃ j, j < k ∧ who j = h))) := by
  induction k with
  | zero =>
    rcases Nat.eq_zero_or_pos Q with h0 | h0
    · left; rw [h0]; rfl
    · right; exact ⟨h0, .inl rfl⟩
  | succ k ih =>
    have ih' := ih (by omega)
    rw [fl]
    split
    · rename_i hc
      rw [List.length_append]
      simp only [List.length_cons, List.length_nil]
      rcases ih' with h1 | ⟨h1, h2⟩
      · omega
      · rcases Nat.lt_or_ge ((fl who h Q r k).length + 1) Q with h3 | h3
        · right
          refine ⟨h3, ?_⟩
          rcases h2 with h2 | ⟨h2, j, hj, hh⟩
          · left; omega
          · right; exact ⟨by omega, j, by omega, hh⟩
        · left; omega
    · rename_i hc
      rcases ih' with h1 | ⟨h1, h2⟩
      · exact .inl h1
      · right
        refine ⟨h1, ?_⟩
        have hh : who k = h := by
          rcases Int.decEq (who k) h with hn | hy
          · exact absurd ⟨hn, h1⟩ hc
          · exact hy
        rcases h2 with h2 | ⟨h2, j, hj, hj2⟩
        · right; exact ⟨by omega, k, by omega, hh⟩
        · have := hw j k (by omega) (by omega) (hj2.trans hh.symm)
          omega
theorem set_f {ss : List SeenT} {jj : Nat} {s9 : SeenT} (hj : ss[jj]? = some s9) (u : RecT) : (ss.set jj ⟨s9.f, u⟩).map (·.f) = ss.map (·.f) := by
  apply List.ext_getElem?
  intro i
  rw [List.getElem?_map, List.getElem?_map, List.getElem?_set]
  by_cases e : jj = i
  · subst e
    have : jj < ss.length := by
      rcases Nat.lt_or_ge jj ss.length with h | h
      · exact h
      · rw [List.getElem?_eq_none h] at hj; cases hj
    rw [if_pos rfl, if_pos this, hj]
    rfl
  · rw [if_neg e]
theorem good_set {n ir inn : Int} {ss : List SeenT} (hg : Good n ir inn ss) {jj : Nat} {s9 : SeenT} (hj : ss[jj]? = some s9) {u : RecT} (h1 : peq u.i u.n ir inn = true) (h2 : recOk u = true) : Good n ir inn (ss.set jj ⟨s9.f, u⟩) := by
  have h9 := List.mem_of_getElem? hj
  refine ⟨fun s hs => ?_, fun s hs => ?_, fun s hs => ?_, fun s hs => ?_, by rw [set_f hj]; exact hg.nd⟩ <;> rcases List.mem_or_eq_of_mem_set hs with h | h
  · exact hg.f0 s h
  · rw [h]; exact hg.f0 s9 h9
  · exact hg.f1 s h
  · rw [h]; exact hg.f1 s9 h9
  · exact hg.id s h
  · rw [h]; exact h1
  · exact hg.ok s h
  · rw [h]; exact h2
theorem slow_set {r u : RecT} {ss : List SeenT} {ir : Int} {jj : Nat} {s9 s0 : SeenT} (hall : ∀ s ∈ ss, s.r = r) (hj : ss[jj]? = some s9) (h2 : 2 ≤ ss.length) (hr : r.st = 1) (hu : u.st = 1) (hne : asame r.p u.p = false) (h0 : (ss.set jj ⟨s9.f, u⟩)[0]? = some s0) :
    decD ir (ss.set jj ⟨s9.f, u⟩) s0.r = (3, r) ∨ decD ir (ss.set jj ⟨s9.f, u⟩) s0.r = (3, u) := by
  have hlt : jj < ss.length := by
    rcases Nat.lt_or_ge jj ss.length with h | h
    · exact h
    · rw [List.getElem?_eq_none h] at hj; cases hj
  have ha : ∀ s ∈ ss.set jj ⟨s9.f, u⟩, s.r = r ∨ s.r = u := fun s hs => by
    rcases List.mem_or_eq_of_mem_set hs with h | h
    · exact .inl (hall s h)
    · right; rw [h]
  refine found_slow ha hr hu hne ?_ ⟨⟨s9.f, u⟩, List.mem_of_getElem? (i := jj) (by rw [List.getElem?_set, if_pos rfl, if_pos hlt]), rfl⟩ (ha s0 (List.mem_of_getElem? h0))
  obtain ⟨k, hk, hkj⟩ : ∃ k, k < ss.length ∧ jj ≠ k := by
    by_cases e : jj = 0
    · exact ⟨1, by omega, by omega⟩
    · exact ⟨0, by omega, by omega⟩
  exact ⟨ss[k], List.mem_of_getElem? (i := k) (by rw [List.getElem?_set, if_neg hkj]; exact List.getElem?_eq_getElem hk), hall _ (List.getElem_mem hk)⟩
end Go.Proofs.YtmgiholmhhjpaaaDoor
