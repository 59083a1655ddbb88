/- rescue.counted, where all that was said counts. The walk of rescue.counted, where all that was said counts. rescue.Decide, where all that was said counts. -/
import Derived.Test.YtmgiholmhhjpaaaDoorRescueFastQ18
import Derived.Test.YtmgiholmhhjpaaaDoorRescueFastQ16
import Derived.Maps.Views
import Derived.Maps.Own
import Derived.Maps.OwnOps
import Derived.Maps.Keyed
import Derived.Carry
import Derived.WalkKit
import Derived.WalkSpells
import Derived.WalkLawsBesides
import Derived.Deep.RegionHeld3
import Derived.Deep.DrawnRows
import Derived.Deep.DeepCutAuto
import Derived.Deep.DeepFit
import Derived.Lib.Hide
import Derived.BigQuiet
import Derived.Deep.QuietTactic
namespace Go.Proofs.YtmgiholmhhjpaaaDoor
open Go.RowKit
set_option linter.unusedVariables false
set_option linter.unusedSimpArgs false
set_option maxRecDepth 20000
attribute [local go_sem ↓] Go.wp_at_zero Go.wp_at_succ
attribute [local go_sem] World.cell?_alloc_some frozen_alloc_some
open Go.Maps
attribute [local go_sem ↓ high] loadVar_rec storeVar_rec loadVar_seen storeVar_seen loadVar_dec storeVar_dec bal_neq_peq id_neq_peq cmd_neq_run
attribute [local go_sem] rec_store_new seen_store_new dec_store_new

theorem seeninfo : ∃ i, Tryd.prog.info? 40 = some i ∧ i.zero = some (.agg #[.int .i64 0, .int .i64 0, .int .i64 0, .int .i64 0, .int .i64 0, .int .i64 0, .int .i64 0, .int .i64 0, .int .i64 0, .int .i64 0, .int .i64 0, .string ByteArray.empty, .string ByteArray.empty, .int .i64 0, .slice none 0 0, .int .i64 0, .int .i64 0]) ∧ i.size = 17 ∧ i.bytes = 168 := by
  have h : (Tryd.prog.info? 40).map (fun i => (i.zero, i.size, i.bytes)) = some (some (.agg #[.int .i64 0, .int .i64 0, .int .i64 0, .int .i64 0, .int .i64 0, .int .i64 0, .int .i64 0, .int .i64 0, .int .i64 0, .int .i64 0, .int .i64 0, .string ByteArray.empty, .string ByteArray.empty, .int .i64 0, .slice none 0 0, .int .i64 0, .int .i64 0]), 17, 168) := by kernel_rfl
  cases hi : Tryd.prog.info? 40 with
  | none => rw [hi] at h; cases h
  | some i => rw [hi] at h; simp only [Option.map_some, Option.some.injEq, Prod.mk.injEq] at h; exact ⟨i, rfl, h.1, h.2.1, h.2.2⟩
def seenL (s : SeenT) : List Value := [.int .i64 s.f, .int .i64 s.r.i, .int .i64 s.r.n, .int .i64 s.r.st, .int .i64 s.r.br, .int .i64 s.r.bb, .int .i64 s.r.tr, .int .i64 s.r.tb, .int .i64 s.r.k, .int .i64 s.r.c, .int .i64 s.r.q, .string s.r.y, .string s.r.x, .int .i64 s.r.r, .slice s.r.A s.r.m s.r.cap, .int .i64 s.r.sq, .int .i64 s.r.tg]
def flatS (ss : List SeenT) : List Value := ss.flatMap seenL
theorem seenL_length (s : SeenT) : (seenL s).length = 17 := rfl
theorem flatS_length (ss : List SeenT) : (flatS ss).length = ss.length * 17 := by
  induction ss with
  | nil => rfl
  | cons s r ih => simp only [flatS, List.flatMap_cons, List.length_append, List.length_cons, seenL_length] at ih ⊢; omega
theorem flatS_get : ∀ (ss : List SeenT) (i : Nat) (s : SeenT), ss[i]? = some s → ∀ (j : Nat) (v : Value), (seenL s)[j]? = some v → (flatS ss)[i * 17 + j]? = some v
  | [], i, s, h, _, _, _ => by simp at h
  | a :: r, 0, s, h, j, v, hv => by
    simp at h; subst h
    have hj : j < 17 := by
      rcases Nat.lt_or_ge j 17 with h' | h'
      · exact h'
      · rw [List.getElem?_eq_none (by rw [seenL_length]; exact h')] at hv; cases hv
    rw [Nat.zero_mul, Nat.zero_add, flatS, List.flatMap_cons, List.getElem?_append_left (by rw [seenL_length]; exact hj)]
    exact hv
  | a :: r, i + 1, s, h, j, v, hv => by
    rw [List.getElem?_cons_succ] at h
    have := flatS_get r i s h j v hv
    rw [flatS, List.flatMap_cons, List.getElem?_append_right (by rw [seenL_length]; omega), seenL_length, show (i + 1) * 17 + j - 17 = i * 17 + j by omega]
    exact this
theorem flatS_snoc (ss : List SeenT) (s : SeenT) : flatS (ss ++ [s]) = flatS ss ++ seenL s := by simp [flatS]
theorem flatS_take {ss : List SeenT} {j : Nat} {s : SeenT} (h : ss[j]? = some s) : flatS (ss.take (j + 1)) = flatS (ss.take j) ++ seenL s := by
  rw [List.take_add_one, h]
  exact flatS_snoc _ _
theorem src_seen {w : World} {e : TypeId} (s : SeenT) : Src (w.alloc (.cells #[.int .i64 s.f, .int .i64 s.r.i, .int .i64 s.r.n, .int .i64 s.r.st, .int .i64 s.r.br, .int .i64 s.r.bb, .int .i64 s.r.tr, .int .i64 s.r.tb, .int .i64 s.r.k, .int .i64 s.r.c, .int .i64 s.r.q, .string s.r.y, .string s.r.x, .int .i64 s.r.r, .slice s.r.A s.r.m s.r.cap, .int .i64 s.r.sq, .int .i64 s.r.tg] e)) 17 (some ⟨w.heap.size, 0, none⟩) 1 (seenL s) := by
  refine ⟨rfl, fun j u hj => ⟨_, rfl, ?_⟩, fun u hu => ?_⟩
  · have hadd : (⟨w.heap.size, 0, none⟩ : Addr).add j = ⟨w.heap.size, j, none⟩ := by unfold Addr.add; split <;> simp_all
    rw [hadd]
    exact (new_cell w #[.int .i64 s.f, .int .i64 s.r.i, .int .i64 s.r.n, .int .i64 s.r.st, .int .i64 s.r.br, .int .i64 s.r.bb, .int .i64 s.r.tr, .int .i64 s.r.tb, .int .i64 s.r.k, .int .i64 s.r.c, .int .i64 s.r.q, .string s.r.y, .string s.r.x, .int .i64 s.r.r, .slice s.r.A s.r.m s.r.cap, .int .i64 s.r.sq, .int .i64 s.r.tg] e j (by simpa [seenL] using hj)).1
  · simp only [seenL, List.mem_cons, List.not_mem_nil, or_false] at hu
    rcases hu with rfl | rfl | rfl | rfl | rfl | rfl | rfl | rfl | rfl | rfl | rfl | rfl | rfl | rfl | rfl | rfl | rfl <;> rfl
theorem seens_own {w : World} {base : Nat} {e : TypeId} {A : Option Addr} {m c : Nat} {ss : List SeenT} (h : w.ownsRow base e 17 (.slice A m c) m (flatS ss)) (hm : m = ss.length) (hl : m ≤ maxLen) (hok : ∀ s ∈ ss, s.r.Ok w) : SeensAt w A m ss := by
  refine ⟨hm, hl, fun i s hi => ⟨hok s (List.mem_of_getElem? hi), ?_⟩⟩
  have him : i < m := by
    rw [hm]
    rcases Nat.lt_or_ge i ss.length with h' | h'
    · exact h'
    · rw [List.getElem?_eq_none h'] at hi; cases hi
  rcases h.2 with ⟨_, h0⟩ | ⟨g, cap, cur, hv, hb, hg, hn, hcm, hs, ht⟩
  · omega
  · injection hv with hA _ _
    subst hA
    refine ⟨g, 0, rfl, fun j v hj => ?_⟩
    have hf := flatS_get ss i s hi j v (by rw [List.getElem?_toArray] at hj; exact hj)
    rw [← ht, List.getElem?_take] at hf
    rw [cell_of_row w g (0 + i * 17 + j) cur e (0, 0) hg, ← Array.getElem?_toList, Nat.zero_add]
    split at hf
    · exact hf
    · cases hf
theorem own_form8 {w : World} {base : Nat} {e : TypeId} {size : Nat} {v : Value} {n : Nat} {xs : List Value} (h : w.ownsRow base e size v n xs) : ∃ A c, v = .slice A n c ∧ n ≤ c ∧ c ≤ maxLen := by
  rcases h.2 with ⟨rfl, rfl⟩ | ⟨g, cap, cur, rfl, _, _, hle, hm, _⟩
  · exact ⟨none, 0, rfl, Nat.le_refl _, Nat.zero_le _⟩
  · exact ⟨_, cap, rfl, hle, hm⟩
theorem own_keep8 {w w' : World} {base : Nat} {e : TypeId} {size : Nat} {v : Value} {n : Nat} {xs : List Value} (h : w.ownsRow base e size v n xs) (hb : Below w.heap.size w w') : w'.ownsRow base e size v n xs := by
  refine ⟨h.1, ?_⟩
  rcases h.2 with h0 | ⟨g, cap, cur, e1, hbs, hg, rest⟩
  · exact .inl h0
  · exact .inr ⟨g, cap, cur, e1, hbs, (hb.block g (Array.getElem?_eq_some_iff.1 hg).1).trans hg, rest⟩
/-- The map of those who count: none but these reads as true. -/
def MapO (w : World) (g n : Nat) (fs : List Int) : Prop :=
  ∃ D : DataW Unit, w.ownsMap Tryd.prog 3 (plainElem Tryd.prog 4) g n D ∧ ∀ x : Int, x ∉ fs → D.atKey (.int .i64 x) (.lit (.bool false)) = .lit (.bool false)
theorem MapO.keep {w w' : World} {g n : Nat} {fs : List Int} (h : MapO w g n fs) (hb : Below w.heap.size w w') : MapO w' g n fs := by
  obtain ⟨D, ⟨es, clock, h1, h2⟩, h3⟩ := h
  exact ⟨D, ⟨es, clock, (hb.block g (Array.getElem?_eq_some_iff.1 h1).1).trans h1, h2⟩, h3⟩
theorem MapO.kept {w w' : World} {g n : Nat} {fs : List Int} {row : Option Nat} (h : MapO w g n fs) (hg : w.grownBy w' row) (hne : some g ≠ row) : MapO w' g n fs := by
  obtain ⟨D, h1, h3⟩ := h
  exact ⟨D, h1.kept hg hne, h3⟩
theorem MapO.lt {w : World} {g n : Nat} {fs : List Int} (h : MapO w g n fs) : g < w.heap.size := by obtain ⟨D, h1, _⟩ := h; exact h1.lt
theorem MapO.look {w : World} {g n : Nat} {fs : List Int} (h : MapO w g n fs) {x : Int} (hx : x ∉ fs) (hw : (Lit.int .i64 x).wf = true) : (Instr.lookup 87 (.map (some g)) (.int .i64 x) false).run Tryd.prog w = .ok (.bool false) w := by
  obtain ⟨D, h1, h3⟩ := h
  obtain ⟨v, ps, hr, hv⟩ := h1.lookup (Maps.int_keyed Tryd.underlying3) Tryd.underlying87 (show (zeroValue 4).run Tryd.prog w = .ok (.bool false) w from by kernel_rfl) (plainElem_bool Tryd.underlying4 false) (Maps.keyOf_int_mk Tryd.underlying3 hw)
  rw [h3 x hx] at hv
  have : v = .bool false := by
    unfold plainElem at hv
    rw [Tryd.underlying4] at hv
    cases v <;> simp at hv
    rw [hv.1]
  rw [hr, this]
theorem MapO.put {w : World} {g n : Nat} {fs : List Int} (h : MapO w g n fs) {x : Int} (hn : n < maxLen) (hw : (Lit.int .i64 x).wf = true) : ∃ w', (Instr.mapUpdate 87 (.map (some g)) (.int .i64 x) (.bool true)).run Tryd.prog w = .ok () w' ∧ MapO w' g (n + 1) (fs ++ [x]) ∧ w.grownBy w' (some g) := by
  obtain ⟨D, h1, h3⟩ := h
  obtain ⟨w', hr, ho, hg⟩ := h1.update (Maps.int_keyed Tryd.underlying3) Tryd.underlying87 hn (Maps.keyOf_int_mk Tryd.underlying3 hw) (plainElem_bool Tryd.underlying4 true)
  refine ⟨w', hr, ⟨_, ho, fun y hy => ?_⟩, hg⟩
  simp only [List.mem_append, List.mem_singleton, not_or] at hy
  rw [Maps.atKey_put_other (fun e => hy.2 (by injection e))]
  exact h3 y hy.1
theorem MapO.made (w : World) : MapO (w.alloc (.map #[] 0)) w.heap.size 0 [] := ⟨.map [], World.ownsMap_made _ _ _ _, fun x _ => rfl⟩
end Go.Proofs.YtmgiholmhhjpaaaDoor

namespace Go.Proofs.YtmgiholmhhjpaaaDoor
open Go.RowKit
set_option linter.unusedVariables false
set_option linter.unusedSimpArgs false
set_option maxRecDepth 20000
attribute [local go_sem ↓] Go.wp_at_zero Go.wp_at_succ
attribute [local go_sem] World.cell?_alloc_some frozen_alloc_some
open Go.Maps
attribute [local go_sem ↓ high] loadVar_rec storeVar_rec loadVar_seen storeVar_seen loadVar_dec storeVar_dec bal_neq_peq id_neq_peq cmd_neq_run
attribute [local go_sem] rec_store_new seen_store_new dec_store_new

/-- All that was said counts: of n, of one instance, right records, each of another. -/
structure Good (n ir inn : Int) (ss : List SeenT) : Prop where
  f0 : ∀ s ∈ ss, 0 ≤ s.f
  f1 : ∀ s ∈ ss, s.f < n
  id : ∀ s ∈ ss, peq s.r.i s.r.n ir inn = true
  ok : ∀ s ∈ ss, recOk s.r = true
  nd : (ss.map (·.f)).Nodup
theorem Good.new {n ir inn : Int} {ss : List SeenT} (h : Good n ir inn ss) {j : Nat} {s : SeenT} (hj : ss[j]? = some s) : s.f ∉ (ss.take j).map (·.f) := by
  intro hm
  have hl : j < ss.length := by
    rcases Nat.lt_or_ge j ss.length with h' | h'
    · exact h'
    · rw [List.getElem?_eq_none h'] at hj; cases hj
  have hd := h.nd
  have : ss = ss.take j ++ s :: ss.drop (j + 1) := by
    rw [List.getElem?_eq_getElem hl] at hj
    injection hj with hj
    rw [← hj, List.getElem_cons_drop, List.take_append_drop]
  rw [this, List.map_append, List.map_cons] at hd
  exact (List.nodup_append.1 hd).2.2 s.f hm s.f List.mem_cons_self rfl
theorem froms_take {ss : List SeenT} {j : Nat} {s : SeenT} (h : ss[j]? = some s) : (ss.take (j + 1)).map (·.f) = (ss.take j).map (·.f) ++ [s.f] := by
  rw [List.take_add_one, h, List.map_append]; rfl
set_option maxHeartbeats 8000000 in
theorem counted_any (n ir inn : Int) (A : Option Addr) (m c : Nat) (ss : List SeenT) (w : World) (h : SeensAt w A m ss) (hg : Good n ir inn ss) (hT : Tabs w) (hm : m ≤ 1000) (hn : n ≤ 1000) :
    Calls Tryd.prog 31 #[.int .i64 n, .agg #[.int .i64 ir, .int .i64 inn], .slice A m c] w
      (fun e w' => ∃ A' c', e = .returned (.slice A' m c') ∧ SeensAt w' A' m ss ∧ Below w.heap.size w w') := by
  have hmm := @run_makeMap Tryd.prog
  obtain ⟨i0, hi, hz0, hz1, hz2⟩ := seeninfo
  have H := Lib.hid h
  have Hm := Lib.hid h.1
  have G := Lib.hid hg
  have HT := Lib.hid hT
  clear h hg hT
  go_enter Tryd.func31, Tryd.ntmps31
  go_wp2_with fail
  go_loopw [7, 14] (fun s7 s14 wr => ∃ (j : Nat) (A' : Option Addr) (c' : Nat), j ≤ m ∧ s7 = .slice A' j c' ∧ s14 = .int .i64 j ∧ Below w.heap.size w wr ∧ Blk wr w.heap.size 28 #[.int .i64 ir, .int .i64 inn] ∧ wr.ownsRow (w.heap.size + 2) 40 17 (.slice A' j c') j (flatS (ss.take j)) ∧ MapO wr (w.heap.size + 1) j ((ss.take j).map (·.f))) (fun _ s14 _ => m - (intOf s14).toNat)
  case atStart => exact ⟨0, none, 0, by omega, rfl, rfl, by ((repeat' first | with_reducible exact Below.refl _ _ | with_reducible assumption | with_reducible refine Below.alloc ?_ ?_ _ | with_reducible refine Below.setCell ?_ ?_ _ | with_reducible apply Below.drew | with_reducible apply below_drewN | with_reducible refine below_call ?_ (by with_reducible assumption) ?_) <;> (first | omega | (simp; done) | (simp; omega) | (simp at *; omega))), (Blk.new _ _ _).alloc _, World.ownsRow_nil _ _ _ _, (by have := MapO.made (w.alloc (.cells #[.int .i64 ir, .int .i64 inn] 28)); rw [World.size_alloc] at this; exact this)⟩
  case round =>
    obtain ⟨j, A', c', hj, rfl, rfl, hbr, hB, hown, hM⟩ := hrel
    have hzr := hM.lt
    by_cases hlt : j < m
    · obtain ⟨s, b, o, e1, sOk, rfl, ld⟩ := (H.out.keep hbr).at_ hlt
      have hmem := List.mem_of_getElem? e1
      have f0 := G.out.f0 s hmem
      have f1 := G.out.f1 s hmem
      have qid := G.out.id s hmem
      have hok := G.out.ok s hmem
      have hnew := G.out.new e1
      have hwf : (Lit.int .i64 s.f).wf = true := by simp [Lit.wf, IntKind.min, IntKind.max, IntKind.bits, IntKind.signed]; omega
      have E1 := Lib.hid e1
      have j0 : (0 : Int) ≤ (j : Int) := by omega
      have j1 : (j : Int) < (m : Int) := by omega
      have n0 : ¬ s.f < 0 := by omega
      have n1 : ¬ n ≤ s.f := by omega
      have S1 : Blk (wr.alloc (.cells #[.int .i64 s.f, .int .i64 s.r.i, .int .i64 s.r.n, .int .i64 s.r.st, .int .i64 s.r.br, .int .i64 s.r.bb, .int .i64 s.r.tr, .int .i64 s.r.tb, .int .i64 s.r.k, .int .i64 s.r.c, .int .i64 s.r.q, .string s.r.y, .string s.r.x, .int .i64 s.r.r, .slice s.r.A s.r.m s.r.cap, .int .i64 s.r.sq, .int .i64 s.r.tg] 40)) wr.heap.size 40 #[.int .i64 s.f, .int .i64 s.r.i, .int .i64 s.r.n, .int .i64 s.r.st, .int .i64 s.r.br, .int .i64 s.r.bb, .int .i64 s.r.tr, .int .i64 s.r.tb, .int .i64 s.r.k, .int .i64 s.r.c, .int .i64 s.r.q, .string s.r.y, .string s.r.x, .int .i64 s.r.r, .slice s.r.A s.r.m s.r.cap, .int .i64 s.r.sq, .int .i64 s.r.tg] := Blk.new _ _ _
      have hp := below_one (w := wr) (.cells #[.int .i64 s.f, .int .i64 s.r.i, .int .i64 s.r.n, .int .i64 s.r.st, .int .i64 s.r.br, .int .i64 s.r.bb, .int .i64 s.r.tr, .int .i64 s.r.tb, .int .i64 s.r.k, .int .i64 s.r.c, .int .i64 s.r.q, .string s.r.y, .string s.r.x, .int .i64 s.r.r, .slice s.r.A s.r.m s.r.cap, .int .i64 s.r.sq, .int .i64 s.r.tg] 40)
      have k1 : Below w.heap.size w (wr.alloc (.cells #[.int .i64 s.f, .int .i64 s.r.i, .int .i64 s.r.n, .int .i64 s.r.st, .int .i64 s.r.br, .int .i64 s.r.bb, .int .i64 s.r.tr, .int .i64 s.r.tb, .int .i64 s.r.k, .int .i64 s.r.c, .int .i64 s.r.q, .string s.r.y, .string s.r.x, .int .i64 s.r.r, .slice s.r.A s.r.m s.r.cap, .int .i64 s.r.sq, .int .i64 s.r.tg] 40)) := hbr.trans (hp.mono hbr.size)
      have B1 := hB.alloc (.cells #[.int .i64 s.f, .int .i64 s.r.i, .int .i64 s.r.n, .int .i64 s.r.st, .int .i64 s.r.br, .int .i64 s.r.bb, .int .i64 s.r.tr, .int .i64 s.r.tb, .int .i64 s.r.k, .int .i64 s.r.c, .int .i64 s.r.q, .string s.r.y, .string s.r.x, .int .i64 s.r.r, .slice s.r.A s.r.m s.r.cap, .int .i64 s.r.sq, .int .i64 s.r.tg] 40)
      have O1 := own_keep8 hown hp
      have M1 := hM.keep hp
      have S1c := S1.cell
      have S1r := seen_rec S1
      have B1c := B1.cell
      have lk := M1.look hnew hwf
      have hck := reccheck_any s.r _ (sOk.keep hp) (HT.out.keep k1)
      rw [hok] at hck
      simp only [recErr] at hck
      unfold RecT.v at hck
      have Hck := Lib.hid hck
      have Snew := Lib.hid hnew
      clear hck e1 hmem hok sOk hnew f0 f1
      go_wp2_with (first | (go_at_call 10; (with_reducible refine Hck.out.mono ?_); rintro e w1 ⟨rfl, hb1⟩; have S2 := S1.keep hb1; have B2 := B1.keep hb1; have O2 := own_keep8 O1 hb1; have M2 := M1.keep hb1; have k2 := below_call k1 hb1 k1.size; obtain ⟨w3, hup, M3, hgr3⟩ := M2.put (by unfold maxLen; omega) hwf; have hz3 := M2.lt; have hsz3 := hgr3.size; have S3 : Blk w3 wr.heap.size 40 _ := (hgr3.block _ S2.lt (fun e => by injection e; omega)).trans S2; have B3 : Blk w3 w.heap.size 28 _ := (hgr3.block _ B2.lt (fun e => by injection e; omega)).trans B2; have O3 := O2.kept hgr3 (.inr (fun e => by have := (O2.lt _ e).1; omega)); have k3 : Below w.heap.size w w3 := k2.grown hgr3 k2.size (fun k hk => by injection hk; omega); have S2c := S2.cell; have S3c := S3.cell; have S3l := seen_load S3; have O4 := own_keep8 O3 (below_one (.cells #[.int .i64 s.f, .int .i64 s.r.i, .int .i64 s.r.n, .int .i64 s.r.st, .int .i64 s.r.br, .int .i64 s.r.bb, .int .i64 s.r.tr, .int .i64 s.r.tb, .int .i64 s.r.k, .int .i64 s.r.c, .int .i64 s.r.q, .string s.r.y, .string s.r.x, .int .i64 s.r.r, .slice s.r.A s.r.m s.r.cap, .int .i64 s.r.sq, .int .i64 s.r.tg] 40)); have hz4 := hb1.size; (try simp only [World.size_alloc] at hz4)) | ((at_builtin; go_loud (refine wpList_app _ rfl (.tmp 49) (.tmp 51) 37 rfl _ 40 i0 _ 17 168 Tryd.underlying37 hi hz0 hz1 hz2 rfl (by omega) _ _ _ rfl O4 _ _ _ _ rfl (src_seen s) ?h63 ?hby ?hbase ?_); (case h63 => (unfold maxLen; first | omega | (simp; done) | (simp; omega))); (case hby => first | omega | (simp; done) | (simp; omega)); (case hbase => first | omega | (simp; done) | (simp; omega)); intro v9 w9 hownw9 hgroww9 hatw9 holdw9)))
      obtain ⟨A8, c8, rfl, _, _⟩ := own_form8 hownw9
      have hne4 : ∀ k, k < w.heap.size + 2 → some k ≠ (Value.slice A' j c').ownBlock := fun k hk e => by have := (O4.lt _ e.symm).1; omega
      go_roundw
      case rel => exact ⟨j + 1, A8, c8, by omega, rfl, by go_num, below_app (k3.alloc k3.size _) O4 hgroww9 (by omega) (by simp; omega), (hgroww9.block _ (B3.alloc _).lt (hne4 _ (by omega))).trans (B3.alloc _), (by rw [flatS_take E1.out]; exact hownw9), (by rw [froms_take E1.out]; exact (M3.keep (below_one _)).kept hgroww9 (hne4 _ (by omega)))⟩
      case measure => simp [intOf]; omega
    · obtain rfl : j = m := by omega
      have hS : SeensAt wr A' j ss := by
        rw [List.take_of_length_le (by have := Hm.out; omega)] at hown
        exact seens_own hown Hm.out (by unfold maxLen; omega) (fun s hs => by
          obtain ⟨i, hi⟩ := List.getElem?_of_mem hs
          exact ((H.out.keep hbr).2.2 i s hi).1)
      have HS := Lib.hid hS
      clear hS hown hM hB
      go_wp2_with fail
      go_ret
      exact ⟨A', c', rfl, HS.out, hbr⟩
end Go.Proofs.YtmgiholmhhjpaaaDoor

namespace Go.Proofs.YtmgiholmhhjpaaaDoor
open Go.RowKit
set_option linter.unusedVariables false
set_option linter.unusedSimpArgs false
set_option maxRecDepth 20000
attribute [local go_sem ↓] Go.wp_at_zero Go.wp_at_succ
attribute [local go_sem] World.cell?_alloc_some frozen_alloc_some
attribute [local go_sem ↓ high] loadVar_rec storeVar_rec loadVar_seen storeVar_seen loadVar_dec storeVar_dec
attribute [local go_sem] rec_store_new seen_store_new dec_store_new

def quo (n : Int) : Int := if n < 1 then 0 else n / 2 + 1
set_option maxHeartbeats 400000 in
theorem quorum_any (n : Int) (w : World) (h1 : 1 ≤ n) (h2 : n ≤ 1000) : Calls Tryd.prog 12 #[.int .i64 n] w (fun e w' => e = .returned (.int .i64 (quo n)) ∧ w' = w) := by
  have hq : quo n = n / 2 + 1 := by unfold quo; rw [if_neg (by omega)]
  have hlt : ¬ n < 1 := by omega
  have hd : n.tdiv 2 = n / 2 := Int.tdiv_eq_ediv_of_nonneg (by omega)
  have hw1 : IntKind.i64.wrap (n.tdiv 2) = n / 2 := by rw [hd]; exact IntWalk.i64_in _ (by omega)
  have hw2 : IntKind.i64.wrap (n / 2 + 1) = n / 2 + 1 := IntWalk.i64_in _ (by omega)
  rw [hq]
  go_enter Tryd.func12, Tryd.ntmps12
  go_wp2
  go_ret
  exact ⟨by simp_all, rfl⟩
theorem decZ_zero : decZ = decF 0 zeroRec := rfl
/-- What is asked of those who count: a decision and whether it holds. -/
abbrev AskC (P : World → Prop) (f : Nat) (args : Array Value) (d : Int) (r : RecT) (b : Bool) : Prop :=
  ∀ W, P W → Calls Tryd.prog f args W (fun e w' => e = .returned (.tuple #[.agg #[.int .i64 d, .int .i64 r.k, .int .i64 r.c, .int .i64 r.q, .string r.y, .string r.x, .int .i64 r.r, .slice r.A r.m r.cap, .int .i64 r.sq, .int .i64 r.tg], .bool b]) ∧ Below W.heap.size W w')
set_option maxHeartbeats 4000000 in
theorem couldbe_any (ir inn : Int) (A : Option Addr) (m c : Nat) (ss : List SeenT) (f : SeenT) (g : Nat) (w : World) (h : SeensAt w A m ss) (h0 : ss[0]? = some f) (hB : Blk w g 28 #[.int .i64 ir, .int .i64 inn]) (d : Int) (r : RecT) (b : Bool)
    (hb : b = ss.all (fastOk ir f.r)) (hd : decF d r = if b then decF 2 f.r else decZ) : Calls Tryd.prog 32 #[.slice A m c, .pointer (some ⟨g, 0, none⟩)] w (fun e w' => e = .returned (.tuple #[.agg #[.int .i64 d, .int .i64 r.k, .int .i64 r.c, .int .i64 r.q, .string r.y, .string r.x, .int .i64 r.r, .slice r.A r.m r.cap, .int .i64 r.sq, .int .i64 r.tg], .bool b]) ∧ Below w.heap.size w w') := by
  have hfa := fast_any ir inn A m c ss f (w.alloc (.cells #[.int .i64 0, .int .i64 0, .int .i64 0, .int .i64 0, .string ⟨#[]⟩, .string ⟨#[]⟩, .int .i64 0, .slice none 0 0, .int .i64 0, .int .i64 0] 42)) (h.keep (below_one _)) h0
  rw [← hb, ← hd] at hfa
  unfold decF at hfa
  have Hfa := Lib.hid hfa
  have hB1 := hB.alloc (.cells #[.int .i64 0, .int .i64 0, .int .i64 0, .int .i64 0, .string ⟨#[]⟩, .string ⟨#[]⟩, .int .i64 0, .slice none 0 0, .int .i64 0, .int .i64 0] 42)
  have hlt := hB.lt
  have hBc := hB1.cell
  have D1 : Blk (w.alloc (.cells #[.int .i64 0, .int .i64 0, .int .i64 0, .int .i64 0, .string ⟨#[]⟩, .string ⟨#[]⟩, .int .i64 0, .slice none 0 0, .int .i64 0, .int .i64 0] 42)) w.heap.size 42 #[.int .i64 0, .int .i64 0, .int .i64 0, .int .i64 0, .string ⟨#[]⟩, .string ⟨#[]⟩, .int .i64 0, .slice none 0 0, .int .i64 0, .int .i64 0] := Blk.new _ _ _
  clear hfa hb hd h h0 hB
  go_enter Tryd.func32, Tryd.ntmps32
  go_wp2_with (go_at_call 33; (with_reducible refine Hfa.out.mono ?_); rintro e w1 ⟨rfl, hb1⟩; have D2 := D1.keep hb1; have sd := dec_store D2 rfl d r.k r.c r.q r.y r.x r.r r.A r.m r.cap r.sq r.tg; have k1 : Below w.heap.size w w1 := (by ((repeat' first | with_reducible exact Below.refl _ _ | with_reducible assumption | with_reducible refine Below.alloc ?_ ?_ _ | with_reducible refine Below.setCell ?_ ?_ _ | with_reducible apply Below.drew | with_reducible apply below_drewN | with_reducible refine below_call ?_ (by with_reducible assumption) ?_) <;> (first | omega | (simp; done) | (simp; omega) | (simp at *; omega)))))
  refine bodyPost_ret (v := .tuple #[.agg #[.int .i64 d, .int .i64 r.k, .int .i64 r.c, .int .i64 r.q, .string r.y, .string r.x, .int .i64 r.r, .slice r.A r.m r.cap, .int .i64 r.sq, .int .i64 r.tg], .bool b]) (results_dec2 rfl rfl rfl (D2.decSet (cs' := #[.int .i64 d, .int .i64 r.k, .int .i64 r.c, .int .i64 r.q, .string r.y, .string r.x, .int .i64 r.r, .slice r.A r.m r.cap, .int .i64 r.sq, .int .i64 r.tg]) rfl)) rfl ?_
  exact ⟨rfl, below_decSet k1 (Nat.le_refl _) _⟩
end Go.Proofs.YtmgiholmhhjpaaaDoor
