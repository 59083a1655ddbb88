/- A range over the map of files; how many bytes all files have. -/
import Derived.Test.YtpdfbkkhmfnnjaaDisk
import Derived.WalkKit
import Derived.WalkSpells
import Derived.WalkLawsBesides
import Derived.Deep.RegionHeld3
import Derived.Deep.DrawnRows
import Derived.Deep.DeepCutAuto
import Derived.Deep.DeepFit
import Derived.Lib.Hide
import Derived.BigQuiet
import Derived.Deep.QuietTactic
import Derived.Deep.RegionHeld3
namespace Go.Proofs.Ytpdfbkkhmfnnjaa
open Go.RowKit
set_option linter.unusedVariables false
set_option linter.unusedSimpArgs false
set_option maxRecDepth 20000
attribute [local go_sem ↓] Go.wp_at_zero Go.wp_at_succ
attribute [local go_sem] World.cell?_alloc_some frozen_alloc_some
open Go.Maps

/-- A range over the map under way: l has come. -/
def RangeF (w : World) (b r : Nat) (x l : List FlT) (cnt : Nat) : Prop := ∃ D left, w.ranges Try.prog 9 RF b r x.length D left cnt ∧ RepF D x ∧ (∀ t ∈ x, left (nmK t.1) = !hasF l t.1) ∧ (∀ t ∈ l, t ∈ x) ∧ Nms1 l ∧ cnt + l.length ≤ x.length
theorem RangeF.kept {w w' : World} {row : Option Nat} {b r c : Nat} {x l : List FlT} (h : RangeF w b r x l c) (hg : w.grownBy w' row) (hb : some b ≠ row) (hr : some r ≠ row) : RangeF w' b r x l c := by
  obtain ⟨D, left, h1, h2⟩ := h
  exact ⟨D, left, h1.kept hg hb hr, h2⟩
theorem RangeF.keep {w w' : World} {b r c : Nat} {x l : List FlT} (h : RangeF w b r x l c) (hb : Below w.heap.size w w') : RangeF w' b r x l c :=
  h.kept (grown_of_below hb none) (by simp) (by simp)
theorem RangeF.is_iter {w : World} {b r c : Nat} {x l : List FlT} (h : RangeF w b r x l c) : ∃ m s sn c, w.heap[r]? = some (.mapIter m s sn c) := by
  obtain ⟨D, left, ⟨es, clock, since, seen, c0, _, _, _, _, hr, _⟩, _⟩ := h
  exact ⟨_, _, _, _, hr⟩
theorem RangeF.left_eq {w : World} {b r c : Nat} {x l : List FlT} (h : RangeF w b r x l c) : w.rangeLeft b r = c := by
  obtain ⟨D, left, h1, _⟩ := h
  exact h1.left_eq
theorem RangeF.sub {w : World} {b r c : Nat} {x l : List FlT} (h : RangeF w b r x l c) : (∀ t ∈ l, t ∈ x) ∧ Nms1 l := by
  obtain ⟨D, left, _, _, _, h1, h2, _⟩ := h
  exact ⟨h1, h2⟩
theorem hasF_snoc {l : List FlT} {t : FlT} {s : NmT} : hasF (l ++ [t]) s = (hasF l s || decide (s = t.1)) := by
  unfold hasF
  rw [List.any_append]
  congr 1
  simp only [List.any_cons, List.any_nil, Bool.or_false]
  rw [Bool.eq_iff_iff]
  simp only [decide_eq_true_eq]
  exact eq_comm
theorem nmK_same {s t : NmT} : (nmK s).sameKey (nmK t) = decide (s = t) := by
  by_cases e : s = t
  · rw [e, WideAt.sameKey_self (nmK_key t)]; simp
  · rw [sameKey_ne fun h => e (nmK_inj h)]; simp [e]
theorem nms1_nodup {x : List FlT} (h : Nms1 x) : x.Nodup := h.imp fun {a b} hab e => hab (by rw [e])
theorem wpList_range_fl {P : Program} (hP : P = Try.prog) (w : World) {ops : Array Oper} {rest : List Oper} {o : Oper} {a : Act} {Q : Exit → Act → World → Prop} (hg : o.guard = none) (m : Operand) (hop : o.op = Op.range 93 m) (b : Nat) (x : List FlT) (r : Nat) (hrr : w.heap.size = r) (hm : a.eval m = .map (some b)) (h : FmAt w b x)
    (hK : ∀ w', RangeF w' b r x [] x.length → Below w.heap.size w w' → w'.heap.size = r + 1 → wpList P ops Q rest (a.put o.dst (.pointer (some ⟨r, 0, none⟩))) w') :
    wpList P ops Q (o :: rest) a w := by
  subst hP
  subst hrr
  obtain ⟨D, h1, h2⟩ := h
  refine wpList_range_own w hg m _ hop _ _ nmLaw Try.underlying93 RF b x.length D hm h1 fun w' hr hgr hs => hK w' ⟨D, _, by rw [← h2.size] at hr ⊢; exact hr, h2, (fun t ht => by rw [h2.has t ht]; rfl), (fun t ht => by cases ht), List.Pairwise.nil, Nat.le_refl _⟩ ⟨hgr.os, hgr.tape, hgr.output, hgr.size, fun i hi => hgr.block i hi (by simp)⟩ hs
theorem wpList_next_fl {P : Program} (hP : P = Try.prog) (w : World) {ops : Array Oper} {rest : List Oper} {o : Oper} {a : Act} {Q : Exit → Act → World → Prop} (hg : o.guard = none) (it : Operand) (hop : o.op = Op.next it false) (b r c : Nat) (x l : List FlT) (hit : a.eval it = .pointer (some ⟨r, 0, none⟩)) (h : RangeF w b r x l c)
    (hDone : Hid (l.Perm x) → wpList P ops Q rest (a.put o.dst (.tuple #[.bool false])) w)
    (hMore : ∀ (s : NmT) (e : Nat) (w' : World) (c' : Nat), Hid ((s, e) ∈ x) → RangeF w' b r x (l ++ [(s, e)]) c' → Hid (c' < c ∧ l.length < x.length) → w.grownBy w' (some r) → (Instr.entry (.pointer (some ⟨r, 0, none⟩))).run P w' = .ok (.tuple #[sV s, eV e]) w' → wpList P ops Q rest (a.put o.dst (.tuple #[.bool true, sV s, eV e])) w') :
    wpList P ops Q (o :: rest) a w := by
  subst hP
  obtain ⟨D, left, hr, hR, hl, hsub, hnd, hcnt⟩ := h
  refine wpList_plain hg fun K' hK' => ?_
  unfold Oper.wp
  rcases hr.next nmLaw o.type with ⟨h0, hl0, hrun⟩ | ⟨key, v, kl, y, w', cnt', hkey, hlk, hv, hat, hrun, hrg, hlt, hgr, hsz, hen⟩
  · simp [execOp, hop, hit, hrun, Result.andThen]
    have hall : ∀ t ∈ x, t ∈ l := fun t ht => ?_
    · refine hK' _ _ (hDone (Lib.hid ?_))
      exact (List.perm_ext_iff_of_nodup (nms1_nodup hnd) (nms1_nodup hR.nd)).2 fun t => ⟨hsub t, hall t⟩
    have h1 := hl t ht
    rw [hl0] at h1
    have h2 : hasF l t.1 = true := by simpa using h1.symm
    obtain ⟨u, hu, e⟩ := hasF_iff.1 h2
    rw [nms1_one hR.nd ht (hsub u hu) e.symm]
    exact hu
  · have hhas := has_true_of_atKey hat
    obtain ⟨t, ht, rfl⟩ := hR.only kl hhas
    obtain rfl : key = sV t.1 := nmLaw.inj hkey (keyOf_nm (hR.wf t ht))
    have e1 := hat (.lit (.int .i64 0))
    rw [hR.at_ t ht] at e1
    obtain ⟨y1, y2⟩ := y
    simp only at e1
    subst e1
    obtain rfl := rf_inv hv
    have hnl : hasF l t.1 = false := by
      have h1 := hl t ht
      rw [hlk] at h1
      simpa using h1.symm
    have hnot : t ∉ l := fun hm => by rw [hasF_mem hm] at hnl; cases hnl
    have hapart : ∀ u ∈ l, u.1 ≠ t.1 := fun u hu e => by
      have : hasF l t.1 = true := hasF_iff.2 ⟨u, hu, e⟩
      rw [hnl] at this; cases this
    have hlen : l.length < x.length := by omega
    simp [execOp, hop, hit, hrun, Result.andThen]
    refine hK' _ _ (hMore t.1 t.2 w' cnt' (Lib.hid ht) ⟨D, _, hrg, hR, fun u hu => ?_, fun u hu => ?_, ?_, ?_⟩ (Lib.hid ⟨hlt, hlen⟩) hgr hen)
    · show (left (nmK u.1) && !(nmK u.1).sameKey (nmK t.1)) = _
      rw [hl u hu, hasF_snoc, nmK_same]
      simp only [Bool.not_or]
    · rcases List.mem_append.1 hu with hu | hu
      · exact hsub u hu
      · simp at hu; rw [hu]; exact ht
    · exact List.pairwise_append.2 ⟨hnd, by simp, fun u hu v hv => by simp at hv; rw [hv]; exact hapart u hu⟩
    · simp; omega
/-- How many bytes a file of a map has. -/
def lenF (gs : List GF) (t : FlT) : Nat := match findBy GF.nm t.1 gs with | some f => f.by_.length | none => 0
def sumF (gs : List GF) (l : List FlT) : Nat := (l.map (lenF gs)).sum
theorem sumF_snoc (gs : List GF) (l : List FlT) (t : FlT) : sumF gs (l ++ [t]) = sumF gs l + lenF gs t := by simp [sumF]
theorem sumF_perm {gs : List GF} (h : AscBy GF.nm gs) {l : List FlT} (hp : l.Perm (gs.map GF.fl)) : sumF gs l = totD (gs.map GF.d) := by
  unfold sumF totD
  rw [(hp.map _).sum_nat, List.map_map, List.map_map]
  congr 1
  apply List.map_congr_left
  intro f hf
  simp only [Function.comp, lenF, GF.fl, GF.d]
  rw [findBy_mem h hf]
theorem sum_sub {α : Type} [DecidableEq α] (f : α → Nat) : ∀ {l x : List α}, l.Nodup → (∀ t ∈ l, t ∈ x) → (l.map f).sum ≤ (x.map f).sum
  | [], _, _, _ => by simp
  | t :: l, x, hn, h => by
    obtain ⟨h1, h2⟩ := List.nodup_cons.1 hn
    have hm := h t (by simp)
    have ih := sum_sub f (l := l) (x := x.erase t) h2 fun u hu => (List.mem_erase_of_ne fun e => h1 (by rw [← e]; exact hu)).2 (h u (by simp [hu]))
    have hp := ((List.perm_cons_erase hm).map f).sum_nat
    simp only [List.map_cons, List.sum_cons] at hp ⊢
    omega
theorem sumF_le {gs : List GF} (h : AscBy GF.nm gs) {l : List FlT} (hs : ∀ t ∈ l, t ∈ gs.map GF.fl) (hn : Nms1 l) : sumF gs l ≤ totD (gs.map GF.d) := by
  rw [← sumF_perm h (List.Perm.refl _)]
  exact sum_sub (lenF gs) (nms1_nodup hn) hs
end Go.Proofs.Ytpdfbkkhmfnnjaa
