/- Trees as values of type any: what the program's inner functions hand on. -/
import Derived.Test.YtfdfcceleaodaaaDoorCodecF
import Derived.Laws.MakeOwn
namespace Go.Proofs.YtfdfcceleaodaaaDoor
open Go.RowKit
set_option linter.unusedVariables false
set_option linter.unusedSimpArgs false
set_option maxRecDepth 20000
attribute [local go_sem ↓] Go.wp_at_zero Go.wp_at_succ
attribute [local go_sem] World.cell?_alloc_some frozen_alloc_some

/-- What is behind a value of type any that is the tree; all of it lies in blocks of S. -/
inductive Tall (w : World) (S : Nat → Prop) : Tree → Value → Prop
  | num (n : Nat) (hn : n < 2 ^ 64) : Tall w S (.mk 0 n ByteArray.empty []) (.iface 23 (.int .u64 (n : Int)))
  | text (s : ByteArray) (hs : s.size ≤ maxLen) : Tall w S (.mk 1 0 s []) (.iface 9 (.string s))
  | list (l : List Tree) (A : Option Addr) (m c : Nat) (vs : Nat → Value) (hm : m = l.length) (hmc : m ≤ c) (hc : c ≤ maxLen)
    (hcell : ∀ i, i < m → ∃ b o, A = some ⟨b, o, none⟩ ∧ S b ∧ w.cell? ⟨b, o + i, none⟩ = some (vs i)) (hsub : ∀ i t, l[i]? = some t → Tall w S t (vs i)) :
    Tall w S (.mk 2 0 ByteArray.empty l) (.iface 145 (.slice A m c))

theorem Tall.mono {w : World} {S S' : Nat → Prop} {t : Tree} {v : Value} (h : Tall w S t v) (hS : ∀ b, S b → S' b) : Tall w S' t v := by
  induction h with
  | num n hn => exact .num n hn
  | text s hs => exact .text s hs
  | list l A m c vs hm hmc hc hcell hsub ih =>
    exact .list l A m c vs hm hmc hc (fun i hi => by
      obtain ⟨b, o, e, hb, hv⟩ := hcell i hi
      exact ⟨b, o, e, hS b hb, hv⟩) ih
/-- It lies in blocks that are there. -/
theorem Tall.there {w : World} {S : Nat → Prop} {t : Tree} {v : Value} (h : Tall w S t v) : Tall w (fun b => S b ∧ b < w.heap.size) t v := by
  induction h with
  | num n hn => exact .num n hn
  | text s hs => exact .text s hs
  | list l A m c vs hm hmc hc hcell hsub ih =>
    exact .list l A m c vs hm hmc hc (fun i hi => by
      obtain ⟨b, o, e, hb, hv⟩ := hcell i hi
      exact ⟨b, o, e, ⟨hb, World.block_lt_of_cell? _ _ hv⟩, hv⟩) ih
theorem Tall.keep {w w' : World} {S : Nat → Prop} {t : Tree} {v : Value} (h : Tall w S t v) (hk : ∀ b, S b → b < w.heap.size → w'.heap[b]? = w.heap[b]?) : Tall w' S t v := by
  induction h with
  | num n hn => exact .num n hn
  | text s hs => exact .text s hs
  | list l A m c vs hm hmc hc hcell hsub ih =>
    exact .list l A m c vs hm hmc hc (fun i hi => by
      obtain ⟨b, o, e, hb, hv⟩ := hcell i hi
      have hlt : b < w.heap.size := World.block_lt_of_cell? _ _ hv
      exact ⟨b, o, e, hb, by rw [← hv]; exact World.cell?_of_block (w := w) (hk b hb hlt)⟩) ih
theorem Tall.under {w w' : World} {S : Nat → Prop} {t : Tree} {v : Value} (h : Tall w S t v) (hb : Below w.heap.size w w') : Tall w' S t v := h.keep fun b _ hl => hb.block b hl
theorem Tall.grown {w w' : World} {S : Nat → Prop} {t : Tree} {v : Value} {row : Option Nat} (h : Tall w S t v) (hg : w.grownBy w' row) (hS : ∀ b, S b → some b ≠ row) : Tall w' S t v := h.keep fun b hb hl => hg.block b hl (hS b hb)
theorem Tall.one {w : World} {S : Nat → Prop} {t : Tree} {v : Value} (h : Tall w S t v) : v.oneCell' = true := by
  cases h <;> rfl
theorem Tall.form {w : World} {S : Nat → Prop} {t : Tree} {v : Value} (h : Tall w S t v) : ∃ e x, v = .iface e x := by
  cases h <;> exact ⟨_, _, rfl⟩
theorem Tall.kinds {w : World} {S : Nat → Prop} {t : Tree} {v : Value} (h : Tall w S t v) : v ≠ .nilIface := by
  cases h <;> exact fun h => by cases h

/-- A row of its own of such values: of the first so many of a list of trees. -/
structure Row (w : World) (base : Nat) (v : Value) (l : List Tree) (us : List Value) : Prop where
  own : w.ownsRow base 20 1 v us.length us
  le : us.length ≤ l.length
  sub : ∀ (i : Nat) (t : Tree) (u : Value), l[i]? = some t → us[i]? = some u → Tall w (fun b => base ≤ b ∧ some b ≠ v.ownBlock) t u
theorem Row.form {w : World} {base : Nat} {v : Value} {l : List Tree} {us : List Value} (h : Row w base v l us) : ∃ A c, v = .slice A us.length c ∧ us.length ≤ c ∧ c ≤ maxLen := by
  rcases h.own.2 with ⟨rfl, hl⟩ | ⟨g, cap, cur, rfl, _, _, hle, hm, _⟩
  · exact ⟨none, 0, by rw [hl], by omega, Nat.zero_le _⟩
  · exact ⟨_, cap, rfl, hle, hm⟩
theorem Row.below {w w' : World} {base : Nat} {v : Value} {l : List Tree} {us : List Value} (h : Row w base v l us) (hb : Below w.heap.size w w') : Row w' base v l us :=
  ⟨h.own.kept (grown_of_below hb none) (by cases v.ownBlock <;> simp), h.le, fun i t u ht hu => (h.sub i t u ht hu).under hb⟩
/-- One more is appended. -/
theorem Row.step {w w' : World} {base g : Nat} {v v' : Value} {l : List Tree} {us : List Value} {t : Tree} {u : Value} (h : Row w base v l us) (ht : l[us.length]? = some t)
    (hu : Tall w (fun b => g ≤ b) t u) (hg : base ≤ g) (hv : ∀ k, v.ownBlock = some k → k < g)
    (hown : w'.ownsRow base 20 1 v' (us.length + 1) (us ++ [u])) (hgr : w.grownBy w' v.ownBlock) (hat : v'.ownBlock = v.ownBlock ∨ v'.ownBlock = some w.heap.size) : Row w' base v' l (us ++ [u]) := by
  have hle : us.length < l.length := by
    rcases Nat.lt_or_ge us.length l.length with h | h
    · exact h
    · rw [List.getElem?_eq_none h] at ht; cases ht
  have key : ∀ (i : Nat) (t : Tree) (x : Value), l[i]? = some t → (us ++ [u])[i]? = some x → Tall w (fun b => (base ≤ b ∧ some b ≠ v.ownBlock) ∧ b < w.heap.size) t x := by
    intro i t' x hi hx
    by_cases hlt : i < us.length
    · rw [List.getElem?_append_left hlt] at hx
      exact (h.sub i t' x hi hx).there
    · have : i = us.length := by
        have : i < (us ++ [u]).length := by
          rcases Nat.lt_or_ge i (us ++ [u]).length with h | h
          · exact h
          · rw [List.getElem?_eq_none h] at hx; cases hx
        simp at this; omega
      subst this
      rw [ht] at hi
      simp at hi hx
      subst hi hx
      exact (hu.mono fun b hb => (⟨by omega, fun e => by have := hv b e.symm; omega⟩ : base ≤ b ∧ some b ≠ v.ownBlock)).there
  refine ⟨by simpa using hown, by simp; omega, fun i t' x hi hx => ?_⟩
  refine ((key i t' x hi hx).grown hgr fun b hb => hb.1.2).mono fun b hb => ⟨hb.1.1, ?_⟩
  rcases hat with e | e
  · rw [e]; exact hb.1.2
  · rw [e]
    intro e2
    injection e2 with e2
    have := hb.2
    omega
/-- A whole row is a list. -/
theorem Row.tall {w : World} {base : Nat} {A : Option Addr} {m c : Nat} {l : List Tree} {us : List Value} (h : Row w base (.slice A m c) l us) (hl : us.length = l.length) :
    Tall w (fun b => base ≤ b) (.mk 2 0 ByteArray.empty l) (.iface 145 (.slice A m c)) := by
  obtain ⟨A', c', e, hle, hm⟩ := h.form
  injection e with e1 e2 e3
  subst e1 e2 e3
  refine .list l A us.length c (fun i => us.getD i .nilIface) hl hle hm (fun i hi => ?_) fun i t ht => ?_
  · have hg : us[i]? = some (us.getD i .nilIface) := by simp [List.getD, List.getElem?_eq_getElem hi]
    rcases h.own.2 with ⟨hv, hn⟩ | ⟨g, cap, cur, hv, hb, _⟩
    · omega
    · injection hv with hv _ _
      subst hv
      refine ⟨g, 0, rfl, hb, ?_⟩
      have := h.own.cells (g := g) rfl i _ hg
      rw [← this]
      congr 1
      unfold Addr.add; split <;> simp_all
  · have hi : i < us.length := by
      rw [hl]
      rcases Nat.lt_or_ge i l.length with h | h
      · exact h
      · rw [List.getElem?_eq_none h] at ht; cases ht
    have hg : us[i]? = some (us.getD i .nilIface) := by simp [List.getD, List.getElem?_eq_getElem hi]
    exact (h.sub i t _ ht hg).mono fun b hb => hb.1

theorem info_any : (Tryd.prog.info? 20).map (fun i => (i.zero, i.size, i.bytes)) = some (some .nilIface, 1, 16) := by kernel_rfl
theorem any_parts : ∃ i, Tryd.prog.info? 20 = some i ∧ i.zero = some .nilIface ∧ i.size = 1 ∧ i.bytes = 16 := by
  have h := info_any
  cases hi : Tryd.prog.info? 20 with
  | none => rw [hi] at h; cases h
  | some i =>
    rw [hi] at h
    simp at h
    exact ⟨i, rfl, h.1, h.2.1, h.2.2⟩
theorem made_any (n : Nat) : (madeCells (Value.nilIface).cells (n * 1)).size = n * 1 := by
  simp [madeCells]
theorem run_make_any (n : Nat) (h : n ≤ 17592186044416) (w : World) :
    (Instr.makeSlice 145 (.int .i64 0) (.int .i64 (n : Int))).run Tryd.prog w = .ok (.slice (some ⟨w.heap.size, 0, none⟩) 0 n) (w.alloc (.cells (madeCells (Value.nilIface).cells (n * 1)) 20)) := by
  obtain ⟨i, hi, hz, hs, hb⟩ := any_parts
  have := run_make (P := Tryd.prog) w 145 20 i _ Tryd.underlying145 hi hz .i64 .i64 0 (n : Int) (by omega) (by omega) (by rw [hb]; omega) (by omega)
  rw [this, hs, Int.toNat_natCast]
  rfl
end Go.Proofs.YtfdfcceleaodaaaDoor
