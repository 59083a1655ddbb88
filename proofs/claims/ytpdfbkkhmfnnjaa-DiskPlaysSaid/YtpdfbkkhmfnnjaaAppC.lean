/- Rows of bytes that a call hands on: what a function that appends to its argument gives back. -/
import Derived.Test.YtpdfbkkhmfnnjaaAppB
namespace Go.Proofs.Ytpdfbkkhmfnnjaa
open Go.RowKit
set_option linter.unusedVariables false
set_option linter.unusedSimpArgs false
set_option linter.unnecessarySimpa false

theorem src_one {w : World} {e : TypeId} {u : Value} (h1 : u.oneCell' = true) : Src (w.alloc (.cells #[u] e)) 1 (some ⟨w.heap.size, 0, none⟩) 1 [u] :=
  ⟨rfl, fun j x hj => by
    match j with
    | 0 => simp at hj; subst hj; exact ⟨_, rfl, by simpa [Addr.add] using (new_cell w #[u] e 0 rfl).1⟩
    | j + 1 => simp at hj, fun x hx => by simp at hx; subst hx; exact h1⟩
theorem below_one {w : World} (o : Obj) : Below w.heap.size w (w.alloc o) := (Below.refl _ _).alloc (Nat.le_refl _) _

/-- A call makes a byte slice of its own that reads as l; nothing that was there has turned. -/
def Makes (w : World) (e : TypeId) (l : List Nat) (r : Ending) (w' : World) : Prop := ∃ v, r = .returned v ∧ OwnB w' w.heap.size e v l ∧ Below w.heap.size w w'

/-- Out of b, which read as l in w, has come b', which reads as l' in w'; what else was there has not turned, and b reads as it did. -/
structure Onto (w : World) (base : Nat) (e : TypeId) (b : Value) (l : List Nat) (w' : World) (b' : Value) (l' : List Nat) : Prop where
  own : OwnB w' base e b' l'
  grown : w.grownBy w' b.ownBlock
  place : b'.ownBlock = b.ownBlock ∨ ∃ g, b'.ownBlock = some g ∧ w.heap.size ≤ g
  old : OwnB w' base e b l
  pre : ∃ m, l' = l ++ m
  lt : ∀ k, b.ownBlock = some k → k < w.heap.size

theorem grown_trans' {a b c : World} {r r' : Option Nat} (h : a.grownBy b r) (k : b.grownBy c r') (hr : r' = r ∨ ∃ g, r' = some g ∧ a.heap.size ≤ g) : a.grownBy c r :=
  ⟨k.os.trans h.os, k.tape.trans h.tape, k.output.trans h.output, Nat.le_trans h.size k.size, fun i hi hne => by
    rw [k.block i (Nat.lt_of_lt_of_le hi h.size) (fun e => by
      rcases hr with rfl | ⟨g, rfl, hg⟩
      · exact hne e
      · injection e with e; omega)]
    exact h.block i hi hne⟩

theorem OwnB.pre {w1 w2 : World} {base : Nat} {e : TypeId} {b b1 : Value} {l m : List Nat} (h1 : OwnB w1 base e b l) (h2 : OwnB w1 base e b1 (l ++ m)) (hs : b1.ownBlock = b.ownBlock) (h3 : OwnB w2 base e b1 (l ++ m)) : OwnB w2 base e b l := by
  refine ⟨?_, h1.2⟩
  rcases h1.1.2 with ⟨rfl, hl⟩ | ⟨g, cap, cur, rfl, hb, hg, hle, hcm, hcs, htk⟩
  · have : l = [] := List.eq_nil_of_length_eq_zero hl
    subst this
    exact World.ownsRow_nil _ _ _ _
  · rcases h2.1.2 with ⟨rfl, hl2⟩ | ⟨g2, cap2, cur2, rfl, _, hg2, _, _, hcs2, _⟩
    · simp [Value.ownBlock] at hs
    · have hgg : g2 = g := by simpa [Value.ownBlock] using hs
      subst hgg
      rw [hg] at hg2
      injection hg2 with hg2
      injection hg2 with hcur
      subst hcur
      have hcc : cap2 = cap := by omega
      subst hcc
      rcases h3.1.2 with ⟨hv, _⟩ | ⟨g3, cap3, cur3, hv, hb3, hg3, _, _, hcs3, htk3⟩
      · cases hv
      · injection hv with hv _ hc3
        injection hv with hv
        injection hv with hv
        subst hv
        subst hc3
        refine ⟨h1.1.1, .inr ⟨g2, cap2, cur3, rfl, hb, hg3, hle, hcm, hcs3, ?_⟩⟩
        have := congrArg (List.take (l.length * 1)) htk3
        rw [List.take_take, Nat.min_eq_left (by simp), u8s_append] at this
        rw [this]
        rw [List.take_append_of_le_length (by simp [u8s_length])]
        exact List.take_of_length_le (by simp [u8s_length])

theorem Onto.refl {w : World} {base : Nat} {e : TypeId} {b : Value} {l : List Nat} (h : OwnB w base e b l) : Onto w base e b l w b l :=
  ⟨h, World.grownBy.refl w _, .inl rfl, h, ⟨[], by simp⟩, fun k hk => (h.1.lt k hk).2⟩
/-- A call that turns nothing. -/
theorem Onto.keep {w w1 w2 : World} {base : Nat} {e : TypeId} {b b1 : Value} {l l1 : List Nat} (h : Onto w base e b l w1 b1 l1) (hb : Below w1.heap.size w1 w2) : Onto w base e b l w2 b1 l1 :=
  ⟨h.own.keep hb, ⟨hb.os.trans h.grown.os, hb.tape.trans h.grown.tape, hb.output.trans h.grown.output, Nat.le_trans h.grown.size hb.size, fun i hi hne => (hb.block i (Nat.lt_of_lt_of_le hi h.grown.size)).trans (h.grown.block i hi hne)⟩,
    h.place, h.old.keep hb, h.pre, h.lt⟩
/-- Another append. -/
theorem Onto.step {w w1 w2 : World} {base : Nat} {e : TypeId} {b b1 b2 : Value} {l l1 m : List Nat} (h : Onto w base e b l w1 b1 l1)
    (hown : w2.ownsRow base e 1 b2 (l1.length + m.length) (u8s l1 ++ u8s m)) (hm : ∀ c ∈ m, c < 256) (hg : w1.grownBy w2 b1.ownBlock) (hat : b2.ownBlock = b1.ownBlock ∨ b2.ownBlock = some w1.heap.size)
    (hold : w2.ownsRow base e 1 b1 l1.length (u8s l1)) : Onto w base e b l w2 b2 (l1 ++ m) := by
  obtain ⟨mm, rfl⟩ := h.pre
  have hpl : b1.ownBlock = b.ownBlock ∨ ∃ g, b1.ownBlock = some g ∧ w.heap.size ≤ g := h.place
  have ho1 : OwnB w2 base e b1 (l ++ mm) := ⟨hold, h.own.2⟩
  refine ⟨⟨by rw [List.length_append, u8s_append]; exact hown, fun c hc => ?_⟩, grown_trans' h.grown hg hpl, ?_, ?_, ⟨mm ++ m, by simp⟩, h.lt⟩
  · rcases List.mem_append.1 hc with hc | hc
    · exact h.own.2 c hc
    · exact hm c hc
  · rcases hat with hat | hat
    · rw [hat]; exact hpl
    · exact .inr ⟨_, hat, h.grown.size⟩
  · rcases hpl with hpl | ⟨g, hpl, hgw⟩
    · exact h.old.pre h.own hpl ho1
    · refine h.old.kept hg ?_
      cases hbo : b.ownBlock with
      | none => exact .inl rfl
      | some k =>
        right
        rw [hpl]
        intro hk
        injection hk with hk
        have := h.lt k hbo
        omega
theorem Onto.below {w w1 : World} {base : Nat} {e : TypeId} {b b1 : Value} {l l1 : List Nat} (h : Onto w base e b l w1 b1 l1) {B : Nat} {a : World} (ha : Below B a w) (hB : B ≤ base) (hs : B ≤ w.heap.size) (hl : OwnB w base e b l) : Below B a w1 :=
  ha.grown h.grown hs fun k hk => by have := (hl.1.lt k hk).1; omega
/-- What a function that appends gives back. -/
def Appends (w : World) (base : Nat) (e : TypeId) (b : Value) (l news : List Nat) (r : Ending) (w' : World) : Prop := ∃ b', r = .returned b' ∧ Onto w base e b l w' b' (l ++ news)
/-- What an append leaves is of the call's own. -/
theorem OwnB.join {w : World} {base : Nat} {e : TypeId} {v : Value} {l m : List Nat} (h : w.ownsRow base e 1 v (l.length + m.length) (u8s l ++ u8s m)) (hl : ∀ c ∈ l, c < 256) (hm : ∀ c ∈ m, c < 256) : OwnB w base e v (l ++ m) :=
  ⟨by rw [List.length_append, u8s_append]; exact h, fun c hc => by
    rcases List.mem_append.1 hc with hc | hc
    · exact hl c hc
    · exact hm c hc⟩
theorem OwnB.past {w0 w w' : World} {base : Nat} {e : TypeId} {v : Value} {l : List Nat} {row : Option Nat} (h : OwnB w0 base e v l) (hb : Below w0.heap.size w0 w) (hg : w.grownBy w' row) (hr : ∀ k, row = some k → w0.heap.size ≤ k) : OwnB w' base e v l :=
  (h.keep hb).kept hg (by
    cases hv : v.ownBlock with
    | none => exact .inl rfl
    | some k =>
      right
      intro he
      have h1 := hr k he.symm
      have h2 := (h.1.lt k hv).2
      omega)
end Go.Proofs.Ytpdfbkkhmfnnjaa
