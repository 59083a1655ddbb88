/- A disk, in plain Lean: files by rising names; no program in sight. -/
import Derived.Test.YtpdfbkkhmfnnjaaBase
namespace Go.Proofs.Ytpdfbkkhmfnnjaa
set_option linter.unusedVariables false
set_option linter.unusedSimpArgs false

abbrev NmT := List UInt8
theorem nm_irrefl (a : NmT) : ¬ a < a := List.lt_irrefl a
theorem nm_trans {a b c : NmT} (h1 : a < b) (h2 : b < c) : a < c := List.lt_trans h1 h2
theorem nm_total {a b : NmT} (h : a ≠ b) : a < b ∨ b < a := by
  rcases Classical.em (a < b) with h1 | h1
  · exact .inl h1
  · rcases Classical.em (b < a) with h2 | h2
    · exact .inr h2
    · exact absurd (List.le_antisymm (show a ≤ b from h2) (show b ≤ a from h1)) h
section
variable {α β : Type} (nm : α → NmT)
abbrev AscBy (l : List α) : Prop := l.Pairwise fun a b => nm a < nm b
def insBy (f : α) : List α → List α
  | [] => [f]
  | u :: r => if nm f < nm u then f :: u :: r else u :: insBy f r
def outBy (s : NmT) (l : List α) : List α := l.filter fun t => decide (nm t ≠ s)
def updBy (s : NmT) (u : α → α) (l : List α) : List α := l.map fun t => if nm t = s then u t else t
def findBy (s : NmT) (l : List α) : Option α := l.find? fun t => decide (nm t = s)
theorem mem_outBy {nm : α → NmT} {s : NmT} {l : List α} {t : α} : t ∈ outBy nm s l ↔ t ∈ l ∧ nm t ≠ s := by simp [outBy]
theorem mem_insBy {nm : α → NmT} {f t : α} : ∀ {l : List α}, t ∈ insBy nm f l ↔ t = f ∨ t ∈ l
  | [] => by simp [insBy]
  | u :: r => by
    unfold insBy
    split
    · simp
    · simp only [List.mem_cons, mem_insBy (l := r)]
      constructor
      · rintro (h | h | h)
        · exact .inr (.inl h)
        · exact .inl h
        · exact .inr (.inr h)
      · rintro (h | h | h)
        · exact .inr (.inl h)
        · exact .inl h
        · exact .inr (.inr h)
theorem insBy_length (f : α) : ∀ l : List α, (insBy nm f l).length = l.length + 1
  | [] => rfl
  | u :: r => by
    unfold insBy
    split
    · rfl
    · simp [insBy_length f r]
theorem outBy_asc {nm : α → NmT} {l : List α} (h : AscBy nm l) (s : NmT) : AscBy nm (outBy nm s l) := List.Pairwise.filter _ h
theorem insBy_asc {nm : α → NmT} {f : α} : ∀ {l : List α}, AscBy nm l → (∀ t ∈ l, nm t ≠ nm f) → AscBy nm (insBy nm f l)
  | [], _, _ => by simp [insBy]
  | u :: r, h, hn => by
    obtain ⟨h1, h2⟩ := List.pairwise_cons.1 h
    unfold insBy
    split
    · next hlt =>
      refine List.pairwise_cons.2 ⟨fun t ht => ?_, h⟩
      rcases List.mem_cons.1 ht with rfl | ht
      · exact hlt
      · exact nm_trans hlt (h1 t ht)
    · next hlt =>
      refine List.pairwise_cons.2 ⟨fun t ht => ?_, insBy_asc h2 fun t ht => hn t (by simp [ht])⟩
      rcases mem_insBy.1 ht with rfl | ht
      · rcases nm_total (hn u (by simp)) with h3 | h3
        · exact h3
        · exact absurd h3 hlt
      · exact h1 t ht
theorem updBy_asc {nm : α → NmT} {l : List α} (h : AscBy nm l) {s : NmT} {u : α → α} (hu : ∀ t, nm (u t) = nm t) : AscBy nm (updBy nm s u l) := by
  unfold updBy
  refine List.pairwise_map.2 (List.Pairwise.imp (fun {a b} hab => ?_) h)
  split <;> split <;> (try simp only [hu]) <;> exact hab
theorem asc_ne {nm : α → NmT} {l : List α} (h : AscBy nm l) : l.Pairwise fun a b => nm a ≠ nm b := List.Pairwise.imp (fun {a b} (hab : nm a < nm b) (e : nm a = nm b) => nm_irrefl (nm b) (by rw [e] at hab; exact hab)) h
theorem asc_one {nm : α → NmT} {l : List α} (h : AscBy nm l) {t u : α} (ht : t ∈ l) (hu : u ∈ l) (e : nm t = nm u) : t = u := by
  induction l with
  | nil => cases ht
  | cons v r ih =>
    obtain ⟨h1, h2⟩ := List.pairwise_cons.1 h
    rcases List.mem_cons.1 ht with e1 | ht2
    · rcases List.mem_cons.1 hu with e2 | hu2
      · rw [e1, e2]
      · have := h1 u hu2; rw [← e1, e] at this; exact absurd this (nm_irrefl _)
    · rcases List.mem_cons.1 hu with e2 | hu2
      · have := h1 t ht2; rw [← e2, e] at this; exact absurd this (nm_irrefl _)
      · exact ih h2 ht2 hu2
theorem findBy_some {nm : α → NmT} {s : NmT} {l : List α} {t : α} (h : findBy nm s l = some t) : t ∈ l ∧ nm t = s :=
  ⟨List.mem_of_find?_eq_some h, by simpa using List.find?_some h⟩
theorem findBy_mem {nm : α → NmT} {l : List α} (h : AscBy nm l) {t : α} (ht : t ∈ l) : findBy nm (nm t) l = some t := by
  cases hf : findBy nm (nm t) l with
  | none => have := List.find?_eq_none.1 hf t ht; simp at this
  | some u => rw [asc_one h (findBy_some hf).1 ht (findBy_some hf).2]
theorem findBy_none {nm : α → NmT} {s : NmT} {l : List α} : findBy nm s l = none ↔ ∀ t ∈ l, nm t ≠ s := by
  unfold findBy
  rw [List.find?_eq_none]
  simp
theorem outBy_same {nm : α → NmT} {s : NmT} {l : List α} (h : ∀ t ∈ l, nm t ≠ s) : outBy nm s l = l := List.filter_eq_self.2 fun t ht => by simpa using h t ht
theorem outBy_length {nm : α → NmT} {l : List α} (h : AscBy nm l) {t : α} (ht : t ∈ l) : (outBy nm (nm t) l).length + 1 = l.length := by
  induction l with
  | nil => cases ht
  | cons v r ih =>
    obtain ⟨h1, h2⟩ := List.pairwise_cons.1 h
    by_cases e : nm v = nm t
    · have hv : t = v := asc_one h ht (by simp) e.symm
      subst hv
      have hs : outBy nm (nm t) r = r := outBy_same fun u hu e2 => nm_irrefl (nm t) (by have := h1 u hu; rw [e2] at this; exact this)
      have : outBy nm (nm t) (t :: r) = outBy nm (nm t) r := by simp [outBy]
      rw [this, hs, List.length_cons]
    · rcases List.mem_cons.1 ht with rfl | ht
      · exact absurd rfl e
      · have : outBy nm (nm t) (v :: r) = v :: outBy nm (nm t) r := by simp [outBy, e]
        rw [this, List.length_cons, List.length_cons, ih h2 ht]
variable (nm' : β → NmT)
theorem insBy_map {nm : α → NmT} {nm' : β → NmT} {d : α → β} (hd : ∀ x, nm' (d x) = nm x) (f : α) : ∀ l : List α, (insBy nm f l).map d = insBy nm' (d f) (l.map d)
  | [] => rfl
  | u :: r => by
    unfold insBy
    simp only [List.map_cons, hd]
    split
    · rfl
    · rw [List.map_cons, insBy_map hd f r]
theorem outBy_map {nm : α → NmT} {nm' : β → NmT} {d : α → β} (hd : ∀ x, nm' (d x) = nm x) (s : NmT) (l : List α) : (outBy nm s l).map d = outBy nm' s (l.map d) := by
  unfold outBy
  rw [List.filter_map]
  congr 1
  apply List.filter_congr
  intro x _
  simp [hd]
theorem updBy_map {nm : α → NmT} {nm' : β → NmT} {d : α → β} (hd : ∀ x, nm' (d x) = nm x) (s : NmT) {u : α → α} {u' : β → β} {l : List α} (hu : ∀ x ∈ l, nm x = s → d (u x) = u' (d x)) : (updBy nm s u l).map d = updBy nm' s u' (l.map d) := by
  unfold updBy
  rw [List.map_map, List.map_map]
  apply List.map_congr_left
  intro x hx
  simp only [Function.comp, hd]
  split
  · next h => exact hu x hx h
  · rfl
theorem findBy_map {nm : α → NmT} {nm' : β → NmT} {d : α → β} (hd : ∀ x, nm' (d x) = nm x) (s : NmT) (l : List α) : findBy nm' s (l.map d) = (findBy nm s l).map d := by
  unfold findBy
  rw [List.find?_map]
  simp [Function.comp_def, hd]
end

/-- A file: its name, its bytes, how many of them are sure. -/
abbrev DF := NmT × List Nat × Nat
def okC (c : UInt8) : Bool := (97 ≤ c && c ≤ 122) || (48 ≤ c && c ≤ 57) || c == 46 || c == 45
def isNm (s : NmT) : Bool := !s.isEmpty && decide (s.length ≤ 16) && s.all okC
def totD (l : List DF) : Nat := (l.map (·.2.1.length)).sum
/-- A disk. -/
structure DkT where
  l : List DF
  room : Int
  fuse : Int
  down : Bool
structure DkOk (d : DkT) : Prop where
  tot : (totD d.l : Int) ≤ d.room
  room0 : 0 ≤ d.room
  room1 : d.room ≤ 1073741824
  len : d.l.length ≤ 16
  fuse0 : -1 ≤ d.fuse
  fuse1 : d.fuse ≤ 9223372036854775807
  sure : ∀ f ∈ d.l, f.2.2 ≤ f.2.1.length
  nms : ∀ f ∈ d.l, f.1.length ≤ 16
  asc : AscBy Prod.fst d.l
def newD (room : Int) : DkT := ⟨[], max room 0, -1, false⟩
def appC (room : Int) (l : List DF) (s : NmT) (p : List Nat) : Int × List DF :=
  if isNm s = false then (1, l) else if room - totD l < (p.length : Int) then (7, l) else
  match findBy Prod.fst s l with
  | none => if l.length = 16 then (12, l) else (0, insBy Prod.fst (s, p, 0) l)
  | some _ => (0, updBy Prod.fst s (fun f => (f.1, f.2.1 ++ p, f.2.2)) l)
def syncC (l : List DF) (s : NmT) : Int × List DF :=
  match findBy Prod.fst s l with
  | none => (8, l)
  | some _ => (0, updBy Prod.fst s (fun f => (f.1, f.2.1, f.2.1.length)) l)
def cutC (l : List DF) (s : NmT) (n : Int) : Int × List DF :=
  match findBy Prod.fst s l with
  | none => (8, l)
  | some f => if n < 0 ∨ (f.2.1.length : Int) < n then (6, l) else (0, updBy Prod.fst s (fun f => (f.1, f.2.1.take n.toNat, n.toNat)) l)
def moveC (l : List DF) (s t : NmT) : Int × List DF :=
  match findBy Prod.fst s l with
  | none => (8, l)
  | some f => if isNm t = false then (1, l) else (0, insBy Prod.fst (t, f.2.1, f.2.1.length) (outBy Prod.fst t (outBy Prod.fst s l)))
def remC (l : List DF) (s : NmT) : Int × List DF :=
  match findBy Prod.fst s l with
  | none => (8, l)
  | some _ => (0, outBy Prod.fst s l)
/-- A deed: it fails with the power, or is done. -/
def deedD (d : DkT) (act : List DF → Int × List DF) : Int × DkT :=
  if d.down = true ∨ d.fuse = 0 then (15, { d with down := true }) else
  ((act d.l).1, { d with l := (act d.l).2, fuse := if 0 < d.fuse then d.fuse - 1 else d.fuse })
def readD (d : DkT) (s : NmT) : Option (List Nat) × Int :=
  if d.down = true then (none, 15) else
  match findBy Prod.fst s d.l with
  | none => (none, 8)
  | some f => (some f.2.1, 0)
def usedD (d : DkT) : Nat := if d.down = true then 0 else totD d.l
def fuseD (d : DkT) (n : Int) : DkT := { d with fuse := max n (-1) }
/-- What the power leaves of a file, and of the numbers. -/
def bootF (f : DF) (ks : List Int) : DF × List Int :=
  if f.2.2 < f.2.1.length then
    match ks with
    | k :: ks' => ((f.1, f.2.1.take (f.2.2 + (min (max k 0) (((f.2.1.length - f.2.2 : Nat)) : Int)).toNat), f.2.2 + (min (max k 0) (((f.2.1.length - f.2.2 : Nat)) : Int)).toNat), ks')
    | [] => ((f.1, f.2.1, f.2.1.length), [])
  else ((f.1, f.2.1, f.2.1.length), ks)
/-- Of files, in the order of their names. -/
def bootGo : List DF → List Int → List DF × List Int
  | [], ks => ([], ks)
  | f :: r, ks => ((bootF f ks).1 :: (bootGo r (bootF f ks).2).1, (bootGo r (bootF f ks).2).2)
def bootL (l : List DF) (ks : List Int) : List DF := (bootGo l ks).1
def bootD (d : DkT) (ks : List Int) : DkT := { d with l := bootL d.l ks, fuse := -1, down := false }
end Go.Proofs.Ytpdfbkkhmfnnjaa
