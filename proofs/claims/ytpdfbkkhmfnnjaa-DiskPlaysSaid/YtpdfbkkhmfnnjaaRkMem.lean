/- The document's disk in memory. -/
import Derived.Test.YtpdfbkkhmfnnjaaDiskOk
import Derived.Test.YtpdfbkkhmfnnjaaAppC
import Derived.Test.YtpdfbkkhmfnnjaaTurn
import Derived.Test.YtpdfbkkhmfnnjaaReg
import Derived.Sort.Walk0
import Derived.WalkKit
import Derived.WalkSpells
import Derived.WalkLawsBesides
import Derived.Deep.RegionHeld3
import Derived.Deep.DrawnRows
import Derived.Deep.DeepCutAuto
import Derived.Deep.DeepFit
import Derived.Lib.Hide
import Derived.BigQuiet
import Derived.Deep.QuietTactic
namespace Go.Proofs.Ytpdfbkkhmfnnjaa
open Go.RowKit
set_option linter.unusedVariables false
set_option linter.unusedSimpArgs false
set_option maxRecDepth 20000
attribute [local go_sem ↓] Go.wp_at_zero Go.wp_at_succ
attribute [local go_sem] World.cell?_alloc_some frozen_alloc_some

abbrev sK (s : NmT) : Value := .string ⟨⟨s⟩⟩
abbrev wfK (s : NmT) : Prop := s.length ≤ maxLen
/-- A file as it lies: its name, sure bytes, a tail, and their slices. -/
structure KF where
  nm : NmT
  S : List Nat
  T : List Nat
  sA : Option Addr
  sc : Nat
  tA : Option Addr
  tc : Nat
abbrev KF.d (f : KF) : DF := (f.nm, f.S ++ f.T, f.S.length)
def kL (f : KF) : List Value := [sK f.nm, .slice f.sA f.S.length f.sc, .slice f.tA f.T.length f.tc]
def flatK (x : List KF) : List Value := x.flatMap kL
theorem flatK_length (x : List KF) : (flatK x).length = x.length * 3 := by
  induction x with
  | nil => rfl
  | cons s r ih => simp only [flatK, List.flatMap_cons, List.length_append, List.length_cons] at ih ⊢; rw [ih]; simp [kL]; omega
theorem flatK_get : ∀ (x : List KF) (i : Nat) (t : KF), x[i]? = some t → ∀ (j : Nat) (v : Value), (kL t)[j]? = some v → (flatK x)[i * 3 + j]? = some v
  | [], i, s, h, _, _, _ => by simp at h
  | a :: r, 0, s, h, j, v, hv => by
    simp at h; subst h
    have hj : j < 3 := by
      rcases Nat.lt_or_ge j 3 with h' | h'
      · exact h'
      · rw [List.getElem?_eq_none (by exact h')] at hv; cases hv
    rw [Nat.zero_mul, Nat.zero_add, flatK, List.flatMap_cons, List.getElem?_append_left (by exact hj)]
    exact hv
  | a :: r, i + 1, s, h, j, v, hv => by
    rw [List.getElem?_cons_succ] at h
    have := flatK_get r i s h j v hv
    have hl : (kL a).length = 3 := rfl
    rw [flatK, List.flatMap_cons, List.getElem?_append_right (by rw [hl]; omega), hl, show (i + 1) * 3 + j - 3 = i * 3 + j by omega]
    exact this
theorem flatK_set : ∀ (x : List KF) (i j : Nat) (t t' : KF) (v : Value), x[i]? = some t → j < 3 → kL t' = (kL t).set j v → flatK (x.set i t') = (flatK x).set (i * 3 + j) v
  | [], i, j, t, t', v, h, _, _ => by simp at h
  | a :: r, 0, j, t, t', v, h, hj, hk => by
    simp at h; subst h
    have hl : (kL a).length = 3 := rfl
    simp only [List.set_cons_zero, flatK, List.flatMap_cons, hk, Nat.zero_mul, Nat.zero_add]
    rw [List.set_append_left _ _ (by rw [hl]; exact hj)]
  | a :: r, i + 1, j, t, t', v, h, hj, hk => by
    rw [List.getElem?_cons_succ] at h
    have := flatK_set r i j t t' v h hj hk
    have hl : (kL a).length = 3 := rfl
    simp only [List.set_cons_succ, flatK, List.flatMap_cons] at this ⊢
    rw [List.set_append_right _ _ (by rw [hl]; omega), hl, show (i + 1) * 3 + j - 3 = i * 3 + j by omega, this]
theorem flatK_snoc (x : List KF) (t : KF) : flatK (x ++ [t]) = flatK x ++ kL t := by simp [flatK]
theorem src_kf {w : World} {e : TypeId} (t : KF) : Src (w.alloc (.cells #[sK t.nm, .slice t.sA t.S.length t.sc, .slice t.tA t.T.length t.tc] e)) 3 (some ⟨w.heap.size, 0, none⟩) 1 (kL t) := by
  refine ⟨rfl, fun j u hj => ⟨_, rfl, ?_⟩, fun u hu => ?_⟩
  · have hadd : (⟨w.heap.size, 0, none⟩ : Addr).add j = ⟨w.heap.size, j, none⟩ := by unfold Addr.add; split <;> simp_all
    rw [hadd]
    exact (new_cell w #[sK t.nm, .slice t.sA t.S.length t.sc, .slice t.tA t.T.length t.tc] e j (by simpa [kL] using hj)).1
  · simp only [kL, List.mem_cons, List.not_mem_nil, or_false] at hu
    rcases hu with rfl | rfl | rfl <;> rfl
theorem kfinfo : ∃ i, Try.prog.info? 110 = some i ∧ i.zero = some (.agg #[.string ⟨#[]⟩, .slice none 0 0, .slice none 0 0]) ∧ i.size = 3 ∧ i.bytes = 64 := by
  have h : (Try.prog.info? 110).map (fun i => (i.zero, i.size, i.bytes)) = some (some (.agg #[.string ⟨#[]⟩, .slice none 0 0, .slice none 0 0]), 3, 64) := by kernel_rfl
  obtain ⟨i, hi, e⟩ := Option.map_eq_some_iff.1 h
  simp only [Prod.mk.injEq] at e
  exact ⟨i, hi, e.1, e.2.1, e.2.2⟩
theorem u8infoK : ∃ i, Try.prog.info? 5 = some i ∧ i.zero = some (.int .u8 0) ∧ i.size = 1 ∧ i.bytes = 1 := by
  have h : (Try.prog.info? 5).map (fun i => (i.zero, i.size, i.bytes)) = some (some (.int .u8 0), 1, 1) := by kernel_rfl
  obtain ⟨i, hi, e⟩ := Option.map_eq_some_iff.1 h
  simp only [Prod.mk.injEq] at e
  exact ⟨i, hi, e.1, e.2.1, e.2.2⟩
theorem gtr_nm (a b : NmT) (w : World) : (binOp .gtr 9 (sK a) (sK b)).run Try.prog w = .ok (.bool (decide (b < a))) w := by
  have h1 : (!(decide (a < b) || a == b)) = decide (b < a) := by
    by_cases h : a < b
    · have : ¬ b < a := fun h2 => nm_irrefl a (nm_trans h h2)
      simp [h, this]
    · by_cases e : a = b
      · subst e; simp [nm_irrefl]
      · rcases nm_total e with h2 | h2
        · exact absurd h2 h
        · simp [h, e, h2]
  simp [binOp, run_underlying Try.underlying9, Op.stringOp, Proofs.bytesLess_eq, ByteArray.toList_eq, ← h1]

/-- A slice of bytes that a file has: in blocks of F, none of them x or the row. -/
structure KB (W : World) (F : Nat → Prop) (x : Nat) (rb : Option Nat) (A : Option Addr) (n c : Nat) (l : List Nat) : Prop where
  b : Bytes W A n l
  le : n ≤ c
  cm : c ≤ maxLen
  o : ∀ ad, A = some ad → F ad.block ∧ ad.block ≠ x ∧ rb ≠ some ad.block
theorem KB.nil {W : World} {F : Nat → Prop} {x : Nat} {rb : Option Nat} : KB W F x rb none 0 0 [] := ⟨⟨rfl, Nat.zero_le _, fun i c hi => by simp at hi⟩, Nat.le_refl _, Nat.zero_le _, fun ad e => by cases e⟩
structure KOk (W : World) (F : Nat → Prop) (x : Nat) (rb : Option Nat) (f : KF) : Prop where
  s : KB W F x rb f.sA f.S.length f.sc f.S
  t : KB W F x rb f.tA f.T.length f.tc f.T
  nm : wfK f.nm
/-- The document's disk: its block x, its row of files, their bytes. -/
structure RkG (W : World) (F : Nat → Prop) (x : Nat) (fs : List KF) (A : Option Addr) (c : Nat) (room fuse : Int) (down : Bool) : Prop where
  hd : Blk W x 98 #[.slice A fs.length c, .int .i64 room, .int .i64 fuse, .bool down]
  row : W.ownsRow (x + 1) 110 3 (.slice A fs.length c) fs.length (flatK fs)
  ok : ∀ f ∈ fs, KOk W F x (.slice A fs.length c : Value).ownBlock f
  Fx : F x
  Fr : ∀ k, (.slice A fs.length c : Value).ownBlock = some k → F k
  lt : ∀ k, F k → k < W.heap.size
variable {W W' : World} {F F' P : Nat → Prop} {x : Nat} {fs : List KF} {A : Option Addr} {c : Nat} {room fuse : Int} {down : Bool}
theorem KB.turn {rb : Option Nat} {B : Option Addr} {n cc : Nat} {l : List Nat} (h : KB W F x rb B n cc l) (t : Turn P W W') (hP : ∀ ad, B = some ad → ¬ P ad.block) : KB W' F x rb B n cc l :=
  ⟨t.bytes h.b fun ad e _ => hP ad e, h.le, h.cm, h.o⟩
theorem KB.mono {rb : Option Nat} {B : Option Addr} {n cc : Nat} {l : List Nat} (h : KB W F x rb B n cc l) (hF : ∀ k, F k → F' k) : KB W F' x rb B n cc l := ⟨h.b, h.le, h.cm, fun ad e => ⟨hF _ (h.o ad e).1, (h.o ad e).2⟩⟩
theorem KOk.turn {rb : Option Nat} {f : KF} (h : KOk W F x rb f) (t : Turn P W W') (hP : ∀ i, F i → i ≠ x → rb ≠ some i → ¬ P i) : KOk W' F x rb f :=
  ⟨h.s.turn t fun ad e => hP _ (h.s.o ad e).1 (h.s.o ad e).2.1 (h.s.o ad e).2.2, h.t.turn t fun ad e => hP _ (h.t.o ad e).1 (h.t.o ad e).2.1 (h.t.o ad e).2.2, h.nm⟩
theorem KOk.mono {rb : Option Nat} {f : KF} (h : KOk W F x rb f) (hF : ∀ k, F k → F' k) : KOk W F' x rb f := ⟨h.s.mono hF, h.t.mono hF, h.nm⟩
theorem ownK_turn {base : Nat} {e : TypeId} {size : Nat} {v : Value} {n : Nat} {xs : List Value} (h : W.ownsRow base e size v n xs) (t : Turn P W W') (hP : ∀ k, v.ownBlock = some k → ¬ P k) : W'.ownsRow base e size v n xs := by
  refine ⟨h.1, ?_⟩
  rcases h.2 with h0 | ⟨g, cap, cur, e1, hbs, hg, rest⟩
  · exact .inl h0
  · exact .inr ⟨g, cap, cur, e1, hbs, (t.block g (Array.getElem?_eq_some_iff.1 hg).1 (hP g (by rw [e1]; rfl))).trans hg, rest⟩
theorem RkG.turn (h : RkG W F x fs A c room fuse down) (t : Turn P W W') (hP : ∀ i, F i → ¬ P i) : RkG W' F x fs A c room fuse down :=
  ⟨t.blk h.hd (hP _ h.Fx), ownK_turn h.row t fun k hk => hP _ (h.Fr k hk), fun f hf => (h.ok f hf).turn t fun i hi _ _ => hP i hi, h.Fx, h.Fr, fun i hi => Nat.lt_of_lt_of_le (h.lt i hi) t.size⟩
theorem RkG.keep (h : RkG W F x fs A c room fuse down) (hb : Below W.heap.size W W') : RkG W' F x fs A c room fuse down := h.turn (P := fun _ => False) (Turn.of_below hb) fun _ _ hp => hp
theorem RkG.mono (h : RkG W F x fs A c room fuse down) (hF : ∀ k, F k → F' k) (hl : ∀ k, F' k → k < W.heap.size) : RkG W F' x fs A c room fuse down :=
  ⟨h.hd, h.row, fun f hf => (h.ok f hf).mono hF, hF _ h.Fx, fun k hk => hF _ (h.Fr k hk), hl⟩
theorem RkG.xrow (h : RkG W F x fs A c room fuse down) : (.slice A fs.length c : Value).ownBlock ≠ some x := fun e => by have := (h.row.lt x e).1; omega
/-- The head turns: the flags. -/
theorem RkG.head (h : RkG W F x fs A c room fuse down) (t : Turn (fun k => k = x) W W') {fuse' : Int} {down' : Bool} (hd : Blk W' x 98 #[.slice A fs.length c, .int .i64 room, .int .i64 fuse', .bool down']) : RkG W' F x fs A c room fuse' down' :=
  ⟨hd, ownK_turn h.row t fun k hk e => by rw [e] at hk; exact h.xrow hk, fun f hf => (h.ok f hf).turn t fun i _ hx _ e => hx e, h.Fx, h.Fr, fun i hi => Nat.lt_of_lt_of_le (h.lt i hi) t.size⟩
/-- A new row of files: of these, and of new ones. -/
theorem RkG.rows (h : RkG W F x fs A c room fuse down) {fs' : List KF} {A' : Option Addr} {c' : Nat} {w0 : Nat} (hr : W.ownsRow w0 110 3 (.slice A' fs'.length c') fs'.length (flatK fs')) (hx : x < w0) (hw0 : ∀ k, F k → k < w0)
    (hok : ∀ f ∈ fs', KOk W F x none f) : RkG (W.setCell ⟨x, 0, none⟩ (.slice A' fs'.length c')) (fun k => F k ∨ (.slice A' fs'.length c' : Value).ownBlock = some k) x fs' A' c' room fuse down := by
  have t := Turn.setCell h.hd 0 (.slice A' fs'.length c')
  have hb := h.hd.set_ 0 (.slice A' fs'.length c')
  simp only [List.setIfInBounds_toArray, List.set_cons_zero] at hb
  have hrow : ∀ k, (.slice A' fs'.length c' : Value).ownBlock = some k → w0 ≤ k ∧ k < W.heap.size := fun k hk => hr.lt k hk
  refine ⟨hb, ?_, fun f hf => ?_, .inl h.Fx, fun k hk => .inr hk, fun k hk => ?_⟩
  · have h2 := ownK_turn hr t (fun k hk e => by have := (hrow k hk).1; omega)
    exact ⟨h2.1, h2.2.imp id fun ⟨g, cap, cur, e1, h3, h4⟩ => ⟨g, cap, cur, e1, by omega, h4⟩⟩
  · have h2 := ((hok f hf).turn t fun i _ hx2 _ e => hx2 e).mono (F' := fun k => F k ∨ (.slice A' fs'.length c' : Value).ownBlock = some k) fun k hk => .inl hk
    have hof := hok f hf
    refine ⟨⟨h2.s.b, h2.s.le, h2.s.cm, fun ad e => ⟨(h2.s.o ad e).1, (h2.s.o ad e).2.1, fun e2 => ?_⟩⟩, ⟨h2.t.b, h2.t.le, h2.t.cm, fun ad e => ⟨(h2.t.o ad e).1, (h2.t.o ad e).2.1, fun e2 => ?_⟩⟩, h2.nm⟩
    · have h3 := hw0 _ (hof.s.o ad e).1
      have h4 := (hrow _ e2).1
      omega
    · have h3 := hw0 _ (hof.t.o ad e).1
      have h4 := (hrow _ e2).1
      omega
  · simp only [World.size_setCell]
    rcases hk with hk | hk
    · exact h.lt k hk
    · exact (hrow k hk).2
/-- The row's block. -/
theorem RkG.at_ (h : RkG W F x fs A c room fuse down) {i : Nat} {f : KF} (hi : fs[i]? = some f) : ∃ g, A = some ⟨g, 0, none⟩ ∧ W.cell? ⟨g, i * 3, none⟩ = some (sK f.nm) ∧ W.cell? ⟨g, i * 3 + 1, none⟩ = some (.slice f.sA f.S.length f.sc) ∧ W.cell? ⟨g, i * 3 + 2, none⟩ = some (.slice f.tA f.T.length f.tc) ∧ (∀ j, W.frozen? ⟨g, j, none⟩ = false) ∧ (.slice A fs.length c : Value).ownBlock = some g := by
  have him : i < fs.length := (List.getElem?_eq_some_iff.1 hi).1
  rcases h.row.2 with ⟨_, h0⟩ | ⟨g, cap, cur, hv, hb, hg, hn, hcm, hs, ht⟩
  · omega
  · injection hv with hA _ _
    subst hA
    have key : ∀ (j : Nat) (v : Value), (kL f)[j]? = some v → W.cell? ⟨g, i * 3 + j, none⟩ = some v := fun j v hj => by
      have hf := flatK_get fs i f hi j v hj
      rw [← ht, List.getElem?_take] at hf
      rw [cell_of_row W g (i * 3 + j) cur _ (0, 0) hg, ← Array.getElem?_toList]
      split at hf
      · exact hf
      · cases hf
    exact ⟨g, rfl, key 0 _ rfl, key 1 _ rfl, key 2 _ rfl, fun j => Blk.frozen (t := 110) (cs := cur) hg j, rfl⟩
/-- One field of a file is written anew. -/
theorem RkG.put (h : RkG W F x fs A c room fuse down) {i j g : Nat} {f f' : KF} {v : Value} (hi : fs[i]? = some f) (hj : j < 3) (hk : kL f' = (kL f).set j v) (hA : A = some ⟨g, 0, none⟩) (ok' : KOk W F x (.slice A fs.length c : Value).ownBlock f') :
    RkG (W.setCell ⟨g, i * 3 + j, none⟩ v) F x (fs.set i f') A c room fuse down := by
  have him : i < fs.length := (List.getElem?_eq_some_iff.1 hi).1
  have hro := h.row
  rcases hro.2 with ⟨_, h0⟩ | ⟨g', cap, cur, hv, hb, hg, hn, hcm, hs, ht⟩
  · omega
  · injection hv with hA' _ hcap
    rw [hA] at hA'
    injection hA' with hA'
    injection hA' with hA'
    subst hA'
    have hB : Blk W g 110 cur := hg
    have t := Turn.setCell hB (i * 3 + j) v
    have hob : (.slice A fs.length c : Value).ownBlock = some g := by rw [hA]; rfl
    have hgx : x ≠ g := fun e => h.xrow (by rw [hob, e])
    have hset := hB.set_ (i * 3 + j) v
    have hl : (fs.set i f').length = fs.length := List.length_set ..
    have hflat := flatK_set fs i j f f' v hi hj hk
    refine ⟨by rw [hl]; exact t.blk h.hd hgx, ?_, fun y hy => ?_, h.Fx, by rw [hl]; exact h.Fr, fun k hk => by simp only [World.size_setCell]; exact h.lt k hk⟩
    · rw [hl]
      refine ⟨by rw [flatK_length, hl], .inr ⟨g, cap, cur.setIfInBounds (i * 3 + j) v, by rw [hA, hcap], hb, hset, hn, hcm, by rw [Array.size_setIfInBounds]; exact hs, ?_⟩⟩
      rw [Array.toList_setIfInBounds, List.take_set, ht, hflat]
    · rw [hl]
      have ht2 : ∀ y, KOk W F x (.slice A fs.length c : Value).ownBlock y → KOk (W.setCell ⟨g, i * 3 + j, none⟩ v) F x (.slice A fs.length c : Value).ownBlock y := fun y hy => hy.turn t fun k _ _ hr e => hr (by rw [hob, e])
      rcases List.mem_or_eq_of_mem_set hy with hy | rfl
      · exact ht2 _ (h.ok y hy)
      · exact ht2 _ ok'
end Go.Proofs.Ytpdfbkkhmfnnjaa
