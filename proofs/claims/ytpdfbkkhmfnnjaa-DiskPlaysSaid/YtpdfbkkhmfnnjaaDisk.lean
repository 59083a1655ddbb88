/- A disk in memory: its block, its map, its files' blocks and their bytes; what turns when a deed is done. -/
import Derived.Test.YtpdfbkkhmfnnjaaFlMap
import Derived.Test.YtpdfbkkhmfnnjaaOwnW
import Derived.Test.YtpdfbkkhmfnnjaaTurn
import Derived.WalkKit
import Derived.WalkSpells
import Derived.WalkLawsBesides
import Derived.Deep.RegionHeld3
import Derived.Deep.DrawnRows
import Derived.Deep.DeepCutAuto
import Derived.Deep.DeepFit
import Derived.Lib.Hide
import Derived.BigQuiet
import Derived.Deep.QuietTactic
namespace Go.Proofs.Ytpdfbkkhmfnnjaa
open Go.RowKit
set_option linter.unusedVariables false
set_option linter.unusedSimpArgs false
set_option maxRecDepth 20000
attribute [local go_sem ↓] Go.wp_at_zero Go.wp_at_succ
attribute [local go_sem] World.cell?_alloc_some frozen_alloc_some
open Go.Maps

/-- A file as it lies: its name, its bytes, how many are sure; its block, and its slice. -/
structure GF where
  nm : NmT
  by_ : List Nat
  su : Nat
  e : Nat
  v : Value
abbrev GF.d (f : GF) : DF := (f.nm, f.by_, f.su)
abbrev GF.fl (f : GF) : FlT := (f.nm, f.e)
def FileAt (w : World) (F : Nat → Prop) (f : GF) : Prop :=
  Blk w f.e 124 #[f.v, .int .i64 (f.su : Int)] ∧ OwnW w f.v f.by_ ∧ F f.e ∧ ∀ r, f.v.ownBlock = some r → F r
theorem FileAt.same {w w' : World} {F : Nat → Prop} {f : GF} (h : FileAt w F f) (he : w'.heap[f.e]? = w.heap[f.e]?) (hr : ∀ r, f.v.ownBlock = some r → w'.heap[r]? = w.heap[r]?) : FileAt w' F f :=
  ⟨he.trans h.1, h.2.1.same hr, h.2.2⟩
theorem FileAt.mono {w : World} {F F' : Nat → Prop} {f : GF} (h : FileAt w F f) (hF : ∀ k, F k → F' k) : FileAt w F' f := ⟨h.1, h.2.1, hF _ h.2.2.1, fun r hr => hF _ (h.2.2.2 r hr)⟩
theorem FileAt.row_ne {w : World} {F : Nat → Prop} {f : GF} (h : FileAt w F f) {e : Nat} {cs : Array Value} {t : TypeId} (hb : Blk w e t cs) (ht : t ≠ 5) : f.v.ownBlock ≠ some e := fun hr => by
  obtain ⟨cur, hc⟩ := h.2.1.typed hr
  have := hc.symm.trans hb
  simp only [Option.some.injEq, Obj.cells.injEq] at this
  exact ht this.2.1.symm

structure DiskG (w : World) (F : Nat → Prop) (g b : Nat) (gs : List GF) (room fuse : Int) (down : Bool) : Prop where
  hd : Blk w g 95 #[.map (some b), .int .i64 room, .int .i64 fuse, .bool down]
  mp : FmAt w b (gs.map GF.fl)
  fl : ∀ f ∈ gs, FileAt w F f
  es : gs.Pairwise fun x y => x.e ≠ y.e
  rows : gs.Pairwise fun x y => ∀ r, x.v.ownBlock = some r → y.v.ownBlock ≠ some r
  Fg : F g
  Fb : F b
  lt : ∀ k, F k → k < w.heap.size
  asc : AscBy GF.nm gs
variable {w w' : World} {F F' : Nat → Prop} {g b : Nat} {gs : List GF} {room fuse : Int} {down : Bool}
theorem DiskG.keep (h : DiskG w F g b gs room fuse down) (hb : Below w.heap.size w w') : DiskG w' F g b gs room fuse down :=
  ⟨h.hd.keep hb, h.mp.keep hb, fun f hf => (h.fl f hf).same (hb.block _ (h.lt _ (h.fl f hf).2.2.1)) fun r hr => hb.block _ (h.lt _ ((h.fl f hf).2.2.2 r hr)), h.es, h.rows, h.Fg, h.Fb, fun k hk => Nat.lt_of_lt_of_le (h.lt k hk) hb.size, h.asc⟩
/-- Others' blocks turn. -/
theorem DiskG.turn {P : Nat → Prop} (h : DiskG w F g b gs room fuse down) (k : Turn P w w') (hP : ∀ i, F i → ¬ P i) : DiskG w' F g b gs room fuse down :=
  ⟨k.blk h.hd (hP _ h.Fg), h.mp.same (k.block _ h.mp.lt (hP _ h.Fb)), fun f hf => (h.fl f hf).same (k.block _ (h.lt _ (h.fl f hf).2.2.1) (hP _ (h.fl f hf).2.2.1)) fun r hr => k.block _ (h.lt _ ((h.fl f hf).2.2.2 r hr)) (hP _ ((h.fl f hf).2.2.2 r hr)),
    h.es, h.rows, h.Fg, h.Fb, fun i hi => Nat.lt_of_lt_of_le (h.lt i hi) k.size, h.asc⟩
theorem DiskG.b_ne (h : DiskG w F g b gs room fuse down) {e : Nat} {cs : Array Value} {t : TypeId} (hb : Blk w e t cs) : b ≠ e := fun e2 => by
  subst e2
  obtain ⟨es, c, hm⟩ := h.mp.is_map
  have := hm.symm.trans hb
  cases this
theorem DiskG.row_lt (h : DiskG w F g b gs room fuse down) {f : GF} (hf : f ∈ gs) {r : Nat} (hr : f.v.ownBlock = some r) : r < w.heap.size := h.lt _ ((h.fl f hf).2.2.2 r hr)
theorem DiskG.row_b (h : DiskG w F g b gs room fuse down) {f : GF} (hf : f ∈ gs) : f.v.ownBlock ≠ some b := fun hr => by
  obtain ⟨cur, hc⟩ := (h.fl f hf).2.1.typed hr
  obtain ⟨es, c, hm⟩ := h.mp.is_map
  have := hm.symm.trans hc
  cases this
/-- The disk's own block turns. -/
theorem DiskG.head (h : DiskG w F g b gs room fuse down) (k : Turn (fun i => i = g) w w') {fuse' : Int} {down' : Bool} (hd : Blk w' g 95 #[.map (some b), .int .i64 room, .int .i64 fuse', .bool down']) :
    DiskG w' F g b gs room fuse' down' :=
  ⟨hd, h.mp.same (k.block _ h.mp.lt (fun e => h.b_ne h.hd e)), fun f hf => (h.fl f hf).same (k.block _ (h.lt _ (h.fl f hf).2.2.1) (fun e => blk_ne (h.fl f hf).1 h.hd (by decide) e)) fun r hr => k.block _ (h.row_lt hf hr) (fun e => (h.fl f hf).row_ne h.hd (by decide) (by rw [hr, e])),
    h.es, h.rows, h.Fg, h.Fb, fun i hi => Nat.lt_of_lt_of_le (h.lt i hi) k.size, h.asc⟩
theorem pairwise_mem2 {α : Type} {R : α → α → Prop} (hs : ∀ {x y}, R x y → R y x) : ∀ {l : List α}, l.Pairwise R → ∀ {x y : α}, x ∈ l → y ∈ l → x ≠ y → R x y
  | [], _, _, _, h, _, _ => by cases h
  | u :: l, h, x, y, hx, hy, hne => by
    obtain ⟨h1, h2⟩ := List.pairwise_cons.1 h
    rcases List.mem_cons.1 hx with e1 | hx
    · rcases List.mem_cons.1 hy with e2 | hy
      · exact absurd (e1.trans e2.symm) hne
      · rw [e1]; exact h1 y hy
    · rcases List.mem_cons.1 hy with e2 | hy
      · rw [e2]; exact hs (h1 x hx)
      · exact pairwise_mem2 hs h2 hx hy hne
theorem DiskG.e_ne (h : DiskG w F g b gs room fuse down) {x y : GF} (hx : x ∈ gs) (hy : y ∈ gs) (hne : x.nm ≠ y.nm) : x.e ≠ y.e :=
  pairwise_mem2 (R := fun x y : GF => x.e ≠ y.e) (fun h => Ne.symm h) h.es hx hy fun e => hne (by rw [e])
theorem DiskG.row_ne2 (h : DiskG w F g b gs room fuse down) {x y : GF} (hx : x ∈ gs) (hy : y ∈ gs) (hne : x.nm ≠ y.nm) : ∀ r, x.v.ownBlock = some r → y.v.ownBlock ≠ some r :=
  pairwise_mem2 (R := fun x y : GF => ∀ r, x.v.ownBlock = some r → y.v.ownBlock ≠ some r) (fun {x y} h r h1 h2 => h r h2 h1) h.rows hx hy fun e => hne (by rw [e])
/-- One file turns: its block, its bytes. -/
theorem DiskG.file (h : DiskG w F g b gs room fuse down) {f f' : GF} (hf : f ∈ gs) (k : Turn (fun i => i = f.e ∨ f.v.ownBlock = some i) w w') (hF : ∀ i, F i → F' i) (hlt : ∀ i, F' i → i < w'.heap.size) (h' : FileAt w' F' f') (hn : f'.nm = f.nm) (he : f'.e = f.e)
    (hv : f'.v.ownBlock = f.v.ownBlock ∨ ∀ r, f'.v.ownBlock = some r → w.heap.size ≤ r) : DiskG w' F' g b (updBy GF.nm f.nm (fun _ => f') gs) room fuse down := by
  have hfw := h.fl f hf
  have other : ∀ x ∈ gs, x.nm ≠ f.nm → FileAt w' F' x := fun x hx hne => by
    refine FileAt.mono ((h.fl x hx).same (k.block _ (h.lt _ (h.fl x hx).2.2.1) ?_) fun r hr => k.block _ (h.row_lt hx hr) ?_) hF
    · rintro (e | e)
      · exact h.e_ne hx hf hne e
      · exact hfw.row_ne (h.fl x hx).1 (by decide) e
    · rintro (e | e)
      · subst e
        exact (h.fl x hx).row_ne hfw.1 (by decide) hr
      · exact h.row_ne2 hx hf hne r hr e
  refine ⟨k.blk h.hd ?_, ?_, fun x hx => ?_, ?_, ?_, hF _ h.Fg, hF _ h.Fb, hlt, ?_⟩
  · rintro (e | e)
    · exact blk_ne h.hd hfw.1 (by decide) e
    · exact hfw.row_ne h.hd (by decide) e
  · have hm : (updBy GF.nm f.nm (fun _ => f') gs).map GF.fl = gs.map GF.fl := by
      unfold updBy
      rw [List.map_map]
      apply List.map_congr_left
      intro x hx
      simp only [Function.comp]
      split
      · next e =>
        rw [asc_one h.asc hx hf e]
        simp [GF.fl, hn, he]
      · rfl
    rw [hm]
    refine h.mp.same (k.block _ h.mp.lt ?_)
    rintro (e | e)
    · exact h.b_ne hfw.1 e
    · exact h.row_b hf e
  · unfold updBy at hx
    obtain ⟨y, hy, rfl⟩ := List.mem_map.1 hx
    split
    · exact h'
    · next e => exact other y hy e
  · unfold updBy
    refine List.pairwise_map.2 (List.Pairwise.imp_of_mem (fun {x y} hx hy hxy => ?_) h.es)
    split
    · next e1 =>
      split
      · next e2 => exact absurd (congrArg GF.e (asc_one h.asc hx hy (e1.trans e2.symm))) hxy
      · next e2 => rw [he]; exact h.e_ne hf hy (Ne.symm e2)
    · next e1 =>
      split
      · next e2 => rw [he]; exact h.e_ne hx hf e1
      · exact hxy
  · unfold updBy
    have hxy2 := List.Pairwise.and h.rows (asc_ne h.asc)
    refine List.pairwise_map.2 (List.Pairwise.imp_of_mem (fun {x y} hx hy hxy => ?_) hxy2)
    split
    · next e1 =>
      split
      · next e2 => exact absurd (e1.trans e2.symm) hxy.2
      · next e2 =>
        intro r hr hr2
        rcases hv with e | e
        · exact h.row_ne2 hf hy (Ne.symm e2) r (by rw [← e]; exact hr) hr2
        · have := e r hr; have := h.row_lt hy hr2; omega
    · next e1 =>
      split
      · next e2 =>
        intro r hr hr2
        rcases hv with e | e
        · exact h.row_ne2 hx hf e1 r hr (by rw [← e]; exact hr2)
        · have := e r hr2; have := h.row_lt hx hr; omega
      · exact hxy.1
  · unfold updBy
    refine List.pairwise_map.2 (List.Pairwise.imp_of_mem (fun {x y} hx hy hxy => ?_) h.asc)
    split
    · next e1 => 
      split
      · next e2 => have := hxy; rw [e1, e2] at this; exact absurd this (nm_irrefl _)
      · rw [hn, ← e1]; exact hxy
    · split
      · next e2 => rw [hn, ← e2]; exact hxy
      · exact hxy
/-- A file goes. -/
theorem DiskG.del (h : DiskG w F g b gs room fuse down) (s : NmT) (k : Turn (fun i => i = b) w w') (hm : FmAt w' b (outF (gs.map GF.fl) s)) : DiskG w' F g b (outBy GF.nm s gs) room fuse down := by
  refine ⟨k.blk h.hd fun e => h.b_ne h.hd e.symm, ?_, fun f hf => ?_, List.Pairwise.filter _ h.es, List.Pairwise.filter _ h.rows, h.Fg, h.Fb, fun i hi => Nat.lt_of_lt_of_le (h.lt i hi) k.size, List.Pairwise.filter _ h.asc⟩
  · have : (outBy GF.nm s gs).map GF.fl = outF (gs.map GF.fl) s := by
      unfold outBy outF
      rw [List.filter_map]
      rfl
    rw [this]
    exact hm
  · have hf2 := (mem_outBy.1 hf).1
    exact (h.fl f hf2).same (k.block _ (h.lt _ (h.fl f hf2).2.2.1) fun e => h.b_ne (h.fl f hf2).1 e.symm) fun r hr => k.block _ (h.row_lt hf2 hr) fun e => h.row_b hf2 (by rw [hr, e])
/-- A file comes: none has its name. -/
theorem DiskG.put (h : DiskG w F g b gs room fuse down) {f : GF} (k : Turn (fun i => i = b) w w') (hF : ∀ i, F i → F' i) (hlt : ∀ i, F' i → i < w'.heap.size) (hm : FmAt w' b ((insBy GF.nm f gs).map GF.fl)) (hf : FileAt w' F' f) (hn : ∀ x ∈ gs, x.nm ≠ f.nm)
    (he : ∀ x ∈ gs, x.e ≠ f.e) (hv : ∀ x ∈ gs, ∀ r, x.v.ownBlock = some r → f.v.ownBlock ≠ some r) : DiskG w' F' g b (insBy GF.nm f gs) room fuse down := by
  refine ⟨k.blk h.hd fun e => h.b_ne h.hd e.symm, hm, fun x hx => ?_, ?_, ?_, hF _ h.Fg, hF _ h.Fb, hlt, insBy_asc h.asc hn⟩
  · rcases mem_insBy.1 hx with rfl | hx
    · exact hf
    · exact FileAt.mono ((h.fl x hx).same (k.block _ (h.lt _ (h.fl x hx).2.2.1) fun e => h.b_ne (h.fl x hx).1 e.symm) fun r hr => k.block _ (h.row_lt hx hr) fun e => h.row_b hx (by rw [hr, e])) hF
  · have aux : ∀ l : List GF, l.Pairwise (fun x y => x.e ≠ y.e) → (∀ x ∈ l, x.e ≠ f.e) → (insBy GF.nm f l).Pairwise fun x y => x.e ≠ y.e := by
      intro l
      induction l with
      | nil => intro _ _; simp [insBy]
      | cons u r ih =>
        intro h1 h2
        obtain ⟨h3, h4⟩ := List.pairwise_cons.1 h1
        unfold insBy
        split
        · exact List.pairwise_cons.2 ⟨fun x hx => Ne.symm (h2 x hx), h1⟩
        · refine List.pairwise_cons.2 ⟨fun x hx => ?_, ih h4 fun x hx => h2 x (by simp [hx])⟩
          rcases mem_insBy.1 hx with rfl | hx
          · exact h2 u (by simp)
          · exact h3 x hx
    exact aux gs h.es he
  · have aux : ∀ l : List GF, l.Pairwise (fun x y => ∀ r, x.v.ownBlock = some r → y.v.ownBlock ≠ some r) → (∀ x ∈ l, ∀ r, x.v.ownBlock = some r → f.v.ownBlock ≠ some r) → (insBy GF.nm f l).Pairwise fun x y => ∀ r, x.v.ownBlock = some r → y.v.ownBlock ≠ some r := by
      intro l
      induction l with
      | nil => intro _ _; simp [insBy]
      | cons u r ih =>
        intro h1 h2
        obtain ⟨h3, h4⟩ := List.pairwise_cons.1 h1
        unfold insBy
        split
        · exact List.pairwise_cons.2 ⟨fun x hx r hr hr2 => h2 x hx r hr2 hr, h1⟩
        · refine List.pairwise_cons.2 ⟨fun x hx => ?_, ih h4 fun x hx => h2 x (by simp [hx])⟩
          rcases mem_insBy.1 hx with rfl | hx
          · exact h2 u (by simp)
          · exact h3 x hx
    exact aux gs h.rows hv
/-- A disk of the call's own. -/
def DiskAt (w : World) (F : Nat → Prop) (g b : Nat) (d : DkT) : Prop := (∃ gs, DiskG w F g b gs d.room d.fuse d.down ∧ gs.map GF.d = d.l) ∧ DkOk d
theorem DiskAt.keep {d : DkT} (h : DiskAt w F g b d) (hb : Below w.heap.size w w') : DiskAt w' F g b d := by
  obtain ⟨⟨gs, h1, h2⟩, h3⟩ := h
  exact ⟨⟨gs, h1.keep hb, h2⟩, h3⟩
theorem DiskAt.turn {P : Nat → Prop} {d : DkT} (h : DiskAt w F g b d) (k : Turn P w w') (hP : ∀ i, F i → ¬ P i) : DiskAt w' F g b d := by
  obtain ⟨⟨gs, h1, h2⟩, h3⟩ := h
  exact ⟨⟨gs, h1.turn k hP, h2⟩, h3⟩
theorem DiskAt.lt {d : DkT} (h : DiskAt w F g b d) : ∀ k, F k → k < w.heap.size := by
  obtain ⟨⟨gs, h1, h2⟩, h3⟩ := h
  exact h1.lt
/-- What a deed leaves: an answer, the disk, and nothing else turned. -/
def Deeds (w : World) (F : Nat → Prop) (g b : Nat) (v : Value) (d : DkT) (e : Ending) (w' : World) : Prop :=
  e = .returned v ∧ ∃ F', DiskAt w' F' g b d ∧ (∀ k, F' k → F k ∨ w.heap.size ≤ k) ∧ Turn F w w'
end Go.Proofs.Ytpdfbkkhmfnnjaa
