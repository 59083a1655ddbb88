/- index.meets: goes through what a command meets. -/
import Derived.Test.YtpdfbkkhmfnnjaaIndexMeetsQ3
import Derived.WalkKit
import Derived.WalkSpells
import Derived.WalkLawsBesides
import Derived.Deep.RegionHeld3
import Derived.Deep.DrawnRows
import Derived.Deep.DeepCutAuto
import Derived.Deep.DeepFit
import Derived.Lib.Hide
import Derived.BigQuiet
import Derived.Deep.QuietTactic
import Derived.Shelf.Abstract
namespace Go.Proofs.Ytpdfbkkhmfnnjaa
open Go.RowKit
set_option linter.unusedVariables false
set_option linter.unusedSimpArgs false
set_option maxRecDepth 20000
attribute [local go_sem ↓] Go.wp_at_zero Go.wp_at_succ
attribute [local go_sem] World.cell?_alloc_some frozen_alloc_some
open Go.Maps

theorem GRow.turn {P : Nat → Prop} {w w' : World} {A : Option Addr} {m : Nat} {gl : List (Option Nat)} (h : GRow w A m gl) (t : Turn P w w') (hP : ∀ ad, A = some ad → ¬ P ad.block) : GRow w' A m gl :=
  ⟨h.1, h.2.1, fun i o hi => by
    obtain ⟨b, off, e, hc⟩ := h.2.2 i o hi
    exact ⟨b, off, e, t.cell hc (show ¬ P b from hP _ e)⟩⟩
theorem GRow.at_ {w : World} {A : Option Addr} {m : Nat} {gl : List (Option Nat)} (h : GRow w A m gl) {i : Nat} (hi : i < m) : ∃ o b off, gl[i]? = some o ∧ A = some ⟨b, off, none⟩ ∧ w.cell? ⟨b, off + i, none⟩ = some (.map o) := by
  have hl : i < gl.length := by rw [← h.1]; exact hi
  obtain ⟨b, off, e, hc⟩ := h.2.2 i gl[i] (List.getElem?_eq_getElem hl)
  exact ⟨_, b, off, List.getElem?_eq_getElem hl, e, hc⟩
theorem RangeM.turn {κ ε : Type} [DecidableEq κ] {m : MK κ ε} {P : Nat → Prop} {w w' : World} {b r c : Nat} {x l : List (κ × ε)} (h : RangeM m w b r x l c) (t : Turn P w w') (hb : ¬ P b) (hr : ¬ P r) : RangeM m w' b r x l c := by
  have h1 := h.owns.lt
  have h2 := h.lt
  obtain ⟨D, left, ⟨es, clock, since, seen, c0, q1, F, hs, hD, q2, rest⟩, h3⟩ := h
  exact ⟨D, left, ⟨es, clock, since, seen, c0, (t.block b h1 hb).trans q1, F, hs, hD, (t.block r h2 hr).trans q2, rest⟩, h3⟩
theorem InvX.ent {y : List EntT} {ks : List (ByteArray × Nat)} {cs : List (Int × Nat)} {bw : Nat} {co : Nat → List IdP} (h : InvX y ks cs bw co) {b : Nat} (hb : b ∈ grps bw ks cs) {i : IdP} (hi : i ∈ co b) : ∃ e ∈ y, e.i = i := by
  rcases List.mem_cons.1 hb with rfl | hb
  · obtain ⟨e, he, e1, _⟩ := (h.win i).1 hi
    exact ⟨e, he, e1⟩
  · rcases List.mem_append.1 hb with hb | hb
    · obtain ⟨t, ht, rfl⟩ := List.mem_map.1 hb
      obtain ⟨e, he, e1, _⟩ := (h.kin t ht i).1 hi
      exact ⟨e, he, e1⟩
    · obtain ⟨t, ht, rfl⟩ := List.mem_map.1 hb
      obtain ⟨e, he, e1, _⟩ := (h.cin t ht i).1 hi
      exact ⟨e, he, e1⟩
abbrev idv (i : IdP) : Value := .agg #[.int .i64 i.1, .int .i64 i.2]
/-- What a call of the closure leaves. -/
def EachP (S : (Nat → Prop) → List EntT → World → Prop) (O : Nat → Prop) (l : List EntT) (e : EntT) (W : World) (r : Ending) (W' : World) : Prop :=
  r = .returned (.tuple #[]) ∧ ∃ O', S O' (l ++ [e]) W' ∧ (∀ k, O' k → O k ∨ W.heap.size ≤ k) ∧ Turn O W W'
/-- A closure that is told each that meets: S: what it has been told lies in blocks O of its own. -/
structure Each (k p N : Nat) (y : List EntT) (S : (Nat → Prop) → List EntT → World → Prop) : Prop where
  ent : ∀ args W, (callFunc k args).run Try.prog W = .ok (.enter k args) W
  lt : ∀ {O l W}, S O l W → ∀ k, O k → k < W.heap.size
  keep : ∀ {O l W W'} {P : Nat → Prop}, S O l W → Turn P W W' → (∀ i, O i → ¬ P i) → S O l W'
  call : ∀ O l (e : EntT) W, S O l W → e ∈ y → l.length ≤ N → Calls Try.prog k #[.agg #[.int .i64 e.i.1, .int .i64 e.i.2], .agg #[.int .i64 e.c.kind, .int .i64 e.c.client, .int .i64 e.c.seq, .string e.c.key, .string e.c.val, .int .i64 e.c.rev, .int .i64 e.s], .pointer (some ⟨p, 0, none⟩)] W (EachP S O l e W)
structure MtW (F O : Nat → Prop) (H g ba bk bc bw : Nat) (y : List EntT) (ks : List (ByteArray × Nat)) (cs : List (Int × Nat)) (co : Nat → List IdP) (cb bb : Nat) (c : CmdT) (b1 b2 : Int) (A : Option Addr) (m : Nat) (gl : List (Option Nat)) (W : World) : Prop where
  P : IxG W F g ba bk bc bw y ks cs co
  C : Blk W cb 24 #[.int .i64 c.kind, .int .i64 c.client, .int .i64 c.seq, .string c.key, .string c.val, .int .i64 c.rev]
  B : Blk W bb 26 #[.int .i64 b1, .int .i64 b2]
  G : GRow W A m gl
  no : (∀ i, F i → ¬ O i) ∧ ¬ O cb ∧ ¬ O bb ∧ ∀ ad, A = some ad → ¬ O ad.block
  hi : (∀ i, F i → i < H) ∧ cb < H ∧ bb < H ∧ ∀ ad, A = some ad → ad.block < H
  le : H ≤ W.heap.size
section
variable {F O O' P : Nat → Prop} {H g ba bk bc bw : Nat} {y : List EntT} {ks : List (ByteArray × Nat)} {cs : List (Int × Nat)} {co : Nat → List IdP} {cb bb : Nat} {c : CmdT} {b1 b2 : Int} {A : Option Addr} {m : Nat} {gl : List (Option Nat)} {W W' : World}
theorem MtW.turn (h : MtW F O H g ba bk bc bw y ks cs co cb bb c b1 b2 A m gl W) (t : Turn P W W') (hP : ∀ i, i < H → P i → O i) (hO : ∀ i, O' i → O i ∨ H ≤ i) : MtW F O' H g ba bk bc bw y ks cs co cb bb c b1 b2 A m gl W' := by
  obtain ⟨n1, n2, n3, n4⟩ := h.no
  obtain ⟨l1, l2, l3, l4⟩ := h.hi
  refine ⟨h.P.turn t fun i hi hp => n1 i hi (hP i (l1 i hi) hp), t.blk h.C fun hp => n2 (hP _ l2 hp), t.blk h.B fun hp => n3 (hP _ l3 hp), h.G.turn t fun ad e hp => n4 ad e (hP _ (l4 ad e) hp), ⟨fun i hi ho => ?_, fun ho => ?_, fun ho => ?_, fun ad e ho => ?_⟩, h.hi, Nat.le_trans h.le t.size⟩
  · rcases hO i ho with h1 | h1
    · exact n1 i hi h1
    · have := l1 i hi; omega
  · rcases hO _ ho with h1 | h1
    · exact n2 h1
    · omega
  · rcases hO _ ho with h1 | h1
    · exact n3 h1
    · omega
  · rcases hO _ ho with h1 | h1
    · exact n4 ad e h1
    · have := l4 ad e; omega
theorem MtW.keep (h : MtW F O H g ba bk bc bw y ks cs co cb bb c b1 b2 A m gl W) (hb : Below W.heap.size W W') : MtW F O H g ba bk bc bw y ks cs co cb bb c b1 b2 A m gl W' :=
  h.turn (P := fun _ => False) (Turn.of_below hb) (fun i _ hp => hp.elim) fun i hi => .inl hi
end
/-- What has been told behind the groups gs, and the ids lg of the next one. -/
def Got (y : List EntT) (c : CmdT) (but : IdP) (co : Nat → List IdP) (gs : List (Option Nat)) (lg : List IdP) (l : List EntT) : Prop :=
  (∀ x ∈ l, x ∈ y ∧ meetE c but x = true) ∧ (∀ x ∈ y, meetE c but x = true → ((∃ b, some b ∈ gs ∧ x.i ∈ co b) ∨ x.i ∈ lg) → x ∈ l) ∧ l.length ≤ gs.length * y.length + lg.length
theorem Got.nil (y : List EntT) (c : CmdT) (but : IdP) (co : Nat → List IdP) : Got y c but co [] [] [] := ⟨(fun x h => by cases h), (fun x _ _ h => by rcases h with ⟨b, hb, _⟩ | h; cases hb; cases h), by simp⟩
theorem Got.none_ {y : List EntT} {c : CmdT} {but : IdP} {co : Nat → List IdP} {gl : List (Option Nat)} {j : Nat} {l : List EntT} (h : Got y c but co (gl.take j) [] l) (hj : gl[j]? = some none) : Got y c but co (gl.take (j + 1)) [] l := by
  have hl : j < gl.length := (List.getElem?_eq_some_iff.1 hj).1
  refine ⟨h.1, fun x hx hm hg => h.2.1 x hx hm ?_, ?_⟩
  · rcases hg with ⟨b, hb, hi⟩ | hg
    · rw [List.take_add_one, hj] at hb
      exact .inl ⟨b, by simpa using hb, hi⟩
    · exact .inr hg
  · have := h.2.2
    rw [List.length_take] at this ⊢
    have h2 : min j gl.length * y.length ≤ min (j + 1) gl.length * y.length := Nat.mul_le_mul_right _ (by omega)
    simp only [List.length_nil] at this ⊢
    omega
theorem Got.end_ {y : List EntT} {c : CmdT} {but : IdP} {co : Nat → List IdP} {gl : List (Option Nat)} {j b : Nat} {lg : List IdP} {l : List EntT} (h : Got y c but co (gl.take j) lg l) (hj : gl[j]? = some (some b)) (hp : ∀ i, i ∈ co b → i ∈ lg) (hle : lg.length ≤ y.length) : Got y c but co (gl.take (j + 1)) [] l := by
  have hl : j < gl.length := (List.getElem?_eq_some_iff.1 hj).1
  refine ⟨h.1, fun x hx hm hg => h.2.1 x hx hm ?_, ?_⟩
  · rcases hg with ⟨b', hb', hi⟩ | hg
    · rw [List.take_add_one, hj] at hb'
      simp only [Option.toList_some, List.mem_append, List.mem_singleton, Option.some.injEq] at hb'
      rcases hb' with hb' | rfl
      · exact .inl ⟨b', hb', hi⟩
      · exact .inr (hp _ hi)
    · cases hg
  · have := h.2.2
    rw [List.length_take] at this ⊢
    rw [show min (j + 1) gl.length = min j gl.length + 1 by omega, Nat.add_mul, Nat.one_mul]
    simp only [List.length_nil]
    omega
theorem Got.miss {y : List EntT} {c : CmdT} {but : IdP} {co : Nat → List IdP} {gs : List (Option Nat)} {lg : List IdP} {l : List EntT} {e : EntT} (h : Got y c but co gs lg l) (hu : Uq y) (he : e ∈ y) (hm : meetE c but e = false) : Got y c but co gs (lg ++ [e.i]) l := by
  refine ⟨h.1, fun x hx hmx hg => h.2.1 x hx hmx ?_, by rw [List.length_append]; have := h.2.2; omega⟩
  rcases hg with hg | hg
  · exact .inl hg
  · rcases List.mem_append.1 hg with hg | hg
    · exact .inr hg
    · simp at hg
      rw [uq_one hu hx he hg, hm] at hmx
      cases hmx
theorem Got.hit {y : List EntT} {c : CmdT} {but : IdP} {co : Nat → List IdP} {gs : List (Option Nat)} {lg : List IdP} {l : List EntT} {e : EntT} (h : Got y c but co gs lg l) (hu : Uq y) (he : e ∈ y) (hm : meetE c but e = true) : Got y c but co gs (lg ++ [e.i]) (l ++ [e]) := by
  refine ⟨fun x hx => ?_, fun x hx hmx hg => ?_, by rw [List.length_append, List.length_append]; have := h.2.2; simp only [List.length_cons, List.length_nil]; omega⟩
  · rcases List.mem_append.1 hx with hx | hx
    · exact h.1 x hx
    · simp at hx; subst hx; exact ⟨he, hm⟩
  · rcases hg with hg | hg
    · exact List.mem_append_left _ (h.2.1 x hx hmx (.inl hg))
    · rcases List.mem_append.1 hg with hg | hg
      · exact List.mem_append_left _ (h.2.1 x hx hmx (.inr hg))
      · simp at hg
        rw [uq_one hu hx he hg]
        simp
theorem Got.all {y : List EntT} {c : CmdT} {bw : Nat} {ks : List (ByteArray × Nat)} {cs : List (Int × Nat)} {but : IdP} {co : Nat → List IdP} {gl : List (Option Nat)} {l : List EntT} (h : Got y c but co gl [] l) (hn : NearOk y c bw ks cs co gl) : ∀ x, x ∈ l ↔ x ∈ y ∧ meetE c but x = true :=
  fun x => ⟨h.1 x, fun ⟨h1, h2⟩ => h.2.1 x h1 h2 (.inl (hn.2.1 x h1 but h2))⟩
/-- What meets leaves. -/
def MeetsP (S : (Nat → Prop) → List EntT → World → Prop) (O0 : Nat → Prop) (N : Nat) (y : List EntT) (c : CmdT) (but : IdP) (w : World) (e : Ending) (w' : World) : Prop :=
  e = .returned (.tuple #[]) ∧ ∃ O l, S O l w' ∧ (∀ k, O k → O0 k ∨ w.heap.size ≤ k) ∧ (∀ x, x ∈ l ↔ x ∈ y ∧ meetE c but x = true) ∧ l.length ≤ N ∧ Turn O0 w w'
/-- The loops' state. -/
structure MtS (S : (Nat → Prop) → List EntT → World → Prop) (O0 O : Nat → Prop) (w : World) (l : List EntT) (W : World) : Prop where
  s : S O l W
  sub : ∀ k, O k → O0 k ∨ w.heap.size ≤ k
  t : Turn O0 w W
theorem MtS.turn {k p N : Nat} {y : List EntT} {S : (Nat → Prop) → List EntT → World → Prop} {O0 O P : Nat → Prop} {w W W' : World} {l : List EntT} (h : MtS S O0 O w l W) (hE : Each k p N y S) (t : Turn P W W') (hP : ∀ i, O i → ¬ P i) (hw : ∀ i, P i → w.heap.size ≤ i) : MtS S O0 O w l W' :=
  ⟨hE.keep h.s t hP, h.sub, h.t.trans t fun i hi => .inr (hw i hi)⟩
theorem MtS.keep {k p N : Nat} {y : List EntT} {S : (Nat → Prop) → List EntT → World → Prop} {O0 O : Nat → Prop} {w W W' : World} {l : List EntT} (h : MtS S O0 O w l W) (hE : Each k p N y S) (hb : Below W.heap.size W W') : MtS S O0 O w l W' :=
  h.turn hE (P := fun _ => False) (Turn.of_below hb) (fun i _ hp => hp) fun i hp => hp.elim
theorem MtS.told {S : (Nat → Prop) → List EntT → World → Prop} {O0 O O' : Nat → Prop} {w W W' : World} {l l' : List EntT} (h : MtS S O0 O w l W) (s : S O' l' W') (hO : ∀ k, O' k → O k ∨ W.heap.size ≤ k) (t : Turn O W W') : MtS S O0 O' w l' W' :=
  ⟨s, fun k hk => by
    rcases hO k hk with h1 | h1
    · exact h.sub k h1
    · have := h.t.size; exact .inr (by omega), h.t.trans t h.sub⟩
theorem wpList_next_grp {P : Program} (hP : P = Try.prog) (w : World) {ops : Array Oper} {rest : List Oper} {o : Oper} {a : Act} {Q : Exit → Act → World → Prop} (hg : o.guard = none) (it : Operand) (hop : o.op = Op.next it false) (b r c : Nat) (x : List IdP) (l : List (IdP × Bool)) (hit : a.eval it = .pointer (some ⟨r, 0, none⟩)) (h : RangeM grpK w b r (x.map pG) l c)
    (hDone : Hid (l.Perm (x.map pG)) → wpList P ops Q rest (a.put o.dst (.tuple #[.bool false])) w)
    (hMore : ∀ (i1 i2 : Int) (w' : World) (c' : Nat), Hid ((i1, i2) ∈ x) → RangeM grpK w' b r (x.map pG) (l ++ [((i1, i2), true)]) c' → Hid (c' < c ∧ l.length < x.length) → w.grownBy w' (some r) → (Instr.entry (.pointer (some ⟨r, 0, none⟩))).run P w' = .ok (.tuple #[.agg #[.int .i64 i1, .int .i64 i2], .bool true]) w' → wpList P ops Q rest (a.put o.dst (.tuple #[.bool true, .agg #[.int .i64 i1, .int .i64 i2], .bool true])) w') :
    wpList P ops Q (o :: rest) a w :=
  wpList_next_g hP w hg it hop b r c (x.map pG) l hit h hDone fun s e w' c' h1 h2 h3 h4 h5 => by
    obtain ⟨i, hi, e1⟩ := List.mem_map.1 h1.out
    simp only [Prod.mk.injEq] at e1
    obtain ⟨rfl, rfl⟩ := e1
    exact hMore i.1 i.2 w' c' (Lib.hid hi) h2 (Lib.hid (by have := h3.out; rwa [List.length_map] at this)) h4 h5
abbrev SL7 (g : Nat) (cs : Array Value) (h : Nat) (ds : Array Value) (b : Nat) (i1 i2 : Int) (v : Value) (wx : World) : Prop := (∀ i, wx.cell? ⟨g, i, none⟩ = cs[i]?) ∧ (∀ i, wx.cell? ⟨h, i, none⟩ = ds[i]?) ∧ (Instr.lookup 70 (.map (some b)) (.agg #[.int .i64 i1, .int .i64 i2]) false).run Try.prog wx = .ok v wx
set_option maxHeartbeats 8000000 in
theorem meets_any (k p N : Nat) (F O0 : Nat → Prop) (g ba bk bc bw : Nat) (y : List EntT) (ks : List (ByteArray × Nat)) (cs : List (Int × Nat)) (co : Nat → List IdP) (c : CmdT) (b1 b2 : Int) (S : (Nat → Prop) → List EntT → World → Prop) (w : World)
    (h : IxG w F g ba bk bc bw y ks cs co) (hV : InvX y ks cs bw co) (hok : ∀ e ∈ y, EntOk e) (hc : c.Ok) (hE : Each k p N y S) (hS : S O0 [] w) (hFO : ∀ i, F i → ¬ O0 i) (hN : (ks.length + 3) * y.length ≤ N) (hks : ks.length ≤ 1000000) :
    Calls Try.prog 35 #[.pointer (some ⟨g, 0, none⟩), c.v, .agg #[.int .i64 b1, .int .i64 b2], .func (.func k) #[] #[.pointer (some ⟨p, 0, none⟩)]] w (MeetsP S O0 N y c (b1, b2) w) := by
  have hb := (below_one (w := w) (.cells #[.int .i64 c.kind, .int .i64 c.client, .int .i64 c.seq, .string c.key, .string c.val, .int .i64 c.rev] 24)).trans (below_one (w := w.alloc (.cells #[.int .i64 c.kind, .int .i64 c.client, .int .i64 c.seq, .string c.key, .string c.val, .int .i64 c.rev] 24)) (.cells #[.int .i64 b1, .int .i64 b2] 26) |>.mono (by simp))
  have C0 : Blk ((w.alloc (.cells #[.int .i64 c.kind, .int .i64 c.client, .int .i64 c.seq, .string c.key, .string c.val, .int .i64 c.rev] 24)).alloc (.cells #[.int .i64 b1, .int .i64 b2] 26)) w.heap.size 24 #[.int .i64 c.kind, .int .i64 c.client, .int .i64 c.seq, .string c.key, .string c.val, .int .i64 c.rev] := (Blk.new w _ _).alloc _
  have B0 : Blk ((w.alloc (.cells #[.int .i64 c.kind, .int .i64 c.client, .int .i64 c.seq, .string c.key, .string c.val, .int .i64 c.rev] 24)).alloc (.cells #[.int .i64 b1, .int .i64 b2] 26)) (w.heap.size + 1) 26 #[.int .i64 b1, .int .i64 b2] := blk_newAt (by simp)
  have hnr := near_any F g ba bk bc bw y ks cs co c _ (h.keep hb) hV hc hks
  have M0 : MtS S O0 O0 w [] ((w.alloc (.cells #[.int .i64 c.kind, .int .i64 c.client, .int .i64 c.seq, .string c.key, .string c.val, .int .i64 c.rev] 24)).alloc (.cells #[.int .i64 b1, .int .i64 b2] 26)) := MtS.keep ⟨hS, fun k hk => .inl hk, Turn.refl _ _⟩ hE hb
  have P0 := h.keep hb
  have HF := Lib.hid (show (∀ i, F i → i < w.heap.size) ∧ (∀ i, O0 i → i < w.heap.size) ∧ (∀ i, F i → ¬ O0 i) from ⟨h.lt, hE.lt hS, hFO⟩)
  have HV := Lib.hid hV
  have Hok := Lib.hid hok
  have HN := Lib.hid hN
  have HE := Lib.hid hE
  have HS2 := Lib.hid (show ∀ o o' : Obj, ((w.alloc o).alloc o').heap.size = w.heap.size + 2 from fun o o' => by simp)
  clear hb h hV hok hE hS hFO hN hks
  unfold CmdT.v at hnr ⊢
  have cc := C0.cell
  go_enter Try.func35, Try.ntmps35
  go_wp2_with (go_at_call 65; (with_reducible refine hnr.mono ?_); rintro e w1 ⟨A, m, cp, gl, rfl, hle, G1, N1, hb1, A1⟩)
  have M1 := M0.keep HE.out hb1
  have W1 : MtW F O0 w1.heap.size g ba bk bc bw y ks cs co w.heap.size (w.heap.size + 1) c b1 b2 A m gl w1 := by
    have hz := hb1.size
    rw [HS2.out] at hz
    obtain ⟨f1, f2, f3⟩ := HF.out
    refine ⟨P0.keep hb1, C0.keep hb1, B0.keep hb1, G1, ⟨f3, fun ho => ?_, fun ho => ?_, fun ad e ho => ?_⟩, ⟨fun i hi => ?_, by omega, by omega, fun ad e => (A1 ad e).2⟩, Nat.le_refl _⟩
    · have := f2 _ ho; omega
    · have := f2 _ ho; omega
    · have h1 := f2 _ ho
      have h2 := (A1 ad e).1
      rw [HS2.out] at h2
      omega
    · have := f1 i hi; omega
  have HN1 := Lib.hid N1
  have HUq := Lib.hid HV.out.uq
  have hml := G1.1
  have Hml := Lib.hid hml
  have hmx : m ≤ 9223372036854775807 := by have := G1.2.1; unfold maxLen at this; omega
  clear hnr M0 P0 HF HS2 cc C0 B0 hb1 A1 N1 G1 hml
  go_loopw [16] (fun s16 wr => ∃ (j : Nat) (O : Nat → Prop) (l : List EntT), s16 = .int .i64 (j : Int) ∧ j ≤ m ∧ MtS S O0 O w l wr ∧ MtW F O w1.heap.size g ba bk bc bw y ks cs co w.heap.size (w.heap.size + 1) c b1 b2 A m gl wr ∧ Hid (Got y c (b1, b2) co (gl.take j) [] l)) (fun s16 _ => m - (intOf s16).toNat)
  case atStart => exact ⟨0, O0, [], rfl, Nat.zero_le _, M1, W1, Lib.hid (by rw [List.take_zero]; exact Got.nil _ _ _ _)⟩
  case round =>
    obtain ⟨j, O, l, rfl, hj, M, Q, hG⟩ := hrel
    by_cases hlt : j < m
    · obtain ⟨o, gb, off, ho, rfl, hcell⟩ := Q.G.at_ hlt
      have i0 : (0 : Int) ≤ (j : Int) := by omega
      have i1 : (j : Int) < (m : Int) := by omega
      have Ho := Lib.hid ho
      clear ho
      cases o with
      | none =>
        have hrg := run_range_nilMap (P := Try.prog) wr 74 26 4 Try.underlying74
        have hnx := fun ty => run_next_nilMap (P := Try.prog) wr ty 0 0 #[]
        go_wp2_with fail
        go_loopw [22] (fun s22 wi => wi = wr.alloc (.mapIter none 0 #[] 0)) (fun _ _ => 0)
        case atStart => exact rfl
        case round =>
          obtain rfl := hrel
          go_wp2_with fail
          have hb9 := below_one (w := wr) (.mapIter none 0 #[] 0)
          have M9 := M.keep HE.out hb9
          have Q9 := Q.keep hb9
          have G9 := Lib.hid (hG.out.none_ Ho.out)
          clear hrg hnx hcell M Q hG
          go_roundw
          case rel => exact ⟨j + 1, O, l, by go_num, by omega, M9, Q9, G9⟩
          case measure => simp [intOf]; omega
      | some b =>
        have hb := HN1.out.1 b (List.mem_of_getElem? Ho.out)
        have hmp := Q.P.grp b hb
        have HB := Lib.hid hb
        clear hb
        go_wp2_with (at_range; refine wpList_range_g rfl _ rfl _ grpK rfl b ((co b).map pG) wr.heap.size rfl rfl hmp ?_; intro w2 hr2 hb2 hs2)
        have M2 := M.keep HE.out hb2
        have Q2 := Q.keep hb2
        have hOr : ¬ O wr.heap.size := fun ho => by have := HE.out.lt M.s _ ho; omega
        have hrH : w1.heap.size ≤ wr.heap.size := Q.le
        have G2 : Hid (Got y c (b1, b2) co (gl.take j) (([] : List (IdP × Bool)).map (·.1)) l) := hG
        go_frame
        clear hmp hcell M Q hG hb2 hs2
        generalize wr.heap.size = rr at hr2 hOr hrH ⊢
        go_loopw [22] (fun s22 wi => ∃ (O : Nat → Prop) (l : List EntT) (lg : List (IdP × Bool)) (cnt : Nat), MtS S O0 O w l wi ∧ MtW F O w1.heap.size g ba bk bc bw y ks cs co w.heap.size (w.heap.size + 1) c b1 b2 (some ⟨gb, off, none⟩) m gl wi ∧ RangeM grpK wi b rr ((co b).map pG) lg cnt ∧ Hid (Got y c (b1, b2) co (gl.take j) (lg.map (·.1)) l) ∧ ¬ O rr) (fun _ wi => wi.rangeLeft b rr)
        case atStart => exact ⟨O, l, [], _, M2, Q2, hr2, G2, hOr⟩
        case round =>
          clear M2 Q2 hr2 G2 hOr
          obtain ⟨O2, l2, lg, cnt, M3, Q3, hr3, G3, hOr⟩ := hrel
          go_wp2_with (at_next; refine wpList_next_grp rfl _ rfl _ rfl b rr cnt (co b) lg rfl hr3 ?_ ?_)
          · intro hall
            have hp := hall.out
            have hlg : (lg.map (·.1)).length ≤ y.length := by
              rw [List.length_map, hp.length_eq, List.length_map]
              exact HV.out.lenK HB.out
            have G5 := Lib.hid (G3.out.end_ Ho.out (fun i hi => List.mem_map.2 ⟨(i, true), hp.mem_iff.2 (List.mem_map.2 ⟨i, hi, rfl⟩), rfl⟩) hlg)
            clear hp hlg hall hr3 G3 hOr
            go_wp2_with fail
            go_roundw
            case rel => exact ⟨j + 1, O2, l2, by go_num, by omega, M3, Q3, G5⟩
            case measure => simp [intOf]; omega
          · intro i1 i2 w4 c4 hmem hr4 hlt4 hg4 hen
            have hi9 := hmem.out
            obtain ⟨e, he, hei⟩ := HV.out.ent HB.out hi9
            have T4 : Turn (fun i => i = rr) wr w4 := Turn.of_grown hg4 fun k e => by injection e with e; exact e.symm
            have hRH : w.heap.size ≤ rr := by have := M3.t.size; have := Q3.hi.2.1; omega
            have M4 := M3.turn HE.out T4 (fun i ho e => hOr (e ▸ ho)) (fun i e => by rw [e]; exact hRH)
            have Q4 := Q3.turn (O' := O2) T4 (fun i hi e => by omega) (fun i hi => .inl hi)
            have hms : w4.rangeLeft b rr < wr.rangeLeft b rr := by rw [hr4.left_eq, hr3.left_eq]; exact hlt4.out.1
            have hgl : (lg ++ [((i1, i2), true)]).map (·.1) = lg.map (·.1) ++ [e.i] := by rw [List.map_append, hei]; rfl
            have Hms := Lib.hid hms
            have Hgl := Lib.hid hgl
            have hl2 : l2.length ≤ N := by
              have h1 := G3.out.2.2
              have h2 := hlt4.out.2
              have h3 := HV.out.lenK HB.out
              have h4 := HN1.out.2.2
              have h5 := Hml.out
              have h6 : (gl.take j).length = j := by rw [List.length_take]; omega
              rw [h6, List.length_map] at h1
              have h7 : (j + 1) * y.length ≤ (ks.length + 3) * y.length := Nat.mul_le_mul_right _ (by omega)
              rw [Nat.add_mul, Nat.one_mul] at h7
              have h8 := HN.out
              omega
            have Hl2 := Lib.hid hl2
            have hee := Hok.out e he
            clear hmem hlt4 hg4 hr3 M3 Q3 T4 hms hgl hl2 hi9
            have HC4 := Lib.hid hr4.left_eq
            have hmt := fun W => meet_any c.kind c.client c.seq c.key c.val c.rev e.c.kind e.c.client e.c.seq e.c.key e.c.val e.c.rev W
            obtain ⟨R, hR⟩ : ∃ R, cmeet c.kind c.client c.key e.c.kind e.c.client e.c.key = R := ⟨_, rfl⟩
            rw [hR] at hmt
            have HR := Lib.hid hR
            have hent := HE.out.ent
            have hcall := Lib.hid (show ∀ W, S O2 l2 W → Calls Try.prog k #[.agg #[.int .i64 i1, .int .i64 i2], .agg #[.int .i64 e.c.kind, .int .i64 e.c.client, .int .i64 e.c.seq, .string e.c.key, .string e.c.val, .int .i64 e.c.rev, .int .i64 e.s], .pointer (some ⟨p, 0, none⟩)] W (EachP S O2 l2 e W) from fun W hs => by
              have := HE.out.call O2 l2 e W hs he Hl2.out
              rw [hei] at this
              exact this)
            clear hR
            have Hlk := Lib.hid (show ∀ W, IxG W F g ba bk bc bw y ks cs co → (Instr.lookup 70 (.map (some ba)) (.agg #[.int .i64 i1, .int .i64 i2]) false).run Try.prog W = .ok (.agg #[.int .i64 e.c.kind, .int .i64 e.c.client, .int .i64 e.c.seq, .string e.c.key, .string e.c.val, .int .i64 e.c.rev, .int .i64 e.s]) W from fun W h => by
              have h1 := h.all.look (s := (i1, i2)) (by rw [← hei]; exact hee.1)
              have h2 := getM_hit (z := allK.e0) h.all.nd (List.mem_map.2 ⟨e, he, rfl⟩ : pA e ∈ y.map pA)
              simp only [hei] at h2
              rw [h2] at h1
              exact h1)
            have ha := below_one (w := w4) (.cells #[.int .i64 i1, .int .i64 i2] 26)
            have I5 := Blk.new w4 26 #[.int .i64 i1, .int .i64 i2]
            have M5 := M4.keep HE.out ha
            have Q5 := Q4.keep ha
            have R5 := hr4.keep ha
            clear M4 Q4 hee hr4 ha
            go_upto_region 7 with fail
            clear hen
            replace I5 := Blk.keep I5 (Below.refl _ _).drew
            replace M5 := M5.keep HE.out (Below.refl _ _).drew
            replace Q5 := Q5.keep (Below.refl _ _).drew
            replace R5 := R5.keep (Below.refl _ _).drew
            (refine wp_region_held_drew (S := (SL7 g #[.map (some ba), .map (some bk), .map (some bc), .map (some bw)] w4.heap.size #[.int .i64 i1, .int .i64 i2] ba i1 i2 (.agg #[.int .i64 e.c.kind, .int .i64 e.c.client, .int .i64 e.c.seq, .string e.c.key, .string e.c.val, .int .i64 e.c.rev, .int .i64 e.s]))) (by kernel_rfl) ?_ (fun hHeld => ?_); (· exact ⟨Q5.P.hd.cell, I5.cell, Hlk.out _ Q5.P⟩))
            (refine take_op (i := 0) (v := ?_) rfl (by kernel_rfl) (by kernel_rfl) (by kernel_rfl) (fun _ _ _ h => h) (by rfl) ?_ hHeld ?_; rotate_left; (· (intro wS hSw; (try dsimp only at hSw); go_simp; first | done | with_reducible rfl)); simp only [Act.put, List.setIfInBounds_toArray, List.set_cons_zero, List.set_cons_succ]); (refine take_op (i := 1) (v := ?_) rfl (by kernel_rfl) (by kernel_rfl) (by kernel_rfl) (fun _ _ _ h => h) (by rfl) ?_ hHeld ?_; rotate_left; (· (intro wS hSw; (try dsimp only at hSw); go_simp; first | done | with_reducible rfl)); simp only [Act.put, List.setIfInBounds_toArray, List.set_cons_zero, List.set_cons_succ]); (refine take_op (i := 2) (v := ?_) rfl (by kernel_rfl) (by kernel_rfl) (by kernel_rfl) (fun _ _ _ h => h) (by rfl) ?_ hHeld ?_; rotate_left; (· (intro wS hSw; (try dsimp only at hSw); go_simp; first | done | with_reducible rfl)); simp only [Act.put, List.setIfInBounds_toArray, List.set_cons_zero, List.set_cons_succ]); (refine take_op (i := 3) (v := ?_) rfl (by kernel_rfl) (by kernel_rfl) (by kernel_rfl) (fun _ _ _ h => h) (by rfl) ?_ hHeld ?_; rotate_left; (· (intro wS hSw; (try dsimp only at hSw); go_simp; first | done | with_reducible rfl)); simp only [Act.put, List.setIfInBounds_toArray, List.set_cons_zero, List.set_cons_succ]); (refine take_op (i := 4) (v := ?_) rfl (by kernel_rfl) (by kernel_rfl) (by kernel_rfl) (fun _ _ _ h => h) (by rfl) ?_ hHeld ?_; rotate_left; (· (intro wS hSw; (try dsimp only at hSw); go_simp; first | done | with_reducible rfl)); simp only [Act.put, List.setIfInBounds_toArray, List.set_cons_zero, List.set_cons_succ]); (refine take_op (i := 5) (v := ?_) rfl (by kernel_rfl) (by kernel_rfl) (by kernel_rfl) (fun _ _ _ h => h) (by rfl) ?_ hHeld ?_; rotate_left; (· (intro wS hSw; (try dsimp only at hSw); go_simp; first | done | with_reducible rfl)); simp only [Act.put, List.setIfInBounds_toArray, List.set_cons_zero, List.set_cons_succ])
            revert hHeld R5 Q5 M5 I5
            generalize World.drew _ = wd
            generalize w4.heap.size = ib at *
            intro I5 M5 Q5 R5 hHeld
            have ha := below_one (w := wd) (.cells #[.int .i64 0, .int .i64 0, .int .i64 0, .string ByteArray.empty, .string ByteArray.empty, .int .i64 0, .int .i64 0] 78)
            (refine call_op (i := 6) rfl (by kernel_rfl) (by rfl) (fun K hK => ?_); go_simp; skip; refine hK.out _ _ ⟨(Q5.keep ha).P.hd.cell, (I5.keep ha).cell, Hlk.out _ (Q5.keep ha).P⟩ (fun hHeld2 => ?_); clear hK K hHeld; have hHeld := hHeld2; clear hHeld2; (try simp only [Act.put, List.setIfInBounds_toArray, List.set_cons_zero, List.set_cons_succ]))
            have hb := below_one (w := wd) (.cells #[.int .i64 e.c.kind, .int .i64 e.c.client, .int .i64 e.c.seq, .string e.c.key, .string e.c.val, .int .i64 e.c.rev, .int .i64 e.s] 78)
            have E6 := Blk.new wd 78 #[.int .i64 e.c.kind, .int .i64 e.c.client, .int .i64 e.c.seq, .string e.c.key, .string e.c.val, .int .i64 e.c.rev, .int .i64 e.s]
            have I6 := I5.keep hb
            have M6 := M5.keep HE.out hb
            have Q6 := Q5.keep hb
            have R6 := R5.keep hb
            (refine call_op (i := 7) rfl (by kernel_rfl) (by rfl) (fun K hK => ?_); go_simp; skip; refine hK.out _ _ ⟨Q6.P.hd.cell, I6.cell, Hlk.out _ Q6.P⟩ (fun hHeld2 => ?_); clear hK K hHeld; have hHeld := hHeld2; clear hHeld2; (try simp only [Act.put, List.setIfInBounds_toArray, List.set_cons_zero, List.set_cons_succ]))
            (refine wpAnyH_done (by kernel_rfl) ?_ _)
            clear hHeld ha hb I5 M5 Q5 R5 Hlk
            revert E6 I6 M6 Q6 R6
            generalize wd.heap.size = eb
            generalize World.alloc _ _ = wd
            intro E6 I6 M6 Q6 R6
            have ic := I6.cell
            have ec := E6.cell
            have cc := Q6.C.cell
            have bc' := Q6.B.cell
            by_cases hq : i1 = b1 ∧ i2 = b2
            · obtain ⟨rfl, rfl⟩ := hq
              have G7 := Lib.hid (show Got y c (i1, i2) co (gl.take j) ((lg ++ [((i1, i2), true)]).map (·.1)) l2 from by rw [Hgl.out]; exact G3.out.miss HUq.out he (by simp [meetE, hei]))
              clear hei Hgl G3 hmt
              go_wp2_with fail
              clear ic ec cc bc'
              go_roundw
              case rel => exact ⟨O2, l2, _, c4, M6, Q6, R6, G7, hOr⟩
              case measure => rw [R6.left_eq]; rw [HC4.out] at Hms; exact Hms.out
            · have hme : meetE c (b1, b2) e = R := by
                have hne : e.i ≠ (b1, b2) := fun h => hq (by rw [hei] at h; simpa using h)
                simp [meetE, hne, HR.out]
              have hq2 : i1 ≠ b1 ∨ (i1 = b1 ∧ i2 ≠ b2) := by
                by_cases h1 : i1 = b1
                · exact .inr ⟨h1, fun h2 => hq ⟨h1, h2⟩⟩
                · exact .inl h1
              clear hq
              rcases hq2 with hq | ⟨rfl, hq⟩
              all_goals
                cases R
                · have G7 := Lib.hid (show Got y c _ co (gl.take j) ((lg ++ [((i1, i2), true)]).map (·.1)) l2 from by rw [Hgl.out]; exact G3.out.miss HUq.out he hme)
                  clear hei Hgl G3 hme hcall hent
                  go_wp2_with (go_at_call 23; (with_reducible refine (hmt _).mono ?_); rintro r9 w9 ⟨rfl, hb9⟩; replace M6 := M6.keep HE.out hb9; replace Q6 := Q6.keep hb9; replace R6 := R6.keep hb9; clear ic ec cc bc')
                  all_goals
                    go_roundw
                    case rel => exact ⟨O2, l2, _, c4, M6, Q6, R6, G7, hOr⟩
                    case measure => rw [R6.left_eq]; rw [HC4.out] at Hms; exact Hms.out
                · have G7 := Lib.hid (show Got y c _ co (gl.take j) ((lg ++ [((i1, i2), true)]).map (·.1)) (l2 ++ [e]) from by rw [Hgl.out]; exact G3.out.hit HUq.out he hme)
                  clear hei Hgl G3 hme
                  go_wp2_with (first | (go_at_call 23; (with_reducible refine (hmt _).mono ?_); rintro r9 w9 ⟨rfl, hb9⟩; replace M6 := M6.keep HE.out hb9; replace Q6 := Q6.keep hb9; replace R6 := R6.keep hb9; replace I6 := I6.keep hb9; replace E6 := E6.keep hb9; replace ic := I6.cell; replace ec := E6.cell; clear cc bc') | (go_at_fn k; (with_reducible refine (hcall.out _ M6.s).mono ?_); rintro r10 w10 hp10; have Hp10 := Lib.hid hp10; obtain rfl := hp10.1; clear hp10))
                  all_goals
                    obtain ⟨_, O3, s3, hO3, t3⟩ := Hp10.out
                    have hO3' : ∀ i, O3 i → O2 i ∨ w1.heap.size ≤ i := fun i hi => (hO3 i hi).imp id fun h => Nat.le_trans Q6.le h
                    have hr9 := R6.lt
                    have hb9' := (Q6.P.grp b HB.out).lt
                    have M7 := M6.told s3 hO3 t3
                    have Q7 := Q6.turn t3 (fun i _ h => h) hO3'
                    have R7 := R6.turn t3 (fun h => Q6.no.1 _ (Q6.P.own.2.2.2.2 b HB.out) h) hOr
                    have n7 : ¬ O3 rr := fun h => by rcases hO3 _ h with h | h; exact hOr h; omega
                    clear Hp10 s3 hO3 t3 hO3' hr9 hb9' M6 Q6 R6 I6 E6 ic ec
                    go_roundw
                    case rel => exact ⟨O3, _, _, c4, M7, Q7, R7, G7, n7⟩
                    case measure => rw [R7.left_eq]; rw [HC4.out] at Hms; exact Hms.out
    · have hjm : j = m := by omega
      have ni : ¬ ((j : Int) < (m : Int)) := by omega
      have hgl : gl.take j = gl := by rw [hjm, Hml.out, List.take_length]
      have G9 := hG.out
      rw [hgl] at G9
      have FIN := Lib.hid (show MeetsP S O0 N y c (b1, b2) w (.returned (.tuple #[])) wr from ⟨rfl, O, l, M.s, M.sub, G9.all HN1.out, by
        have h1 := G9.2.2
        have h2 := HN1.out.2.2
        have h3 : gl.length * y.length ≤ (ks.length + 3) * y.length := Nat.mul_le_mul_right _ h2
        have h4 := HN.out
        simp only [List.length_nil] at h1
        omega, M.t⟩)
      clear G9 hgl hG M Q hjm
      go_wp2_with fail
      go_end0
      exact FIN.out
end Go.Proofs.Ytpdfbkkhmfnnjaa
