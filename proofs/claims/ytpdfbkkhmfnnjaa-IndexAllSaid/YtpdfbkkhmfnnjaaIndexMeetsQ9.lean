/- ids.Set, of any list, one without an element at any address too. index.Deps. The law's example. The walk of the law IndexMeets. -/
import Derived.Test.YtpdfbkkhmfnnjaaIndexMeetsQ4
import Derived.Test.YtpdfbkkhmfnnjaaIndexMeetsQ8
import Derived.Test.YtpdfbkkhmfnnjaaIndexMeetsQ7
import Derived.Test.YtpdfbkkhmfnnjaaIndexMeetsQ0
import Derived.Lib.SliceRun
import Derived.WalkKit
import Derived.WalkSpells
import Derived.WalkLawsBesides
import Derived.Deep.RegionHeld3
import Derived.Deep.DrawnRows
import Derived.Deep.DeepCutAuto
import Derived.Deep.DeepFit
import Derived.Lib.Hide
import Derived.BigQuiet
import Derived.Deep.QuietTactic
import Derived.Shelf.Abstract
namespace Go.Proofs.Ytpdfbkkhmfnnjaa
open Go.RowKit
set_option linter.unusedVariables false
set_option linter.unusedSimpArgs false
set_option maxRecDepth 20000
attribute [local go_sem ↓] Go.wp_at_zero Go.wp_at_succ
attribute [local go_sem] World.cell?_alloc_some frozen_alloc_some
open Go.Sort Go.Lib

theorem eql_ids_nil (ad : Addr) (c : Nat) (w : World) : (binOp .eql 42 (.slice (some ad) 0 c) (.slice none 0 0)).run Try.prog w = .ok (.bool false) w :=
  Lib.run_eql_slice_nil w 42 26 (some ad) 0 c 0 0 (by kernel_rfl)
attribute [local go_sem ↓ high] eql_ids_nil
theorem clone_empty (ad : Addr) (c : Nat) (w : World) :
    Calls Try.prog 66 #[.slice (some ad) 0 c] w (fun e w' => ∃ A' c', e = .returned (.slice A' 0 c') ∧ Below w.heap.size w w') := by
  obtain ⟨i0, hi0, hz00, hz01, hz02⟩ := idinfo
  have hk : Below w.heap.size w (w.alloc (.cells #[] 26)) := (Below.refl _ _).alloc (Nat.le_refl _) _
  have hsrc : Src (w.alloc (.cells #[] 26)) 2 (some ad) 0 [] := ⟨rfl, fun j u h => by simp at h, fun u h => by cases h⟩
  have hown : (w.alloc (.cells #[] 26)).ownsRow w.heap.size 26 2 (.slice (some ⟨w.heap.size, 0, none⟩) 0 0) 0 [] := World.ownsRow_made w #[] 0 (Nat.le_refl _) (Nat.zero_le _) (by simp)
  go_enter Try.func66, Try.ntmps66
  go_wp2_with (at_builtin; go_loud (refine wpList_app _ rfl (.tmp 5) (.tmp 6) 42 rfl _ 26 i0 _ 2 16 Try.underlying42 hi0 hz00 hz01 hz02 rfl (by omega) _ _ _ rfl hown _ _ _ _ rfl hsrc ?h63 ?hby ?hbase ?_); (case h63 => (unfold maxLen; first | omega | (simp; done) | (simp; omega))); (case hby => first | omega | (simp; done) | (simp; omega)); (case hbase => first | omega | (simp; done) | (simp; omega)); intro v2 w2 hownw2 hgroww2 hatw2 holdw2)
  have hb2 := below_app hk hown hgroww2 (Nat.le_refl _) (by simp)
  have hown2 : w2.ownsRow w.heap.size 26 2 v2 0 [] := by simpa using hownw2
  obtain ⟨A2, c2, rfl, _, _⟩ := own_form5 hown2
  go_ret
  exact ⟨_, _, rfl, hb2⟩
theorem compact_empty (A : Option Addr) (c : Nat) (w : World) :
    Calls Try.prog 68 #[.slice A 0 c] w (fun e w' => e = .returned (.slice A 0 c) ∧ w' = w) := by
  go_enter Try.func68, Try.ntmps68
  go_wp2_with fail
  go_ret
  exact ⟨rfl, rfl⟩
set_option maxHeartbeats 1000000 in
theorem set2_any (A : Option Addr) (m c : Nat) (l : List IdP) (w : World) (h1 : IdsAt w A m l) (hm : m ≤ 1000000) :
    Calls Try.prog 37 #[.slice A m c] w
      fun e w' => ∃ A' c', e = .returned (.slice A' (idSet l).length c') ∧ IdsAt w' A' (idSet l).length (idSet l) ∧ Below w.heap.size w w' := by
  by_cases h0 : m = 0
  · subst h0
    have hl : l = [] := List.length_eq_zero_iff.1 h1.1.symm
    subst hl
    cases A with
    | none => exact (set_any none 0 c [] w h1 hm (fun ad h => by cases h)).mono fun e w' ⟨A', c', he, _, hI, _, hb⟩ => ⟨A', c', he, hI, hb⟩
    | some ad =>
      rw [show idSet [] = [] from rfl]
      have hcl := fun W => clone_empty ad c W
      have hso := fun p cap W => AnyF.slices_SortFunc_none (P := Try.prog) (ρ := Try.sortIds_ren) { Try.sortIds with } p cap (.func (.func 43) #[] #[]) W
      change ∀ p cap W, Calls Try.prog 67 _ _ _ at hso
      have hco := fun A c W => compact_empty A c W
      clear h1 hm
      go_enter Try.func37, Try.ntmps37
      go_wp2_with (first | (go_at_call 66; refine (hcl _).mono ?_; rintro e w1 ⟨A', c', rfl, hb1⟩) | (go_at_call 67; refine (hso _ _ _).mono ?_; rintro e w2 ⟨rfl, rfl⟩) | (go_at_call 68; refine (hco _ _ _).mono ?_; rintro e w3 ⟨rfl, rfl⟩))
      go_ret
      exact ⟨A', c', rfl, IdsAt.nil, by assumption⟩
  · refine (set_any A m c l w h1 hm (fun ad h => ?_)).mono fun e w' ⟨A', c', he, _, hI, _, hb⟩ => ⟨A', c', he, hI, hb⟩
    obtain ⟨_, _, b, o, _, _, _, e, _⟩ := h1.at_ (show 0 < m by omega)
    rw [h] at e
    cases e
    rfl
theorem has2_any (A : Option Addr) (m c : Nat) (l : List IdP) (x1 x2 : Int) (w : World) (h1 : IdsAt w A m l) (hk : Asc l) (hm : m ≤ 1000000) :
    Calls Try.prog 22 #[.slice A m c, .agg #[.int .i64 x1, .int .i64 x2]] w (Gives w (.bool (decide ((x1, x2) ∈ l)))) := by
  have h := fun W (hb : Below w.heap.size w W) => search_any A m c l x1 x2 W (h1.keep hb) hk hm
  clear hk h1
  generalize decide ((x1, x2) ∈ l) = R at h ⊢
  go_enter Try.func22, Try.ntmps22
  go_wp2_with (go_at_call 42; refine (h _ (by ((repeat' first | with_reducible exact Below.refl _ _ | with_reducible assumption | with_reducible refine Below.alloc ?_ ?_ _ | with_reducible refine Below.setCell ?_ ?_ _ | with_reducible apply Below.drew | with_reducible apply below_drewN | with_reducible refine below_call ?_ (by with_reducible assumption) ?_) <;> (first | omega | (simp; done) | (simp; omega) | (simp at *; omega))))).mono ?_; rintro e w1 ⟨i, rfl, hb1⟩)
  go_ret
  exact ⟨rfl, by ((repeat' first | with_reducible exact Below.refl _ _ | with_reducible assumption | with_reducible refine Below.alloc ?_ ?_ _ | with_reducible refine Below.setCell ?_ ?_ _ | with_reducible apply Below.drew | with_reducible apply below_drewN | with_reducible refine below_call ?_ (by with_reducible assumption) ?_) <;> (first | omega | (simp; done) | (simp; omega) | (simp at *; omega)))⟩
end Go.Proofs.Ytpdfbkkhmfnnjaa

namespace Go.Proofs.Ytpdfbkkhmfnnjaa
open Go.RowKit
set_option linter.unusedVariables false
set_option linter.unusedSimpArgs false
set_option maxRecDepth 20000
attribute [local go_sem ↓] Go.wp_at_zero Go.wp_at_succ
attribute [local go_sem] World.cell?_alloc_some frozen_alloc_some
open Go.Maps

/-- What Deps gives: the set of what meets. -/
def DepsP (w : World) (y : List EntT) (c : CmdT) (but : IdP) (e : Ending) (w' : World) : Prop :=
  ∃ A' c', e = .returned (.slice A' (depsE y c but).length c') ∧ IdsAt w' A' (depsE y c but).length (depsE y c but) ∧ Below w.heap.size w w'
set_option maxHeartbeats 4000000 in
theorem ixdeps_any (F : Nat → Prop) (g n : Nat) (y : List EntT) (c : CmdT) (b1 b2 : Int) (w : World) (h : IxAt w F g y n) (hc : c.Ok) (hn : n ≤ 900) :
    Calls Try.prog 16 #[.pointer (some ⟨g, 0, none⟩), c.v, .agg #[.int .i64 b1, .int .i64 b2]] w (DepsP w y c (b1, b2)) := by
  obtain ⟨ba, bk, bc, bw, ks, cs, co, hG, hV, hok, hy, hk, hcs⟩ := h
  obtain ⟨W3, hW3⟩ : ∃ W3, W3 = ((w.alloc (.cells #[.int .i64 c.kind, .int .i64 c.client, .int .i64 c.seq, .string c.key, .string c.val, .int .i64 c.rev] 24)).alloc (.cells #[.int .i64 b1, .int .i64 b2] 26)).alloc (.cells #[.slice none 0 0] 42) := ⟨_, rfl⟩
  have k3 : Below w.heap.size w W3 := by
    have := hW3
    subst this
    ((repeat' first | with_reducible exact Below.refl _ _ | with_reducible assumption | with_reducible refine Below.alloc ?_ ?_ _ | with_reducible refine Below.setCell ?_ ?_ _ | with_reducible apply Below.drew | with_reducible apply below_drewN | with_reducible refine below_call ?_ (by with_reducible assumption) ?_) <;> (first | omega | (simp; done) | (simp; omega) | (simp at *; omega)))
  have hp : Blk W3 (w.heap.size + 1 + 1) 42 #[.slice none 0 0] := by rw [hW3]; exact blk_newAt (by simp)
  have hlt := hG.lt
  have hNle : (ks.length + 3) * y.length ≤ 812700 := Nat.mul_le_mul (by omega : ks.length + 3 ≤ 903) (by omega : y.length ≤ 900)
  have hcall := meets_any 36 (w.heap.size + 1 + 1) 812700 F (fun k => k = w.heap.size + 1 + 1) g ba bk bc bw y ks cs co c b1 b2 (SDeps (w.heap.size + 1 + 1)) W3 (hG.keep k3) hV hok hc (each_deps _ _ y hok (by omega)) ⟨.slice none 0 0, hp, World.ownsRow_nil _ _ _ _, fun k => ⟨fun e => .inl e, fun e => by rcases e with e | e; exact e; cases e⟩, fun e he => by cases he⟩ (fun i hi e => by have := hlt i hi; omega) hNle (by omega)
  have FIN : ∀ w9, (∃ O l, SDeps (w.heap.size + 1 + 1) O l w9 ∧ (∀ k, O k → k = w.heap.size + 1 + 1 ∨ W3.heap.size ≤ k) ∧ (∀ x, x ∈ l ↔ x ∈ y ∧ meetE c (b1, b2) x = true) ∧ l.length ≤ 812700 ∧ Turn (fun k => k = w.heap.size + 1 + 1) W3 w9) →
      ∃ A m cp, (∀ i, w9.cell? ⟨w.heap.size + 1 + 1, i, none⟩ = (#[.slice A m cp] : Array Value)[i]?) ∧ (∀ W, Below w9.heap.size w9 W → Calls Try.prog 37 #[.slice A m cp] W (DepsP W y c (b1, b2))) ∧ Below w.heap.size w w9 := fun w9 ⟨O, l, hS, _, hl, hlen, t⟩ => by
    obtain ⟨v, hb, ho, hO, hwf⟩ := hS
    obtain ⟨A, cp, rfl, _, hcp⟩ := ownX_form ho
    have hll : l.length ≤ 1000000 := by omega
    obtain ⟨hI, _, _⟩ := ids_of_own ho (by unfold maxLen; omega) (fun x hx => by obtain ⟨e, he, rfl⟩ := List.mem_map.1 hx; exact hwf e he)
    refine ⟨A, l.length, cp, hb.cell, fun W hW => (set2_any A l.length cp _ W (hI.keep hW) hll).mono fun e w' hp => ?_, Turn.below k3 t (fun i e => by omega) k3.size⟩
    obtain ⟨A', c', h1, h2, h3⟩ := hp
    rw [depsE_of hl] at h1 h2
    exact ⟨A', c', h1, h2, h3⟩
  have HF := Lib.hid FIN
  clear FIN hG hV hok hy hk hcs hc hlt hp k3 hNle
  subst hW3
  have hmf : ∀ (fn : Fn) (first cap : Array Value) (w : World), (Instr.makeFunc fn first cap).run Try.prog w = .ok (.func fn first cap) w := fun _ _ _ _ => rfl
  unfold CmdT.v at hcall ⊢
  go_enter Try.func16, Try.ntmps16
  go_wp2_with (first | (go_at_call 35; (with_reducible refine hcall.mono ?_); rintro e w9 ⟨rfl, hp9⟩; obtain ⟨A, m, cp, hc9, hs9, hb9⟩ := HF.out w9 hp9; clear hp9) | (go_at_call 37; (with_reducible refine (hs9 _ (Below.refl _ _)).mono ?_); rintro e w8 ⟨A8, c8, rfl, hI8, hb8⟩; have I8 := Lib.hid hI8; clear hI8))
  go_ret
  exact ⟨A8, c8, rfl, I8.out, below_call hb9 hb8 hb9.size⟩
end Go.Proofs.Ytpdfbkkhmfnnjaa

namespace Go.Proofs.Ytpdfbkkhmfnnjaa
open Go.RowKit
set_option linter.unusedVariables false
set_option linter.unusedSimpArgs false
set_option maxRecDepth 20000
attribute [local go_sem ↓] Go.wp_at_zero Go.wp_at_succ
attribute [local go_sem] World.cell?_alloc_some frozen_alloc_some
attribute [local go_sem ↓ high] id_neq_run id_eql_run
open Go.Maps

def awA : EntT := ⟨(0, 1), ⟨2, 1, 1, ⟨#[97]⟩, ⟨#[]⟩, 0⟩, 3⟩
def awB : EntT := ⟨(1, 1), ⟨1, 2, 1, ⟨#[98]⟩, ⟨#[]⟩, 0⟩, 4⟩
def awG : CmdT := ⟨1, 3, 1, ⟨#[97]⟩, ⟨#[]⟩, 0⟩
theorem aw_deps : depsE (putE (putE [] awA) awB) awG (0, 0) = [(0, 1)] := by decide +kernel
theorem aw_seq : seqE (putE (putE [] awA) awB) awG (0, 0) = 4 := by decide +kernel
theorem aw_len : (putE (putE [] awA) awB).length = 2 := by decide +kernel
theorem aw_okA : awA.c.Ok := ⟨by decide, by decide, by decide, by decide +kernel, by decide +kernel, by decide⟩
theorem aw_okB : awB.c.Ok := ⟨by decide, by decide, by decide, by decide +kernel, by decide +kernel, by decide⟩
theorem aw_okG : awG.Ok := ⟨by decide, by decide, by decide, by decide +kernel, by decide +kernel, by decide⟩
abbrev SAw (h : Nat) (cs : Array Value) (g : Nat) (ds : Array Value) (b o : Nat) (wx : World) : Prop := (∀ i, wx.cell? ⟨h, i, none⟩ = cs[i]?) ∧ (∀ i, wx.cell? ⟨g, i, none⟩ = ds[i]?) ∧ wx.cell? ⟨b, o, none⟩ = some (.int .i64 0) ∧ wx.cell? ⟨b, o + 1, none⟩ = some (.int .i64 1)
/-- The index of the example, and what lies beside it. -/
structure AwS (w : World) (F : Nat → Prop) (g : Nat) (y : List EntT) (n a : Nat) (W : World) : Prop where
  hb : Below w.heap.size w W
  ix : IxAt W F g y n
  lo : ∀ k, F k → w.heap.size ≤ k
  A : Blk W a 26 #[.int .i64 0, .int .i64 1]
  B : Blk W (a + 1) 26 #[.int .i64 1, .int .i64 1]
  no : ¬ F a ∧ ¬ F (a + 1)
theorem AwS.keep {w W W' : World} {F : Nat → Prop} {g : Nat} {y : List EntT} {n a : Nat} (h : AwS w F g y n a W) (hb : Below W.heap.size W W') : AwS w F g y n a W' := ⟨below_call h.hb hb h.hb.size, h.ix.keep hb, h.lo, h.A.keep hb, h.B.keep hb, h.no⟩
theorem AwS.ixs {w W W' : World} {F : Nat → Prop} {g : Nat} {y y' : List EntT} {n n' a : Nat} {e : Ending} (h : AwS w F g y n a W) (d : Ixs W F g y' n' e W') : ∃ F', AwS w F' g y' n' a W' := by
  obtain ⟨_, F', h1, h2, t⟩ := d
  have hA := h.A.lt
  have hB := h.B.lt
  have hs := h.hb.size
  refine ⟨F', Turn.below h.hb t h.lo hs, h1, fun k hk => ?_, t.blk h.A h.no.1, t.blk h.B h.no.2, fun hk => ?_, fun hk => ?_⟩
  · rcases h2 k hk with h3 | h3
    · exact h.lo k h3
    · omega
  · rcases h2 _ hk with h3 | h3
    · exact h.no.1 h3
    · omega
  · rcases h2 _ hk with h3 | h3
    · exact h.no.2 h3
    · omega
set_option maxHeartbeats 8000000 in
theorem awake17_any (w : World) : Calls Try.prog 9 #[] w (Gives w (.bool true)) := by
  have hp1 := fun F g W (h : IxAt W F g [] 0) => ixput_any F g 0 [] 0 1 awA.c 3 W h ⟨by decide, by decide⟩ aw_okA (by decide) (by omega)
  have hp2 := fun F g W (h : IxAt W F g (putE [] awA) 1) => ixput_any F g 1 (putE [] awA) 1 1 awB.c 4 W h ⟨by decide, by decide⟩ aw_okB (by decide) (by omega)
  have hd := fun F g W (h : IxAt W F g (putE (putE [] awA) awB) 2) => ixdeps_any F g 2 _ awG 0 0 W h aw_okG (by omega)
  have hs := fun F g W (h : IxAt W F g (putE (putE [] awA) awB) 2) => ixseq_any F g 2 _ awG 0 0 W h aw_okG (by omega) (by decide +kernel)
  have hl := fun F g W (h : IxAt W F g (putE (putE [] awA) awB) 2) => ixlen_any F g 2 _ W h
  unfold DepsP at hd
  simp only [aw_deps, aw_seq, aw_len] at hd hs hl
  simp only [awA, awB, awG, CmdT.v] at hp1 hp2 hd hs
  have Hp1 := Lib.hid hp1
  have Hp2 := Lib.hid hp2
  have Hd := Lib.hid hd
  have Hs := Lib.hid hs
  have Hl := Lib.hid hl
  clear hp1 hp2 hd hs hl
  have hnew := fun W => ixnew_any W
  go_enter Try.func9, Try.ntmps9
  go_upto_region 3 with (go_at_call 10; (with_reducible refine (hnew _).mono ?_); rintro e w1 ⟨rfl, H1, hb1⟩)
  have S1 : ∃ F, AwS w F (w.heap.size + 1 + 1 + 1 + 1) [] 0 w1.heap.size ((w1.alloc (.cells #[.int .i64 0, .int .i64 1] 26)).alloc (.cells #[.int .i64 1, .int .i64 1] 26)) := by
    have ka := below_one (w := w1) (.cells #[.int .i64 0, .int .i64 1] 26)
    have kb := below_one (w := w1.alloc (.cells #[.int .i64 0, .int .i64 1] 26)) (.cells #[.int .i64 1, .int .i64 1] 26)
    have hz := hb1.size
    have hlt := H1.lt
    refine ⟨_, below_call (below_call hb1 ka hb1.size) kb (by simp; omega), (H1.keep ka).keep kb, fun k hk => hk.1, (Blk.new _ _ _).alloc _, blk_newAt (by simp), fun hk => ?_, fun hk => ?_⟩
    · have := hlt _ hk; omega
    · have := hlt _ hk; omega
  obtain ⟨F1, S1⟩ := S1
  revert S1
  generalize World.alloc _ _ = w2
  generalize w1.heap.size = a
  intro S1
  clear H1 hb1 hnew
  have ac := S1.A.cell
  have bc := S1.B.cell
  go_upto_region 4 with (go_at_call 12; (with_reducible refine (Hp1.out _ _ _ S1.ix).mono ?_); rintro e w3 hd3; obtain rfl := hd3.1; obtain ⟨F3, S3⟩ := S1.ixs hd3; clear hd3)
  clear ac bc S1
  have ac := S3.A.cell
  have bc := S3.B.cell
  go_upto_region 5 with (go_at_call 12; (with_reducible refine (Hp2.out _ _ _ S3.ix).mono ?_); rintro e w4 hd4; obtain rfl := hd4.1; obtain ⟨F4, S4'⟩ := S3.ixs hd4; clear hd4)
  clear ac bc S3
  have kg := below_one (w := w4) (.cells #[.int .i64 1, .int .i64 3, .int .i64 1, .string ⟨#[97]⟩, .string ⟨#[]⟩, .int .i64 0] 24)
  have G4 := Blk.new w4 24 #[.int .i64 1, .int .i64 3, .int .i64 1, .string ⟨#[97]⟩, .string ⟨#[]⟩, .int .i64 0]
  replace S4' := S4'.keep kg
  clear kg
  go_upto_region 6 with fail
  revert S4' G4
  generalize World.alloc w4 _ = w5
  generalize w4.heap.size = gb
  intro G5 S5
  have gc := G5.cell
  go_upto_region 7 with (go_at_call 16; (with_reducible refine (Hd.out _ _ _ S5.ix).mono ?_); rintro e w6 ⟨A6, c6, rfl, I6, hb6⟩; have J6 := Lib.hid I6; replace S5 := S5.keep hb6; replace G5 := Blk.keep G5 hb6; clear gc I6 hb6)
  clear Hp1 Hp2 Hd
  obtain ⟨r, nn, b, o, e1, _, _, rfl, p0, p1⟩ := J6.out.at_ (i := 0) (by decide)
  simp only [List.getElem?_cons_zero, Option.some.injEq, Prod.mk.injEq] at e1
  obtain ⟨rfl, rfl⟩ := e1
  simp only [Nat.zero_mul, Nat.add_zero] at p0 p1
  have hks := Lib.hid (show ∀ W W', Below W.heap.size W W' → W.cell? ⟨b, o, none⟩ = some (.int .i64 0) ∧ W.cell? ⟨b, o + 1, none⟩ = some (.int .i64 1) → W'.cell? ⟨b, o, none⟩ = some (.int .i64 0) ∧ W'.cell? ⟨b, o + 1, none⟩ = some (.int .i64 1) from fun W W' hb h => ⟨cell_keep hb h.1, cell_keep hb h.2⟩)
  have pp := And.intro p0 p1
  clear p0 p1 J6
  replace S5 := S5.keep (Below.refl _ _).drew
  replace G5 := Blk.keep G5 (Below.refl _ _).drew
  replace pp := hks.out _ _ (Below.refl _ _).drew pp
  (refine wp_region_held_drew (S := (SAw a #[.int .i64 0, .int .i64 1] gb #[.int .i64 1, .int .i64 3, .int .i64 1, .string ⟨#[97]⟩, .string ⟨#[]⟩, .int .i64 0] b o)) (by kernel_rfl) ?_ (fun hHeld => ?_); (· exact ⟨S5.A.cell, G5.cell, pp⟩))
  (refine take_op (i := 0) (v := ?_) rfl (by kernel_rfl) (by kernel_rfl) (by kernel_rfl) (fun _ _ _ h => h) (by rfl) ?_ hHeld ?_; rotate_left; (· (intro wS hSw; (try dsimp only at hSw); go_simp; first | done | with_reducible rfl)); simp only [Act.put, List.setIfInBounds_toArray, List.set_cons_zero, List.set_cons_succ]); (refine take_op (i := 1) (v := ?_) rfl (by kernel_rfl) (by kernel_rfl) (by kernel_rfl) (fun _ _ _ h => h) (by rfl) ?_ hHeld ?_; rotate_left; (· (intro wS hSw; (try dsimp only at hSw); go_simp; first | done | with_reducible rfl)); simp only [Act.put, List.setIfInBounds_toArray, List.set_cons_zero, List.set_cons_succ]); (refine take_op (i := 2) (v := ?_) rfl (by kernel_rfl) (by kernel_rfl) (by kernel_rfl) (fun _ _ _ h => h) (by rfl) ?_ hHeld ?_; rotate_left; (· (intro wS hSw; (try dsimp only at hSw); go_simp; first | done | with_reducible rfl)); simp only [Act.put, List.setIfInBounds_toArray, List.set_cons_zero, List.set_cons_succ]); (refine take_op (i := 3) (v := ?_) rfl (by kernel_rfl) (by kernel_rfl) (by kernel_rfl) (fun _ _ _ h => h) (by rfl) ?_ hHeld ?_; rotate_left; (· (intro wS hSw; (try dsimp only at hSw); go_simp; first | done | with_reducible rfl)); simp only [Act.put, List.setIfInBounds_toArray, List.set_cons_zero, List.set_cons_succ]); (refine take_op (i := 4) (v := ?_) rfl (by kernel_rfl) (by kernel_rfl) (by kernel_rfl) (fun _ _ _ h => h) (by rfl) ?_ hHeld ?_; rotate_left; (· (intro wS hSw; (try dsimp only at hSw); go_simp; first | done | with_reducible rfl)); simp only [Act.put, List.setIfInBounds_toArray, List.set_cons_zero, List.set_cons_succ]); (refine take_op (i := 5) (v := ?_) rfl (by kernel_rfl) (by kernel_rfl) (by kernel_rfl) (fun _ _ _ h => h) (by rfl) ?_ hHeld ?_; rotate_left; (· (intro wS hSw; (try dsimp only at hSw); go_simp; first | done | with_reducible rfl)); simp only [Act.put, List.setIfInBounds_toArray, List.set_cons_zero, List.set_cons_succ]); (refine take_op (i := 6) (v := ?_) rfl (by kernel_rfl) (by kernel_rfl) (by kernel_rfl) (fun _ _ _ h => h) (by rfl) ?_ hHeld ?_; rotate_left; (· (intro wS hSw; (try dsimp only at hSw); go_simp; first | done | with_reducible rfl)); simp only [Act.put, List.setIfInBounds_toArray, List.set_cons_zero, List.set_cons_succ]); (refine take_op (i := 7) (v := ?_) rfl (by kernel_rfl) (by kernel_rfl) (by kernel_rfl) (fun _ _ _ h => h) (by rfl) ?_ hHeld ?_; rotate_left; (· (intro wS hSw; (try dsimp only at hSw); go_simp; first | done | with_reducible rfl)); simp only [Act.put, List.setIfInBounds_toArray, List.set_cons_zero, List.set_cons_succ]); (refine take_op (i := 8) (v := ?_) rfl (by kernel_rfl) (by kernel_rfl) (by kernel_rfl) (fun _ _ _ h => h) (by rfl) ?_ hHeld ?_; rotate_left; (· (intro wS hSw; (try dsimp only at hSw); go_simp; first | done | with_reducible rfl)); simp only [Act.put, List.setIfInBounds_toArray, List.set_cons_zero, List.set_cons_succ]); (refine take_op (i := 9) (v := ?_) rfl (by kernel_rfl) (by kernel_rfl) (by kernel_rfl) (fun _ _ _ h => h) (by rfl) ?_ hHeld ?_; rotate_left; (· (intro wS hSw; (try dsimp only at hSw); go_simp; first | done | with_reducible rfl)); simp only [Act.put, List.setIfInBounds_toArray, List.set_cons_zero, List.set_cons_succ]); (refine take_op (i := 10) (v := ?_) rfl (by kernel_rfl) (by kernel_rfl) (by kernel_rfl) (fun _ _ _ h => h) (by rfl) ?_ hHeld ?_; rotate_left; (· (intro wS hSw; (try dsimp only at hSw); go_simp; first | done | with_reducible rfl)); simp only [Act.put, List.setIfInBounds_toArray, List.set_cons_zero, List.set_cons_succ]); (refine take_op (i := 11) (v := ?_) rfl (by kernel_rfl) (by kernel_rfl) (by kernel_rfl) (fun _ _ _ h => h) (by rfl) ?_ hHeld ?_; rotate_left; (· (intro wS hSw; (try dsimp only at hSw); go_simp; first | done | with_reducible rfl)); simp only [Act.put, List.setIfInBounds_toArray, List.set_cons_zero, List.set_cons_succ]); (refine take_op (i := 12) (v := ?_) rfl (by kernel_rfl) (by kernel_rfl) (by kernel_rfl) (fun _ _ _ h => h) (by rfl) ?_ hHeld ?_; rotate_left; (· (intro wS hSw; (try dsimp only at hSw); go_simp; first | done | with_reducible rfl)); simp only [Act.put, List.setIfInBounds_toArray, List.set_cons_zero, List.set_cons_succ]); (refine take_op (i := 13) (v := ?_) rfl (by kernel_rfl) (by kernel_rfl) (by kernel_rfl) (fun _ _ _ h => h) (by rfl) ?_ hHeld ?_; rotate_left; (· (intro wS hSw; (try dsimp only at hSw); go_simp; first | done | with_reducible rfl)); simp only [Act.put, List.setIfInBounds_toArray, List.set_cons_zero, List.set_cons_succ])
  (refine call_op (i := 14) rfl (by kernel_rfl) (by rfl) (fun K hK => ?_); go_simp; (go_at_call 18; (with_reducible refine (Hs.out _ _ _ S5.ix).mono ?_); rintro e w7 ⟨rfl, hb7⟩; replace S5 := S5.keep hb7; replace G5 := Blk.keep G5 hb7; replace pp := hks.out _ _ hb7 pp; clear hb7); refine hK.out _ _ ⟨S5.A.cell, G5.cell, pp⟩ (fun hHeld2 => ?_); clear hK K hHeld; have hHeld := hHeld2; clear hHeld2; (try simp only [Act.put, List.setIfInBounds_toArray, List.set_cons_zero, List.set_cons_succ]))
  (refine take_op (i := 15) (v := ?_) rfl (by kernel_rfl) (by kernel_rfl) (by kernel_rfl) (fun _ _ _ h => h) (by rfl) ?_ hHeld ?_; rotate_left; (· (intro wS hSw; (try dsimp only at hSw); go_simp; first | done | with_reducible rfl)); simp only [Act.put, List.setIfInBounds_toArray, List.set_cons_zero, List.set_cons_succ]); (refine take_op (i := 16) (v := ?_) rfl (by kernel_rfl) (by kernel_rfl) (by kernel_rfl) (fun _ _ _ h => h) (by rfl) ?_ hHeld ?_; rotate_left; (· (intro wS hSw; (try dsimp only at hSw); go_simp; first | done | with_reducible rfl)); simp only [Act.put, List.setIfInBounds_toArray, List.set_cons_zero, List.set_cons_succ]); (refine take_op (i := 17) (v := ?_) rfl (by kernel_rfl) (by kernel_rfl) (by kernel_rfl) (fun _ _ _ h => h) (by rfl) ?_ hHeld ?_; rotate_left; (· (intro wS hSw; (try dsimp only at hSw); go_simp; first | done | with_reducible rfl)); simp only [Act.put, List.setIfInBounds_toArray, List.set_cons_zero, List.set_cons_succ]); (refine take_op (i := 18) (v := ?_) rfl (by kernel_rfl) (by kernel_rfl) (by kernel_rfl) (fun _ _ _ h => h) (by rfl) ?_ hHeld ?_; rotate_left; (· (intro wS hSw; (try dsimp only at hSw); go_simp; first | done | with_reducible rfl)); simp only [Act.put, List.setIfInBounds_toArray, List.set_cons_zero, List.set_cons_succ])
  (refine call_op (i := 19) rfl (by kernel_rfl) (by rfl) (fun K hK => ?_); go_simp; (go_at_call 14; (with_reducible refine (Hl.out _ _ _ S5.ix).mono ?_); rintro e w8 ⟨rfl, hb8⟩; replace S5 := S5.keep hb8; replace G5 := Blk.keep G5 hb8; replace pp := hks.out _ _ hb8 pp; clear hb8); refine hK.out _ _ ⟨S5.A.cell, G5.cell, pp⟩ (fun hHeld2 => ?_); clear hK K hHeld; have hHeld := hHeld2; clear hHeld2; (try simp only [Act.put, List.setIfInBounds_toArray, List.set_cons_zero, List.set_cons_succ]))
  (refine take_op (i := 20) (v := ?_) rfl (by kernel_rfl) (by kernel_rfl) (by kernel_rfl) (fun _ _ _ h => h) (by rfl) ?_ hHeld ?_; rotate_left; (· (intro wS hSw; (try dsimp only at hSw); go_simp; first | done | with_reducible rfl)); simp only [Act.put, List.setIfInBounds_toArray, List.set_cons_zero, List.set_cons_succ]); (refine take_op (i := 21) (v := ?_) rfl (by kernel_rfl) (by kernel_rfl) (by kernel_rfl) (fun _ _ _ h => h) (by rfl) ?_ hHeld ?_; rotate_left; (· (intro wS hSw; (try dsimp only at hSw); go_simp; first | done | with_reducible rfl)); simp only [Act.put, List.setIfInBounds_toArray, List.set_cons_zero, List.set_cons_succ]); (refine take_op (i := 22) (v := ?_) rfl (by kernel_rfl) (by kernel_rfl) (by kernel_rfl) (fun _ _ _ h => h) (by rfl) ?_ hHeld ?_; rotate_left; (· (intro wS hSw; (try dsimp only at hSw); go_simp; first | done | with_reducible rfl)); simp only [Act.put, List.setIfInBounds_toArray, List.set_cons_zero, List.set_cons_succ])
  (refine wpAnyH_done (by kernel_rfl) ?_ _)
  clear hHeld hks Hs Hl
  go_wp2_with fail
  go_ret
  exact ⟨rfl, S5.hb⟩
end Go.Proofs.Ytpdfbkkhmfnnjaa

namespace Go.Proofs.Ytpdfbkkhmfnnjaa
open Go.RowKit
set_option linter.unusedVariables false
set_option linter.unusedSimpArgs false
set_option maxRecDepth 20000
attribute [local go_sem ↓] Go.wp_at_zero Go.wp_at_succ
attribute [local go_sem] World.cell?_alloc_some frozen_alloc_some
attribute [local go_sem ↓ high] id_neq_run id_eql_run
open Go.Maps

theorem ckeys_comm (ka : Int) (ya : ByteArray) (kb : Int) (yb : ByteArray) : ckeys ka ya kb yb = ckeys kb yb ka ya := by
  unfold ckeys
  rw [Bool.or_assoc, Bool.or_assoc, Bool.or_comm (ka == 5 && isPre yb ya)]
  congr 1
  by_cases h : ya = yb <;> simp [h, eq_comm]
theorem cmeet_comm (ka ca : Int) (ya : ByteArray) (kb cb : Int) (yb : ByteArray) : cmeet ka ca ya kb cb yb = cmeet kb cb yb ka ca ya := by
  unfold cmeet
  rw [ckeys_comm ka ya kb yb, Bool.or_comm (cwrites ka)]
  by_cases h1 : ka = 0 <;> by_cases h2 : kb = 0 <;> by_cases h3 : ka = 6 <;> by_cases h4 : kb = 6 <;> by_cases h5 : ca = cb <;> simp [h1, h2, h3, h4, h5, eq_comm]
/-- The four that are boxed. -/
structure IM (w : World) (a1 a2 b1 b2 : Int) (c d : CmdT) (W : World) : Prop where
  hb : Below w.heap.size w W
  A : Blk W w.heap.size 26 #[.int .i64 a1, .int .i64 a2]
  B : Blk W (w.heap.size + 1) 26 #[.int .i64 b1, .int .i64 b2]
  C : Blk W (w.heap.size + 1 + 1) 24 #[.int .i64 c.kind, .int .i64 c.client, .int .i64 c.seq, .string c.key, .string c.val, .int .i64 c.rev]
  D : Blk W (w.heap.size + 1 + 1 + 1) 24 #[.int .i64 d.kind, .int .i64 d.client, .int .i64 d.seq, .string d.key, .string d.val, .int .i64 d.rev]
theorem IM.keep {w W W' : World} {a1 a2 b1 b2 : Int} {c d : CmdT} (h : IM w a1 a2 b1 b2 c d W) (hb : Below W.heap.size W W') : IM w a1 a2 b1 b2 c d W' := ⟨below_call h.hb hb h.hb.size, h.A.keep hb, h.B.keep hb, h.C.keep hb, h.D.keep hb⟩
/-- .. over a deed of the index, that lies behind them. -/
theorem IM.ixs {w W W' : World} {a1 a2 b1 b2 : Int} {c d : CmdT} {F : Nat → Prop} (h : IM w a1 a2 b1 b2 c d W) (t : Turn F W W') (hF : ∀ k, F k → w.heap.size + 1 + 1 + 1 + 1 ≤ k) : IM w a1 a2 b1 b2 c d W' :=
  ⟨Turn.below h.hb t (fun i hi => by have := hF i hi; omega) h.hb.size, t.blk h.A fun e => by have := hF _ e; omega, t.blk h.B fun e => by have := hF _ e; omega, t.blk h.C fun e => by have := hF _ e; omega, t.blk h.D fun e => by have := hF _ e; omega⟩
abbrev SIM (h : Nat) (cs : Array Value) (g : Nat) (ds : Array Value) (k : Nat) (es : Array Value) (wx : World) : Prop := (∀ i, wx.cell? ⟨h, i, none⟩ = cs[i]?) ∧ (∀ i, wx.cell? ⟨g, i, none⟩ = ds[i]?) ∧ ∀ i, wx.cell? ⟨k, i, none⟩ = es[i]?
def NewP (W : World) (e : Ending) (w' : World) : Prop := ∃ g F, e = .returned (.pointer (some ⟨g, 0, none⟩)) ∧ IxAt w' F g [] 0 ∧ (∀ k, F k → W.heap.size ≤ k) ∧ Below W.heap.size W w'
theorem ixnewP_any (W : World) : Calls Try.prog 10 #[] W (NewP W) := (ixnew_any W).mono fun e w' ⟨h1, h2, h3⟩ => ⟨_, _, h1, h2, fun k hk => hk.1, h3⟩
set_option maxHeartbeats 16000000 in
theorem indexmeets_walk (a1 a2 b1 b2 : Int) (c d : CmdT) (s : Int) (w : World) (wa : wfI (a1, a2)) (wb : wfI (b1, b2)) (hc : c.Ok) (hd : d.Ok) (hs : (Lit.int .i64 s).wf = true) :
    Calls Try.prog 5 #[.agg #[.int .i64 a1, .int .i64 a2], .agg #[.int .i64 b1, .int .i64 b2], c.v, d.v, .int .i64 s] w (Gives w (.bool true)) := by
  have haw := fun W => awake17_any W
  have hgc := fun W => great_any c.kind c.client c.seq c.key c.val c.rev W
  have hgd := fun W => great_any d.kind d.client d.seq d.key d.val d.rev W
  have M : IM w a1 a2 b1 b2 c d ((((w.alloc (.cells #[.int .i64 a1, .int .i64 a2] 26)).alloc (.cells #[.int .i64 b1, .int .i64 b2] 26)).alloc (.cells #[.int .i64 c.kind, .int .i64 c.client, .int .i64 c.seq, .string c.key, .string c.val, .int .i64 c.rev] 24)).alloc (.cells #[.int .i64 d.kind, .int .i64 d.client, .int .i64 d.seq, .string d.key, .string d.val, .int .i64 d.rev] 24)) :=
    ⟨by ((repeat' first | with_reducible exact Below.refl _ _ | with_reducible assumption | with_reducible refine Below.alloc ?_ ?_ _ | with_reducible refine Below.setCell ?_ ?_ _ | with_reducible apply Below.drew | with_reducible apply below_drewN | with_reducible refine below_call ?_ (by with_reducible assumption) ?_) <;> (first | omega | (simp; done) | (simp; omega) | (simp at *; omega))), (((Blk.new w _ _).alloc _).alloc _).alloc _, ((blk_newAt (by simp)).alloc _).alloc _, (blk_newAt (by simp)).alloc _, blk_newAt (by simp)⟩
  have ac := M.A.cell
  have bc := M.B.cell
  have cc := M.C.cell
  have dc := M.D.cell
  obtain ⟨G1, hG1⟩ : ∃ G, cgreat c.key c.val = G := ⟨_, rfl⟩
  obtain ⟨G2, hG2⟩ : ∃ G, cgreat d.key d.val = G := ⟨_, rfl⟩
  rw [hG1] at hgc
  rw [hG2] at hgd
  clear hG1 hG2
  unfold CmdT.v
  by_cases hbad : (a1 = b1 ∧ a2 = b2) ∨ s < 0 ∨ 1099511627776 < s ∨ G1 = true ∨ G2 = true
  · cases G1
    · cases G2
      · by_cases hab : a1 = b1 ∧ a2 = b2
        · obtain ⟨rfl, rfl⟩ := hab
          go_enter Try.func5, Try.ntmps5
          go_wp2_with (first | (go_at_call 8; (with_reducible refine (hgc _).mono ?_); rintro e9 w9 ⟨rfl, hb9⟩; replace M := M.keep hb9; clear hb9; clear ac bc cc dc; have ac := M.A.cell; have bc := M.B.cell; have cc := M.C.cell; have dc := M.D.cell) | (go_at_call 8; (with_reducible refine (hgd _).mono ?_); rintro e9 w9 ⟨rfl, hb9⟩; replace M := M.keep hb9; clear hb9; clear ac bc cc dc; have ac := M.A.cell; have bc := M.B.cell; have cc := M.C.cell; have dc := M.D.cell) | (go_at_call 9; (with_reducible refine (haw _).mono ?_); rintro e9 w8 ⟨rfl, hb9⟩; have FB := below_call M.hb hb9 M.hb.size; clear hb9 ac bc cc dc))
          go_ret
          exact ⟨rfl, FB⟩
        · have hne : (a1 == b1 && a2 == b2) = false := by simpa using hab
          by_cases h0 : s < 0
          · go_enter Try.func5, Try.ntmps5
            go_wp2_with (first | (go_at_call 8; (with_reducible refine (hgc _).mono ?_); rintro e9 w9 ⟨rfl, hb9⟩; replace M := M.keep hb9; clear hb9; clear ac bc cc dc; have ac := M.A.cell; have bc := M.B.cell; have cc := M.C.cell; have dc := M.D.cell) | (go_at_call 8; (with_reducible refine (hgd _).mono ?_); rintro e9 w9 ⟨rfl, hb9⟩; replace M := M.keep hb9; clear hb9; clear ac bc cc dc; have ac := M.A.cell; have bc := M.B.cell; have cc := M.C.cell; have dc := M.D.cell) | (go_at_call 9; (with_reducible refine (haw _).mono ?_); rintro e9 w8 ⟨rfl, hb9⟩; have FB := below_call M.hb hb9 M.hb.size; clear hb9 ac bc cc dc))
            all_goals
              go_ret
              exact ⟨rfl, FB⟩
          · have h1 : 1099511627776 < s := by simp [hab, h0] at hbad; exact hbad
            go_enter Try.func5, Try.ntmps5
            go_wp2_with (first | (go_at_call 8; (with_reducible refine (hgc _).mono ?_); rintro e9 w9 ⟨rfl, hb9⟩; replace M := M.keep hb9; clear hb9; clear ac bc cc dc; have ac := M.A.cell; have bc := M.B.cell; have cc := M.C.cell; have dc := M.D.cell) | (go_at_call 8; (with_reducible refine (hgd _).mono ?_); rintro e9 w9 ⟨rfl, hb9⟩; replace M := M.keep hb9; clear hb9; clear ac bc cc dc; have ac := M.A.cell; have bc := M.B.cell; have cc := M.C.cell; have dc := M.D.cell) | (go_at_call 9; (with_reducible refine (haw _).mono ?_); rintro e9 w8 ⟨rfl, hb9⟩; have FB := below_call M.hb hb9 M.hb.size; clear hb9 ac bc cc dc))
            all_goals
              go_ret
              exact ⟨rfl, FB⟩
      · go_enter Try.func5, Try.ntmps5
        go_wp2_with (first | (go_at_call 8; (with_reducible refine (hgc _).mono ?_); rintro e9 w9 ⟨rfl, hb9⟩; replace M := M.keep hb9; clear hb9; clear ac bc cc dc; have ac := M.A.cell; have bc := M.B.cell; have cc := M.C.cell; have dc := M.D.cell) | (go_at_call 8; (with_reducible refine (hgd _).mono ?_); rintro e9 w9 ⟨rfl, hb9⟩; replace M := M.keep hb9; clear hb9; clear ac bc cc dc; have ac := M.A.cell; have bc := M.B.cell; have cc := M.C.cell; have dc := M.D.cell) | (go_at_call 9; (with_reducible refine (haw _).mono ?_); rintro e9 w8 ⟨rfl, hb9⟩; have FB := below_call M.hb hb9 M.hb.size; clear hb9 ac bc cc dc))
        go_ret
        exact ⟨rfl, FB⟩
    · go_enter Try.func5, Try.ntmps5
      go_wp2_with (first | (go_at_call 8; (with_reducible refine (hgc _).mono ?_); rintro e9 w9 ⟨rfl, hb9⟩; replace M := M.keep hb9; clear hb9; clear ac bc cc dc; have ac := M.A.cell; have bc := M.B.cell; have cc := M.C.cell; have dc := M.D.cell) | (go_at_call 8; (with_reducible refine (hgd _).mono ?_); rintro e9 w9 ⟨rfl, hb9⟩; replace M := M.keep hb9; clear hb9; clear ac bc cc dc; have ac := M.A.cell; have bc := M.B.cell; have cc := M.C.cell; have dc := M.D.cell) | (go_at_call 9; (with_reducible refine (haw _).mono ?_); rintro e9 w8 ⟨rfl, hb9⟩; have FB := below_call M.hb hb9 M.hb.size; clear hb9 ac bc cc dc))
      go_ret
      exact ⟨rfl, FB⟩
  · have hab : ¬ (a1 = b1 ∧ a2 = b2) := fun h => hbad (.inl h)
    have hne : (a1 == b1 && a2 == b2) = false := by simpa using hab
    have h0 : ¬ s < 0 := fun h => hbad (.inr (.inl h))
    have h1 : ¬ 1099511627776 < s := fun h => hbad (.inr (.inr (.inl h)))
    obtain rfl : G1 = false := by cases G1; rfl; exact absurd (.inr (.inr (.inr (.inl rfl)))) hbad
    obtain rfl : G2 = false := by cases G2; rfl; exact absurd (.inr (.inr (.inr (.inr rfl)))) hbad
    clear hbad
    obtain ⟨Q, hQ⟩ : ∃ Q, cmeet c.kind c.client c.key d.kind d.client d.key = Q := ⟨_, rfl⟩
    have hm1 : meetE d (b1, b2) ⟨(a1, a2), c, s⟩ = Q := by
      have hx : (a1, a2) ≠ (b1, b2) := fun h => hab (by simpa using h)
      simp only [meetE, cmeet_comm d.kind, hQ]
      simp [hx]
    have hm2 : meetE c (a1, a2) ⟨(a1, a2), c, s⟩ = false := by simp [meetE]
    have hy : ∀ e : EntT, putE [] e = [e] := fun _ => rfl
    have hp := fun F g W (h : IxAt W F g [] 0) => ixput_any F g 0 [] a1 a2 c s W h wa hc hs (by omega)
    rw [hy] at hp
    have hd1 := fun F g W (h : IxAt W F g [⟨(a1, a2), c, s⟩] (0 + 1)) => ixdeps_any F g _ _ d b1 b2 W h hd (by omega)
    have hd2 := fun F g W (h : IxAt W F g [⟨(a1, a2), c, s⟩] (0 + 1)) => ixdeps_any F g _ _ c a1 a2 W h hc (by omega)
    have hs1 := fun F g W (h : IxAt W F g [⟨(a1, a2), c, s⟩] (0 + 1)) => ixseq_any F g _ _ d b1 b2 W h hd (by omega) (fun e he => by simp at he; subst he; simp only; omega)
    have hs2 := fun F g W (h : IxAt W F g [⟨(a1, a2), c, s⟩] (0 + 1)) => ixseq_any F g _ _ c a1 a2 W h hc (by omega) (fun e he => by simp at he; subst he; simp only; omega)
    have eD1 : depsE [⟨(a1, a2), c, s⟩] d (b1, b2) = if Q = true then [(a1, a2)] else [] := by
      unfold depsE
      rw [List.filter_cons, hm1]
      cases Q <;> rfl
    have eD2 : depsE [⟨(a1, a2), c, s⟩] c (a1, a2) = [] := by
      unfold depsE
      rw [List.filter_cons, hm2]
      rfl
    have eS1 : seqE [⟨(a1, a2), c, s⟩] d (b1, b2) = if Q = true then s + 1 else 1 := by
      unfold seqE
      rw [List.filter_cons, hm1]
      cases Q
      · rfl
      · simp only [if_true, maxE, List.filter_nil, List.foldl_cons, List.foldl_nil]; omega
    have eS2 : seqE [⟨(a1, a2), c, s⟩] c (a1, a2) = 1 := by
      unfold seqE
      rw [List.filter_cons, hm2]
      rfl
    unfold DepsP at hd1 hd2
    rw [eD1] at hd1
    rw [eD2] at hd2
    rw [eS1] at hs1
    rw [eS2] at hs2
    have hmt := fun W => meet_any c.kind c.client c.seq c.key c.val c.rev d.kind d.client d.seq d.key d.val d.rev W
    rw [hQ] at hmt
    have hhas : ∀ A l cp W, IdsAt W A l (if Q = true then [(a1, a2)] else []) → l ≤ 1000000 → Calls Try.prog 22 #[.slice A l cp, .agg #[.int .i64 a1, .int .i64 a2]] W (Gives W (.bool Q)) := fun A l cp W h hl => by
      have := has2_any A l cp _ a1 a2 W h (by cases Q <;> simp [Asc]) hl
      cases Q
      · simpa using this
      · simpa using this
    unfold CmdT.v at hp hd1 hd2 hs1 hs2
    have Hp := Lib.hid hp
    have Hd1 := Lib.hid hd1
    have Hd2 := Lib.hid hd2
    have Hs1 := Lib.hid hs1
    have Hs2 := Lib.hid hs2
    have Hhas := Lib.hid hhas
    have hnew := fun W => ixnewP_any W
    clear hp hd1 hd2 hs1 hs2 hhas eD1 eD2 eS1 eS2 hm1 hm2 hy wa wb hc hd hs hQ
    go_enter Try.func5, Try.ntmps5
    go_upto_region 4 with (first | (go_at_call 8; (with_reducible refine (hgc _).mono ?_); rintro e9 w9 ⟨rfl, hb9⟩; replace M := M.keep hb9; clear hb9; clear ac bc cc dc; have ac := M.A.cell; have bc := M.B.cell; have cc := M.C.cell; have dc := M.D.cell) | (go_at_call 8; (with_reducible refine (hgd _).mono ?_); rintro e9 w9 ⟨rfl, hb9⟩; replace M := M.keep hb9; clear hb9; clear ac bc cc dc; have ac := M.A.cell; have bc := M.B.cell; have cc := M.C.cell; have dc := M.D.cell) | (go_at_call 10; (with_reducible refine (hnew _).mono ?_); rintro e9 w9 ⟨g, F, rfl, X, hF, hb9⟩; have hl4 := M.D.lt; replace M := M.keep hb9; clear hb9; clear ac bc cc dc; have ac := M.A.cell; have bc := M.B.cell; have cc := M.C.cell; have dc := M.D.cell))
    have hF4 : ∀ k, F k → w.heap.size + 1 + 1 + 1 + 1 ≤ k := fun k hk => by have := hF k hk; omega
    go_upto_region 5 with (go_at_call 12; (with_reducible refine (Hp.out _ _ _ X).mono ?_); rintro e9 w3 hd3; obtain rfl := hd3.1; obtain ⟨_, F2, X2, hF2, t2⟩ := hd3; have hD4 := M.D.lt; replace M := M.ixs t2 hF4; clear ac bc cc dc; have ac := M.A.cell; have bc := M.B.cell; have cc := M.C.cell; have dc := M.D.cell)
    clear X hF hF4 hF2 t2 hD4 hl4 Hp hgc hgd hnew ac bc cc dc
    replace M := M.keep (Below.refl _ _).drew
    have X := X2.keep (Below.refl _ _).drew
    clear X2
    (refine wp_region_held_drew (S := (SIM w.heap.size #[.int .i64 a1, .int .i64 a2] (w.heap.size + 1) #[.int .i64 b1, .int .i64 b2] (w.heap.size + 1 + 1 + 1) #[.int .i64 d.kind, .int .i64 d.client, .int .i64 d.seq, .string d.key, .string d.val, .int .i64 d.rev])) (by kernel_rfl) ?_ (fun hHeld => ?_); (· exact ⟨M.A.cell, M.B.cell, M.D.cell⟩))
    (refine take_op (i := 0) (v := ?_) rfl (by kernel_rfl) (by kernel_rfl) (by kernel_rfl) (fun _ _ _ h => h) (by rfl) ?_ hHeld ?_; rotate_left; (· (intro wS hSw; (try dsimp only at hSw); go_simp; first | done | with_reducible rfl)); simp only [Act.put, List.setIfInBounds_toArray, List.set_cons_zero, List.set_cons_succ]); (refine take_op (i := 1) (v := ?_) rfl (by kernel_rfl) (by kernel_rfl) (by kernel_rfl) (fun _ _ _ h => h) (by rfl) ?_ hHeld ?_; rotate_left; (· (intro wS hSw; (try dsimp only at hSw); go_simp; first | done | with_reducible rfl)); simp only [Act.put, List.setIfInBounds_toArray, List.set_cons_zero, List.set_cons_succ]); (refine take_op (i := 2) (v := ?_) rfl (by kernel_rfl) (by kernel_rfl) (by kernel_rfl) (fun _ _ _ h => h) (by rfl) ?_ hHeld ?_; rotate_left; (· (intro wS hSw; (try dsimp only at hSw); go_simp; first | done | with_reducible rfl)); simp only [Act.put, List.setIfInBounds_toArray, List.set_cons_zero, List.set_cons_succ]); (refine take_op (i := 4) (v := ?_) rfl (by kernel_rfl) (by kernel_rfl) (by kernel_rfl) (fun _ _ _ h => h) (by rfl) ?_ hHeld ?_; rotate_left; (· (intro wS hSw; (try dsimp only at hSw); go_simp; first | done | with_reducible rfl)); simp only [Act.put, List.setIfInBounds_toArray, List.set_cons_zero, List.set_cons_succ])
    (refine call_op (i := 3) rfl (by kernel_rfl) (by rfl) (fun K hK => ?_); go_simp; (go_at_call 16; (with_reducible refine (Hd1.out _ _ _ X).mono ?_); rintro e9 w5 ⟨A5, c5, rfl, I5, hb9⟩; replace M := M.keep hb9; replace X := X.keep hb9; clear hb9); refine hK.out _ _ ⟨M.A.cell, M.B.cell, M.D.cell⟩ (fun hHeld2 => ?_); clear hK K hHeld; have hHeld := hHeld2; clear hHeld2; (try simp only [Act.put, List.setIfInBounds_toArray, List.set_cons_zero, List.set_cons_succ]))
    (refine call_op (i := 5) rfl (by kernel_rfl) (by rfl) (fun K hK => ?_); go_simp; (go_at_call 22; (with_reducible refine (Hhas.out _ _ _ _ I5 (by cases Q <;> simp)).mono ?_); rintro e9 w6 ⟨rfl, hb9⟩; replace M := M.keep hb9; replace X := X.keep hb9; clear hb9); refine hK.out _ _ ⟨M.A.cell, M.B.cell, M.D.cell⟩ (fun hHeld2 => ?_); clear hK K hHeld; have hHeld := hHeld2; clear hHeld2; (try simp only [Act.put, List.setIfInBounds_toArray, List.set_cons_zero, List.set_cons_succ]))
    (refine take_op (i := 6) (v := ?_) rfl (by kernel_rfl) (by kernel_rfl) (by kernel_rfl) (fun _ _ _ h => h) (by rfl) ?_ hHeld ?_; rotate_left; (· (intro wS hSw; (try dsimp only at hSw); go_simp; first | done | with_reducible rfl)); simp only [Act.put, List.setIfInBounds_toArray, List.set_cons_zero, List.set_cons_succ])
    (refine wpAnyH_done (by kernel_rfl) ?_ _)
    clear hHeld I5 Hd1 Hhas
    have ac := M.A.cell
    have bc := M.B.cell
    have cc := M.C.cell
    have dc := M.D.cell
    cases Q
    · simp only [Bool.false_eq_true, if_false] at Hs1
      go_wp2_with (first | (go_at_call 23; (with_reducible refine (hmt _).mono ?_); rintro e9 w9 ⟨rfl, hb9⟩; replace M := M.keep hb9; replace X := X.keep hb9; clear hb9; clear ac bc cc dc; have ac := M.A.cell; have bc := M.B.cell; have cc := M.C.cell; have dc := M.D.cell) | (go_at_call 18; (with_reducible refine (Hs1.out _ _ _ X).mono ?_); rintro e9 w9 ⟨rfl, hb9⟩; replace M := M.keep hb9; replace X := X.keep hb9; clear hb9; clear ac bc cc dc; have ac := M.A.cell; have bc := M.B.cell; have cc := M.C.cell; have dc := M.D.cell) | (go_at_call 18; (with_reducible refine (Hs2.out _ _ _ X).mono ?_); rintro e9 w9 ⟨rfl, hb9⟩; replace M := M.keep hb9; replace X := X.keep hb9; clear hb9; clear ac bc cc dc; have ac := M.A.cell; have bc := M.B.cell; have cc := M.C.cell; have dc := M.D.cell) | (go_at_call 16; (with_reducible refine (Hd2.out _ _ _ X).mono ?_); rintro e9 w7 ⟨A7, c7, rfl, I7, hb9⟩; replace M := M.keep hb9; replace X := X.keep hb9; clear hb9 I7; clear ac bc cc dc; have ac := M.A.cell; have bc := M.B.cell; have cc := M.C.cell; have dc := M.D.cell) | (go_at_call 9; (with_reducible refine (haw _).mono ?_); rintro e9 w8 ⟨rfl, hb9⟩; have FB := below_call M.hb hb9 M.hb.size; clear hb9 ac bc cc dc))
      go_ret
      exact ⟨rfl, FB⟩
    · simp only [if_true] at Hs1
      have hwr : IntKind.i64.wrap (s + 1) = s + 1 := IntWalk.i64_in _ (by omega)
      have hle : ¬ s + 1 ≤ s := by omega
      go_wp2_with (first | (go_at_call 23; (with_reducible refine (hmt _).mono ?_); rintro e9 w9 ⟨rfl, hb9⟩; replace M := M.keep hb9; replace X := X.keep hb9; clear hb9; clear ac bc cc dc; have ac := M.A.cell; have bc := M.B.cell; have cc := M.C.cell; have dc := M.D.cell) | (go_at_call 18; (with_reducible refine (Hs1.out _ _ _ X).mono ?_); rintro e9 w9 ⟨rfl, hb9⟩; replace M := M.keep hb9; replace X := X.keep hb9; clear hb9; clear ac bc cc dc; have ac := M.A.cell; have bc := M.B.cell; have cc := M.C.cell; have dc := M.D.cell) | (go_at_call 18; (with_reducible refine (Hs2.out _ _ _ X).mono ?_); rintro e9 w9 ⟨rfl, hb9⟩; replace M := M.keep hb9; replace X := X.keep hb9; clear hb9; clear ac bc cc dc; have ac := M.A.cell; have bc := M.B.cell; have cc := M.C.cell; have dc := M.D.cell) | (go_at_call 16; (with_reducible refine (Hd2.out _ _ _ X).mono ?_); rintro e9 w7 ⟨A7, c7, rfl, I7, hb9⟩; replace M := M.keep hb9; replace X := X.keep hb9; clear hb9 I7; clear ac bc cc dc; have ac := M.A.cell; have bc := M.B.cell; have cc := M.C.cell; have dc := M.D.cell) | (go_at_call 9; (with_reducible refine (haw _).mono ?_); rintro e9 w8 ⟨rfl, hb9⟩; have FB := below_call M.hb hb9 M.hb.size; clear hb9 ac bc cc dc))
      go_ret
      exact ⟨rfl, FB⟩
end Go.Proofs.Ytpdfbkkhmfnnjaa
