/- The walk of the law LogWrites. -/
import Derived.Test.YtpdlhcfepafjeaaLogWrite
import Derived.WalkKit
import Derived.WalkSpells
import Derived.WalkLawsBesides
import Derived.Deep.RegionHeld3
import Derived.Deep.DrawnRows
import Derived.Deep.DeepCutAuto
import Derived.Deep.DeepFit
import Derived.Lib.Hide
import Derived.BigQuiet
import Derived.Deep.QuietTactic
namespace Go.Proofs.Ytpdlhcfepafjeaa
open Go.RowKit
set_option linter.unusedVariables false
set_option linter.unusedSimpArgs false
set_option maxRecDepth 20000
attribute [local go_sem ↓] Go.wp_at_zero Go.wp_at_succ
attribute [local go_sem] World.cell?_alloc_some frozen_alloc_some
open Go.Sort Go.Lib Go.Shelf Go.Maps
abbrev nF : NmT := [108, 111, 103, 46, 102, 105, 120]
theorem nm_F : isNm nF = true := by decide
/-- The four deeds of a write: what it answers, and the disk behind it. -/
def wr1 (d : DkT) : Int × DkT := deedD d (fun l => remC l nF)
def wr2 (d : DkT) (p : List Nat) : Int × DkT := deedD d (fun l => appC d.room l nF p)
def wr3 (d : DkT) : Int × DkT := deedD d (fun l => syncC l nF)
def wr4 (d : DkT) : Int × DkT := deedD d (fun l => moveC l nF nL)
def wrR (v1 v2 v3 v4 : Int) : Int := if (if v1 = 8 then 0 else v1) ≠ 0 then (if v1 = 8 then 0 else v1) else if v2 ≠ 0 then v2 else if v3 ≠ 0 then v3 else v4
def wrD (v1 v2 v3 : Int) (d1 d2 d3 d4 : DkT) : DkT := if (if v1 = 8 then 0 else v1) ≠ 0 then d1 else if v2 ≠ 0 then d2 else if v3 ≠ 0 then d3 else d4
def wrD2 (d : DkT) (p : List Nat) : DkT := (wr2 (wr1 d).2 p).2
/-- The whole of it. -/
def wrE (d : DkT) (p : List Nat) : Int × DkT :=
  (wrR (wr1 d).1 (wr2 (wr1 d).2 p).1 (wr3 (wrD2 d p)).1 (wr4 (wr3 (wrD2 d p)).2).1, wrD (wr1 d).1 (wr2 (wr1 d).2 p).1 (wr3 (wrD2 d p)).1 (wr1 d).2 (wrD2 d p) (wr3 (wrD2 d p)).2 (wr4 (wr3 (wrD2 d p)).2).2)
theorem app_none (l : List DF) (p : List Nat) (hl : l = [] ∨ ∃ x k, l = [(nL, x, k)]) (h : totD l + p.length ≤ 10000) : appC 10000 l nF p = (0, l ++ [(nF, p, 0)]) := by
  unfold appC
  rw [if_neg (by rw [nm_F]; decide), if_neg (by omega)]
  rcases hl with rfl | ⟨x, k, rfl⟩ <;> rfl
theorem wr_first (p : List Nat) (h : p.length ≤ 1050) : wrE (newD 10000) p = (0, ⟨[(nL, p, p.length)], 10000, -1, false⟩) := by
  have e1 : wr1 (newD 10000) = (8, newD 10000) := rfl
  have e2 : wr2 (newD 10000) p = (0, ⟨[(nF, p, 0)], 10000, -1, false⟩) := by
    unfold wr2 deedD
    rw [if_neg (by simp [newD])]
    have := app_none [] p (.inl rfl) (by simp [totD]; omega)
    simp only [newD] at this ⊢
    have e : max (10000 : Int) 0 = 10000 := by decide
    rw [e, this]
    rfl
  have e3 : wr3 ⟨[(nF, p, 0)], 10000, -1, false⟩ = (0, ⟨[(nF, p, p.length)], 10000, -1, false⟩) := rfl
  have e4 : wr4 ⟨[(nF, p, p.length)], 10000, -1, false⟩ = (0, ⟨[(nL, p, p.length)], 10000, -1, false⟩) := rfl
  unfold wrE wrD2
  simp only [e1, e2, e3, e4]
  rfl
/-- The fuse burns at some deed, or not at all. -/
def wrF (a : List Nat) (f : Int) : DkT := ⟨[(nL, a, a.length)], 10000, f, false⟩
theorem wr_app (a b : List Nat) (f : Int) (hf : f ≠ 0) (ha : a.length ≤ 1050) (hb : b.length ≤ 1050) : wr2 (wrF a f) b = (0, ⟨[(nL, a, a.length), (nF, b, 0)], 10000, if 0 < f then f - 1 else f, false⟩) := by
  have h1 := app_none [(nL, a, a.length)] b (.inr ⟨a, a.length, rfl⟩) (by simp [totD]; omega)
  unfold wr2 deedD wrF
  rw [if_neg (by simp [hf])]
  simp only [h1]
  rfl
theorem wr_boot1 (a : List Nat) (k : Int) : (bootF (nL, a, a.length) [k]) = ((nL, a, a.length), [k]) := by
  unfold bootF; simp
theorem wr_read1 (l : List DF) (a : List Nat) (n : Nat) (r fu : Int) : readD ⟨(nL, a, n) :: l, r, fu, false⟩ nL = (some a, 0) := by
  unfold readD
  rw [if_neg (by simp)]
  simp [findBy]
theorem wr_second (a b : List Nat) (f : Nat) (keep : Int) (hf : f < 6) (ha : a.length ≤ 1050) (hb : b.length ≤ 1050) :
    ∃ v l, (wrE (wrF a f) b).1 = v ∧ readD (bootD (wrE (wrF a f) b).2 [keep]) nL = (some l, 0) ∧ ((v = 0 ∧ l = b) ∨ (v = 15 ∧ l = a)) := by
  match f, hf with
  | 0, _ =>
    refine ⟨15, a, rfl, ?_, .inr ⟨rfl, rfl⟩⟩
    have e : bootD (wrE (wrF a ((0 : Nat) : Int)) b).2 [keep] = ⟨[(bootF (nL, a, a.length) [keep]).1], 10000, -1, false⟩ := rfl
    rw [e, wr_boot1]
    exact wr_read1 ..
  | 1, _ =>
    have e1 : wr1 (wrF a ((1 : Nat) : Int)) = (8, wrF a 0) := rfl
    refine ⟨15, a, ?_, ?_, .inr ⟨rfl, rfl⟩⟩
    · unfold wrE wrD2; simp only [e1]; rfl
    · have e : bootD (wrE (wrF a ((1 : Nat) : Int)) b).2 [keep] = ⟨[(bootF (nL, a, a.length) [keep]).1], 10000, -1, false⟩ := by
        unfold wrE wrD2; simp only [e1]; rfl
      rw [e, wr_boot1]
      exact wr_read1 ..
  | 2, _ =>
    have e1 : wr1 (wrF a ((2 : Nat) : Int)) = (8, wrF a 1) := rfl
    have e2 := wr_app a b 1 (by decide) ha hb
    refine ⟨15, a, ?_, ?_, .inr ⟨rfl, rfl⟩⟩
    · unfold wrE wrD2; simp only [e1, e2]; rfl
    · have e : bootD (wrE (wrF a ((2 : Nat) : Int)) b).2 [keep] = ⟨(bootF (nL, a, a.length) [keep]).1 :: [(bootF (nF, b, 0) (bootF (nL, a, a.length) [keep]).2).1], 10000, -1, false⟩ := by
        unfold wrE wrD2; simp only [e1, e2]; rfl
      rw [e, wr_boot1]
      exact wr_read1 ..
  | 3, _ =>
    have e1 : wr1 (wrF a ((3 : Nat) : Int)) = (8, wrF a 2) := rfl
    have e2 := wr_app a b 2 (by decide) ha hb
    have e3 : wr3 ⟨[(nL, a, a.length), (nF, b, 0)], 10000, 1, false⟩ = (0, ⟨[(nL, a, a.length), (nF, b, b.length)], 10000, 0, false⟩) := rfl
    rw [show (if (0 : Int) < 2 then (2 : Int) - 1 else 2) = 1 from rfl] at e2
    refine ⟨15, a, ?_, ?_, .inr ⟨rfl, rfl⟩⟩
    · unfold wrE wrD2; simp only [e1, e2, e3]; rfl
    · have e : bootD (wrE (wrF a ((3 : Nat) : Int)) b).2 [keep] = ⟨(bootF (nL, a, a.length) [keep]).1 :: [(bootF (nF, b, b.length) (bootF (nL, a, a.length) [keep]).2).1], 10000, -1, false⟩ := by
        unfold wrE wrD2; simp only [e1, e2, e3]; rfl
      rw [e, wr_boot1]
      exact wr_read1 ..
  | 4, _ =>
    have e1 : wr1 (wrF a ((4 : Nat) : Int)) = (8, wrF a 3) := rfl
    have e2 := wr_app a b 3 (by decide) ha hb
    rw [show (if (0 : Int) < 3 then (3 : Int) - 1 else 3) = 2 from rfl] at e2
    have e3 : wr3 ⟨[(nL, a, a.length), (nF, b, 0)], 10000, 2, false⟩ = (0, ⟨[(nL, a, a.length), (nF, b, b.length)], 10000, 1, false⟩) := rfl
    have e4 : wr4 ⟨[(nL, a, a.length), (nF, b, b.length)], 10000, 1, false⟩ = (0, ⟨[(nL, b, b.length)], 10000, 0, false⟩) := rfl
    refine ⟨0, b, ?_, ?_, .inl ⟨rfl, rfl⟩⟩
    · unfold wrE wrD2; simp only [e1, e2, e3, e4]; rfl
    · have e : bootD (wrE (wrF a ((4 : Nat) : Int)) b).2 [keep] = ⟨[(bootF (nL, b, b.length) [keep]).1], 10000, -1, false⟩ := by
        unfold wrE wrD2; simp only [e1, e2, e3, e4]; rfl
      rw [e, wr_boot1]
      exact wr_read1 ..
  | 5, _ =>
    have e1 : wr1 (wrF a ((5 : Nat) : Int)) = (8, wrF a 4) := rfl
    have e2 := wr_app a b 4 (by decide) ha hb
    rw [show (if (0 : Int) < 4 then (4 : Int) - 1 else 4) = 3 from rfl] at e2
    have e3 : wr3 ⟨[(nL, a, a.length), (nF, b, 0)], 10000, 3, false⟩ = (0, ⟨[(nL, a, a.length), (nF, b, b.length)], 10000, 2, false⟩) := rfl
    have e4 : wr4 ⟨[(nL, a, a.length), (nF, b, b.length)], 10000, 2, false⟩ = (0, ⟨[(nL, b, b.length)], 10000, 1, false⟩) := rfl
    refine ⟨0, b, ?_, ?_, .inl ⟨rfl, rfl⟩⟩
    · unfold wrE wrD2; simp only [e1, e2, e3, e4]; rfl
    · have e : bootD (wrE (wrF a ((5 : Nat) : Int)) b).2 [keep] = ⟨[(bootF (nL, b, b.length) [keep]).1], 10000, -1, false⟩ := by
        unfold wrE wrD2; simp only [e1, e2, e3, e4]; rfl
      rw [e, wr_boot1]
      exact wr_read1 ..

theorem logwrite_e {w W : World} {F : Nat → Prop} {g b : Nat} {d : DkT} {A : Option Addr} {n c : Nat} {ls : List (List Nat)} (L : LS w W F g b d) (h : Texts w A n ls) (hl : ls.length ≤ 10) (hx : ∀ x ∈ ls, x.length ≤ 100) {v : Int} {d' : DkT} (he : wrE d (allF ls) = (v, d')) :
    Calls Try.prog 51 #[.pointer (some ⟨g, 0, none⟩), .string ⟨⟨[108, 111, 103]⟩⟩, .slice A n c] W (LDone w W F g b (.int .i64 v) d') := by
  have h1 : (wrE d (allF ls)).1 = v := by rw [he]
  have h2 : (wrE d (allF ls)).2 = d' := by rw [he]
  rw [← h1, ← h2]
  exact logwrite_any L h hl hx rfl rfl rfl rfl
theorem wr_fuse (a : List Nat) (f : Nat) : fuseD ⟨[(nL, a, a.length)], 10000, -1, false⟩ (f : Int) = wrF a (f : Int) := by
  unfold fuseD wrF
  rw [show max (f : Int) (-1) = f by omega]
set_option maxHeartbeats 4000000 in
theorem logwrites_walk (A : Option Addr) (n c : Nat) (B : Option Addr) (m cb : Nat) (la lb : List (List Nat)) (fuse keep : Int) (w : World) (ha : Texts w A n la) (hb : Texts w B m lb) (hf : (Lit.int .u8 fuse).wf = true) (hk : (Lit.int .i64 keep).wf = true) :
    Calls Try.prog 13 #[.slice A n c, .slice B m cb, .int .u8 fuse, .int .i64 keep] w (Gives w (.bool true)) := by
  have hAw : ∀ W, Calls Try.prog 14 #[] W (Gives W (.bool true)) := awake13
  have ga : ∀ W, Below w.heap.size w W → Calls Try.prog 47 #[.slice A n c, .int .i64 10, .int .i64 100] W (Gives W (.bool (greatL la))) := fun W h => great13_any A n c la W (ha.keep h)
  have gb : ∀ W, Below w.heap.size w W → Calls Try.prog 47 #[.slice B m cb, .int .i64 10, .int .i64 100] W (Gives W (.bool (greatL lb))) := fun W h => great13_any B m cb lb W (hb.keep h)
  by_cases h1 : greatL la = true
  · rw [h1] at ga
    clear ha hb gb
    go_enter Try.func13, Try.ntmps13
    go_wp2_with (first
      | (go_at_call 47; refine (ga _ (Below.refl _ _)).mono ?_; rintro e w1 ⟨rfl, hb1⟩; have hz1 := hb1.size)
      | (go_at_call 14; refine (hAw _).mono ?_; rintro e w2 ⟨rfl, hb2⟩; have hz2 := hb2.size))
    go_ret
    exact ⟨rfl, by ((repeat' first | with_reducible exact Below.refl _ _ | with_reducible assumption | with_reducible refine Below.alloc ?_ ?_ _ | with_reducible refine Below.setCell ?_ ?_ _ | with_reducible apply Below.drew | with_reducible apply below_drewN | with_reducible refine below_call ?_ (by with_reducible assumption) ?_) <;> (first | omega | (simp; done) | (simp; omega) | (simp at *; omega)))⟩
  have h1f : greatL la = false := by simpa using h1
  rw [h1f] at ga
  by_cases h2 : greatL lb = true
  · rw [h2] at gb
    clear ha hb
    go_enter Try.func13, Try.ntmps13
    go_wp2_with (first
      | (go_at_call 47; refine (ga _ (Below.refl _ _)).mono ?_; clear ga; rintro e w1 ⟨rfl, hb1⟩; have hz1 := hb1.size)
      | (go_at_call 47; refine (gb _ hb1).mono ?_; rintro e w2 ⟨rfl, hb2⟩; have hz2 := hb2.size)
      | (go_at_call 14; refine (hAw _).mono ?_; rintro e w3 ⟨rfl, hb3⟩; have hz3 := hb3.size))
    go_ret
    exact ⟨rfl, by ((repeat' first | with_reducible exact Below.refl _ _ | with_reducible assumption | with_reducible refine Below.alloc ?_ ?_ _ | with_reducible refine Below.setCell ?_ ?_ _ | with_reducible apply Below.drew | with_reducible apply below_drewN | with_reducible refine below_call ?_ (by with_reducible assumption) ?_) <;> (first | omega | (simp; done) | (simp; omega) | (simp at *; omega)))⟩
  have h2f : greatL lb = false := by simpa using h2
  rw [h2f] at gb
  obtain ⟨al, ax⟩ : la.length ≤ 10 ∧ ∀ x ∈ la, x.length ≤ 100 := by unfold greatL at h1f; simpa using h1f
  obtain ⟨bl, bx⟩ : lb.length ≤ 10 ∧ ∀ x ∈ lb, x.length ≤ 100 := by unfold greatL at h2f; simpa using h2f
  have hna := ha.1
  have hnb := hb.1
  subst hna
  subst hnb
  have HA := Lib.hid ha
  have HB := Lib.hid hb
  have AX := Lib.hid ax
  have BX := Lib.hid bx
  have fa := allF_le la ax
  have fb := allF_le lb bx
  have fa1 : (allF la).length ≤ 1050 := by omega
  have fb1 : (allF lb).length ≤ 1050 := by omega
  have FA := Lib.hid fa1
  have FB := Lib.hid fb1
  have sa := Lib.hid (scan_allF la fun x hx => Nat.le_trans (ax x hx) (by omega))
  have sb := Lib.hid (scan_allF lb fun x hx => Nat.le_trans (bx x hx) (by omega))
  clear ha hb h1 h2 h1f h2f ax bx fa fb fa1 fb1
  go_enter Try.func13, Try.ntmps13
  go_upto_region 4 with (first
    | (go_at_call 47; refine (ga _ (Below.refl _ _)).mono ?_; clear ga; rintro e w1 ⟨rfl, hb1⟩; have hz1 := hb1.size)
    | (go_at_call 47; refine (gb _ hb1).mono ?_; clear gb; rintro e w2 ⟨rfl, hb2⟩; have hz2 := hb2.size)
    | (go_at_call 30; (with_reducible refine (dknew_any 10000 _ rfl (by decide)).mono ?_); rintro e w3 ⟨rfl, D3, hb3⟩))
  obtain ⟨F3, L3⟩ := LS.new D3 hb3
  have hb02 : Below w.heap.size w w2 := hb1.trans (hb2.mono hz1)
  have HA2 := Lib.hid (HA.out.keep hb02)
  have HB2 := Lib.hid (HB.out.keep hb02)
  have HB0 := Lib.hid hb02
  clear D3 hb3 hb1 hb2 hz1 hz2 hb02 HA HB
  have p1 := logwrite_e (c := c) L3 HA2.out al AX.out (wr_first _ FA.out)
  have pn : ∀ W, Calls Try.prog 51 #[.pointer none, .string ⟨⟨[108, 111, 103]⟩⟩, .slice A la.length c] W (Gives W (.int .i64 1)) := fun W => logwrite_nil A la.length c W
  obtain ⟨s0, s1⟩ := wf_u8 hf
  obtain ⟨sn, rfl⟩ : ∃ sn : Nat, fuse = (sn : Int) := ⟨fuse.toNat, by omega⟩
  have hs3 : ((sn : Int)).tmod 6 = ((sn % 6 : Nat) : Int) := by rw [Int.tmod_eq_emod_of_nonneg (by omega)]; omega
  have hf6 : sn % 6 < 6 := by omega
  generalize sn % 6 = f at *
  have hwf : (Lit.int .i64 (f : Int)).wf = true := by simp [Lit.wf, IntKind.min, IntKind.max, IntKind.signed, IntKind.bits]; omega
  obtain ⟨v, l, q1, q2, q3⟩ := wr_second (allF la) (allF lb) f keep hf6 FA.out FB.out
  obtain ⟨d2, hd2⟩ : ∃ d2, (wrE (wrF (allF la) (f : Int)) (allF lb)).2 = d2 := ⟨_, rfl⟩
  rw [hd2] at q2
  have hE : wrE (wrF (allF la) (f : Int)) (allF lb) = (v, d2) := Prod.ext q1 hd2
  have HE := Lib.hid hE
  have Q2 := Lib.hid q2
  have Q3 := Lib.hid q3
  clear q1 q2 q3 hd2 hE L3 hf
  go_upto_region 9 with (first
    | (go_at_call 51; (with_reducible refine p1.mono ?_); clear p1; rintro e w4 ⟨rfl, F4, L4, -, -⟩)
    | (go_at_call 51; (with_reducible refine (pn _).mono ?_); clear pn; rintro e w5 ⟨rfl, hb5⟩; have L5 := L4.keep hb5; have pfu := L5.fuse (f : Int) hwf; rw [wr_fuse] at pfu; clear L4 L5)
    | (go_at_call 33; (with_reducible refine pfu.mono ?_); clear pfu; rintro e w6 ⟨rfl, F6, L6, -, -⟩; have p2 := logwrite_e (c := cb) L6 HB2.out bl BX.out HE.out; clear L6)
    | (go_at_call 51; (with_reducible refine p2.mono ?_); clear p2; rintro e w7 ⟨rfl, F7, L7, -, -⟩; have L8 := L7.keep (below_one (.cells #[.int .i64 keep] 3)); have pbt := L8.boot _ 1 1 [keep] (keeps_made keep hk) (Nat.le_refl _) (L7.made (Nat.le_refl _)) rfl; clear L7 L8)
    | (go_at_call 34; (with_reducible refine pbt.mono ?_); clear pbt; rintro e w9 ⟨rfl, F9, L9, -, -⟩))
  rcases Q3.out with ⟨rfl, rfl⟩ | ⟨rfl, rfl⟩
  · have pop2 := logopen_any L9 wf_L Q2.out (.inl rfl) (l := allF lb) rfl (by have := FB.out; omega) (d' := bootD d2 [keep]) (by rw [if_neg (by rw [sb.out.2]; omega)])
    rw [sb.out.1] at pop2
    have HZ := Lib.hid (HB0.out.trans (L9.hb.mono HB0.out.size))
    clear L9
    go_upto_region 10 with (go_at_call 48; (with_reducible refine pop2.mono ?_); clear pop2; rintro e w10 ⟨gl2, v10, F10, rfl, L10, hrow, -, -, -, T10⟩; have R10 := Lib.hid hrow; clear hrow)
    obtain ⟨vs, hr10, hv10⟩ := R10.out
    obtain ⟨A5, c5, rfl⟩ := rows_form hr10
    have t5 := rows_texts hr10 hv10
    have ta := HA2.out.keep L10.hb
    have tb := HB2.out.keep L10.hb
    have hBw : Below w.heap.size w w10 := HB0.out.trans (L10.hb.mono HB0.out.size)
    have HBW := Lib.hid hBw
    have sm := sameall_any A5 B lb.length c5 lb.length cb lb lb w10 t5 tb
    rw [decide_eq_true rfl] at sm
    clear hr10 hv10 t5 ta tb T10 L10 hBw R10
    go_wp2_with (first
      | (go_at_call 16; refine sm.mono ?_; clear sm; rintro e w13 ⟨rfl, hb13⟩; have hz13 := hb13.size)
      | (go_at_call 14; refine (hAw _).mono ?_; rintro e w14 ⟨rfl, hb14⟩; have hz14 := hb14.size))
    go_ret
    exact ⟨rfl, HBW.out.trans ((hb13.trans (hb14.mono hz13)).mono HBW.out.size)⟩
  · have pop2 := logopen_any L9 wf_L Q2.out (.inl rfl) (l := allF la) rfl (by have := FA.out; omega) (d' := bootD d2 [keep]) (by rw [if_neg (by rw [sa.out.2]; omega)])
    rw [sa.out.1] at pop2
    have HZ := Lib.hid (HB0.out.trans (L9.hb.mono HB0.out.size))
    clear L9
    go_upto_region 10 with (go_at_call 48; (with_reducible refine pop2.mono ?_); clear pop2; rintro e w10 ⟨gl2, v10, F10, rfl, L10, hrow, -, -, -, T10⟩; have R10 := Lib.hid hrow; clear hrow)
    obtain ⟨vs, hr10, hv10⟩ := R10.out
    obtain ⟨A5, c5, rfl⟩ := rows_form hr10
    have t5 := rows_texts hr10 hv10
    have ta := HA2.out.keep L10.hb
    have tb := HB2.out.keep L10.hb
    have hBw : Below w.heap.size w w10 := HB0.out.trans (L10.hb.mono HB0.out.size)
    have HBW := Lib.hid hBw
    have sm := sameall_any A5 B la.length c5 lb.length cb la lb w10 t5 tb
    have sm2 := fun W (h : Below w10.heap.size w10 W) => sameall_any A5 A la.length c5 la.length c la la W (t5.keep h) (ta.keep h)
    rw [decide_eq_true rfl] at sm2
    clear hr10 hv10 t5 ta tb T10 L10 hBw R10
    generalize decide (la = lb) = R at sm
    cases R
    · go_wp2_with (first
        | (go_at_call 16; refine sm.mono ?_; clear sm; rintro e w13 ⟨rfl, hb13⟩; have hz13 := hb13.size)
        | (go_at_call 16; refine (sm2 _ hb13).mono ?_; clear sm2; rintro e w15 ⟨rfl, hb15⟩; have hz15 := hb15.size)
        | (go_at_call 14; refine (hAw _).mono ?_; rintro e w14 ⟨rfl, hb14⟩; have hz14 := hb14.size))
      go_ret
      exact ⟨rfl, HBW.out.trans ((hb13.trans ((hb15.trans (hb14.mono hz15)).mono hz13)).mono HBW.out.size)⟩
    · go_wp2_with (first
        | (go_at_call 16; refine sm.mono ?_; clear sm; rintro e w13 ⟨rfl, hb13⟩; have hz13 := hb13.size)
        | (go_at_call 14; refine (hAw _).mono ?_; rintro e w14 ⟨rfl, hb14⟩; have hz14 := hb14.size))
      go_ret
      exact ⟨rfl, HBW.out.trans ((hb13.trans (hb14.mono hz13)).mono HBW.out.size)⟩
end Go.Proofs.Ytpdlhcfepafjeaa
