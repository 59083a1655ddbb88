/- The walk of the law DiskCuts. -/
import Derived.Test.YtpdlhcfepafjeaaAwake12
import Derived.WalkKit
import Derived.WalkSpells
import Derived.WalkLawsBesides
import Derived.Deep.RegionHeld3
import Derived.Deep.DrawnRows
import Derived.Deep.DeepCutAuto
import Derived.Deep.DeepFit
import Derived.Lib.Hide
import Derived.BigQuiet
import Derived.Deep.QuietTactic
import Derived.Deep.RegionHeld3
namespace Go.Proofs.Ytpdlhcfepafjeaa
open Go.RowKit
set_option linter.unusedVariables false
set_option linter.unusedSimpArgs false
set_option maxRecDepth 20000
attribute [local go_sem ↓] Go.wp_at_zero Go.wp_at_succ
attribute [local go_sem] World.cell?_alloc_some frozen_alloc_some
open Go.Maps

/-- A disk of one file. -/
def one (s : NmT) (x : List Nat) (su : Nat) : DkT := ⟨[(s, x, su)], 1000, -1, false⟩
theorem one_new {s : NmT} {x : List Nat} (hs : isNm s = true) (hx : x.length ≤ 1000) : deedD (newD 1000) (fun l => appC (newD 1000).room l s x) = (0, one s x 0) := by
  have h : ¬ ((1000 : Int) - (totD [] : Nat) < (x.length : Int)) := by simp [totD]; omega
  have e : (newD 1000).room = 1000 := rfl
  rw [e]
  have ha : appC 1000 [] s x = (0, [(s, x, 0)]) := by
    unfold appC
    rw [if_neg (by simp [hs]), if_neg h]
    rfl
  show (if (newD 1000).down = true ∨ (newD 1000).fuse = 0 then _ else _) = _
  rw [if_neg (by simp [newD])]
  show ((appC 1000 [] s x).1, ({ newD 1000 with l := (appC 1000 [] s x).2, fuse := _ } : DkT)) = _
  rw [ha]
  rfl
theorem one_find (s : NmT) (x : List Nat) (su : Nat) : findBy Prod.fst s [(s, x, su)] = some (s, x, su) := by simp [findBy]
theorem one_upd (s : NmT) (x : List Nat) (su : Nat) (u : DF → DF) : updBy Prod.fst s u [(s, x, su)] = [u (s, x, su)] := by simp [updBy]
theorem one_deed (s : NmT) (x : List Nat) (su : Nat) (act : List DF → Int × List DF) {c : Int} {l : List DF} (h : act [(s, x, su)] = (c, l)) : deedD (one s x su) act = (c, ⟨l, 1000, -1, false⟩) := by
  unfold deedD one
  rw [if_neg (by simp)]
  simp only [h]
  rfl
theorem one_sync (s : NmT) (x : List Nat) (su : Nat) : deedD (one s x su) (fun l => syncC l s) = (0, one s x x.length) :=
  one_deed s x su _ (by unfold syncC; rw [one_find]; simp only [one_upd])
theorem one_app {s : NmT} {x y : List Nat} {su : Nat} (hs : isNm s = true) (h : x.length + y.length ≤ 1000) : deedD (one s x su) (fun l => appC (one s x su).room l s y) = (0, one s (x ++ y) su) :=
  one_deed s x su _ (by
    have h1 : ¬ ((1000 : Int) - (totD [(s, x, su)] : Nat) < (y.length : Int)) := by simp [totD]; omega
    show appC 1000 _ s y = _
    unfold appC
    rw [if_neg (by simp [hs]), if_neg h1, one_find]
    simp only [one_upd])
theorem one_cut {s : NmT} {x : List Nat} {su n : Nat} (h : n ≤ x.length) : deedD (one s x su) (fun l => cutC l s (n : Int)) = (0, one s (x.take n) n) :=
  one_deed s x su _ (by
    unfold cutC
    rw [one_find]
    simp only [one_upd]
    rw [if_neg (by omega)]
    simp)
theorem one_cut_no {s : NmT} {x : List Nat} {su : Nat} {n : Int} (h : n < 0 ∨ (x.length : Int) < n) : deedD (one s x su) (fun l => cutC l s n) = (6, one s x su) :=
  one_deed s x su _ (by
    unfold cutC
    rw [one_find]
    simp only
    rw [if_pos h])
theorem one_boot {s : NmT} {x : List Nat} (ks : List Int) : bootD (one s x x.length) ks = one s x x.length := by
  unfold bootD one bootL
  simp only [bootGo, bootF]
  rw [if_neg (by simp)]
theorem one_boot2 {s : NmT} {x : List Nat} {n : Nat} (h : x.length = n) (ks : List Int) : bootD (one s x n) ks = one s x n := by subst h; exact one_boot ks
theorem one_read (s : NmT) (x : List Nat) (su : Nat) : readD (one s x su) s = (some x, 0) := by
  unfold readD
  rw [if_neg (by simp [one])]
  simp only [one, one_find]
theorem one_used (s : NmT) (x : List Nat) (su : Nat) : usedD (one s x su) = x.length := by simp [usedD, one, totD]
theorem wf_x : wfN [120] := by unfold wfN maxLen; decide
theorem nm_x : isNm [120] = true := by decide
set_option maxHeartbeats 8000000 in
theorem cuts_walk (A B : Option Addr) (m c mb cb : Nat) (a b : List Nat) (n keep : Int) (w : World) (ha : Bytes w A m a) (hb : Bytes w B mb b) (hn : (Lit.int .i64 n).wf = true) (hk : (Lit.int .i64 keep).wf = true) :
    Calls Try.prog 8 #[.slice A m c, .slice B mb cb, .int .i64 n, .int .i64 keep] w (Gives w (.bool true)) := by
  have haw := fun W => awake12_any W
  obtain rfl : m = a.length := ha.1
  obtain rfl : mb = b.length := hb.1
  by_cases h1 : 100 < a.length
  · have h1' : (100 : Int) < (a.length : Int) := by omega
    clear ha hb
    go_enter Try.func8, Try.ntmps8
    go_wp2_with (go_at_call 29; (with_reducible refine (haw _).mono ?_); rintro e w1 ⟨rfl, hb1⟩)
    go_ret
    exact ⟨rfl, hb1⟩
  have h1' : ¬ (100 : Int) < (a.length : Int) := by omega
  by_cases h2 : 100 < b.length
  · have h2' : (100 : Int) < (b.length : Int) := by omega
    clear ha hb
    go_enter Try.func8, Try.ntmps8
    go_wp2_with (go_at_call 29; (with_reducible refine (haw _).mono ?_); rintro e w1 ⟨rfl, hb1⟩)
    go_ret
    exact ⟨rfl, hb1⟩
  have h2' : ¬ (100 : Int) < (b.length : Int) := by omega
  have HA := Lib.hid ha
  have HB := Lib.hid hb
  clear ha hb
  obtain ⟨i0, hi, hz0, hz1, hz2⟩ := u8info
  go_enter Try.func8, Try.ntmps8
  go_upto_region 4 with (go_at_call 30; (with_reducible refine (dknew_any 1000 _ rfl (by decide)).mono ?_); rintro e w1 ⟨rfl, D1, hb1⟩)
  obtain ⟨F, L⟩ := LS.new D1 hb1
  clear D1 hb1
  have p1 := L.append [120] A a.length c a wf_x (HA.out.keep L.hb) (L.arg HA.out) (by omega) (one_new nm_x (by omega))
  have p2 := fun (F2 : Nat → Prop) (W : World) (L2 : LS w W F2 (w.heap.size + 1) w.heap.size (one [120] a 0)) => L2.sync [120] wf_x (one_sync [120] a 0)
  have p3 := fun (F3 : Nat → Prop) (W : World) (L3 : LS w W F3 (w.heap.size + 1) w.heap.size (one [120] a a.length)) => L3.append [120] B b.length cb b wf_x (HB.out.keep L3.hb) (L3.arg HB.out) (by omega) (one_app nm_x (by omega))
  go_upto_region 6 with (first
    | (go_at_call 32; (with_reducible refine (p2 _ _ L2).mono ?_); rintro e w3 ⟨rfl, F3, L3, -, -⟩; clear L2)
    | (go_at_call 31; (with_reducible refine p1.mono ?_); rintro e w2 ⟨rfl, F2, L2, -, -⟩; clear L p1)
    | (go_at_call 31; (with_reducible refine (p3 _ _ L3).mono ?_); rintro e w4 ⟨rfl, F4, L4, -, -⟩; clear L3))
  clear p2 p3
  have hmade : OwnB (w4.alloc (.cells #[] 5)) w4.heap.size 5 (.slice (some ⟨w4.heap.size, 0, none⟩) 0 0) [] := OwnB.made (Nat.le_refl _)
  have hk4 : Below w4.heap.size w4 (w4.alloc (.cells #[] 5)) := below_one _
  have hsA := Src.of_bytes ((HA.out.keep L4.hb).keep hk4)
  have h256 : Hid ((∀ c ∈ a, c < 256) ∧ ∀ c ∈ b, c < 256) := Lib.hid ⟨HA.out.lt, HB.out.lt⟩
  go_upto_region 7 with (first
    | (have h9 := hmade; clear h9; ((at_builtin; go_loud (refine wpList_app _ rfl (.tmp 39) (.tmp 40) 22 rfl _ 5 i0 _ 1 1 Try.underlying22 hi hz0 hz1 hz2 rfl (by omega) _ _ _ rfl hmade.1 _ _ _ _ rfl hsA ?h63 ?hby ?hbase ?_); (case h63 => (unfold maxLen; first | omega | (simp; done) | (simp; omega))); (case hby => first | omega | (simp; done) | (simp; omega)); (case hbase => first | omega | (simp; done) | (simp; omega)); intro v6 w6 hownw6 hgroww6 hatw6 holdw6)); have hown6 : OwnB w6 w4.heap.size 5 v6 a := OwnB.join (l := []) hownw6 (by simp) h256.out.1; have hk6 := below_app (B := w4.heap.size) hk4 hmade.1 hgroww6 (Nat.le_refl _) (by simp); have hz6 := hk6.size; have hsB := Src.of_bytes (((HB.out.keep L4.hb).keep hk6)); clear hmade hsA hownw6 hgroww6 hatw6 holdw6)
    | ((at_builtin; go_loud (refine wpList_app _ rfl (.tmp 41) (.tmp 42) 22 rfl _ 5 i0 _ 1 1 Try.underlying22 hi hz0 hz1 hz2 rfl (by omega) _ _ _ rfl hown6.1 _ _ _ _ rfl hsB ?h63 ?hby ?hbase ?_); (case h63 => (unfold maxLen; first | omega | (simp; done) | (simp; omega))); (case hby => first | omega | (simp; done) | (simp; omega)); (case hbase => first | omega | (simp; done) | (simp; omega)); intro v8 w8 hownw8 hgroww8 hatw8 holdw8); have hown8 := OwnB.join (l := a) hownw8 h256.out.1 h256.out.2; obtain ⟨A8, c8, hv8, hl8, hc8⟩ := hown8.form; subst hv8; have hk8 := below_app (B := w4.heap.size) hk6 hown6.1 hgroww8 (Nat.le_refl _) hk6.size))
  have S8 := L4.own hown8 (Nat.le_refl _)
  have L8 := L4.keep hk8
  clear L4 hown8 hk8 hk6 hown6 hsB hownw8 hgroww8 hatw8 holdw8 hk4 hz6
  have hlen : (a ++ b).length = a.length + b.length := List.length_append
  by_cases hbad : n < 0 ∨ ((a ++ b).length : Int) < n
  · have p4 := L8.cut [120] n wf_x hn (one_cut_no (su := a.length) hbad)
    have hu := fun (F9 : Nat → Prop) (W : World) (L9 : LS w W F9 (w.heap.size + 1) w.heap.size (one [120] (a ++ b) a.length)) => dkused_any F9 _ _ _ W L9.D
    rw [one_used] at hu
    by_cases hneg : n < 0
    · go_wp2_with (first
        | (go_at_call 38; (with_reducible refine p4.mono ?_); rintro e w9 ⟨rfl, F9, L9, -, -⟩; clear L8 p4)
        | (go_at_call 39; (with_reducible refine (hu _ _ L9).mono ?_); rintro e w10 ⟨rfl, hb10⟩; have hb := below_call L9.hb hb10 L9.hb.size; clear L9 hu)
        | (go_at_call 29; (with_reducible refine (haw _).mono ?_); rintro e w11 ⟨rfl, hb11⟩; replace hb := below_call hb hb11 hb.size))
      go_ret
      exact ⟨rfl, hb⟩
    · have hbig : ((a ++ b).length : Int) < n := by omega
      go_wp2_with (first
        | (go_at_call 38; (with_reducible refine p4.mono ?_); rintro e w9 ⟨rfl, F9, L9, -, -⟩; clear L8 p4)
        | (go_at_call 39; (with_reducible refine (hu _ _ L9).mono ?_); rintro e w10 ⟨rfl, hb10⟩; have hb := below_call L9.hb hb10 L9.hb.size; clear L9 hu)
        | (go_at_call 29; (with_reducible refine (haw _).mono ?_); rintro e w11 ⟨rfl, hb11⟩; replace hb := below_call hb hb11 hb.size))
      go_ret
      exact ⟨rfl, hb⟩
  · obtain ⟨nn, rfl⟩ : ∃ nn : Nat, n = (nn : Int) := ⟨n.toNat, by omega⟩
    have hnl : nn ≤ (a ++ b).length := by omega
    have hnl' : (nn : Int) ≤ ((a ++ b).length : Int) := by omega
    have p4 := L8.cut [120] nn wf_x hn (one_cut (su := a.length) hnl)
    have hx : ((a ++ b).take nn).length = nn := by rw [List.length_take]; omega
    have S8c := S8.by_.cutTo hnl
    have S8n : Safe w8 F4 A8 nn ((a ++ b).take nn) := ⟨S8c, fun ad e hm => S8.out ad e (by omega)⟩
    generalize (a ++ b).take nn = x at p4 hx S8c S8n
    have n0 : (0 : Int) ≤ (nn : Int) := by omega
    have hc8' : nn ≤ c8 := by omega
    clear S8 S8c hbad
    go_upto_region 10 with (go_at_call 38; (with_reducible refine p4.mono ?_); rintro e w9 ⟨rfl, F9, L9, hs9, T9⟩; clear L8 p4)
    have S9 := (S8n.turn T9 hs9).keep (below_one (.cells #[.int .i64 keep] 3))
    have L10 := L9.keep (below_one (.cells #[.int .i64 keep] 3))
    have p5 := L10.boot _ 1 1 [keep] (keeps_made keep hk) (Nat.le_refl _) (L9.made (Nat.le_refl _)) (one_boot2 hx [keep])
    clear L10 S8n T9 hs9
    go_upto_region 11 with (go_at_call 34; (with_reducible refine p5.mono ?_); rintro e w11 ⟨rfl, F11, L11, hs11, T11⟩)
    have S11 := S9.turn T11 hs11
    have p6 := L11.read [120] wf_x (one_read [120] x nn)
    have hu := fun (F9 : Nat → Prop) (W : World) (L9 : LS w W F9 (w.heap.size + 1) w.heap.size (one [120] x nn)) => dkused_any F9 _ _ _ W L9.D
    rw [one_used, hx] at hu
    clear S9 hs11 T11 p5 L9
    go_upto_region 12 with (go_at_call 35; (with_reducible refine p6.mono ?_); rintro e w12 ⟨v, rfl, hown, hb12⟩)
    simp only [Option.getD_some] at hown
    obtain ⟨A12, c12, hv12, _, _⟩ := hown.form
    subst hv12
    have L12 := L11.keep hb12
    have hsm := same_any A12 A8 x.length nn c12 c8 x x w12 hown.bytes.2.2 (S11.keep hb12).by_
    rw [decide_eq_true rfl, hx] at hsm
    clear p6 S11 hown hb12 L11
    go_wp2_with (first
        | (go_at_call 37; (with_reducible refine hsm.mono ?_); rintro e w13 ⟨rfl, hb13⟩; replace L12 := L12.keep hb13)
        | (go_at_call 39; (with_reducible refine (hu _ _ L12).mono ?_); rintro e w14 ⟨rfl, hb14⟩; have hb := below_call L12.hb hb14 L12.hb.size; clear L12 hu)
        | (go_at_call 29; (with_reducible refine (haw _).mono ?_); rintro e w15 ⟨rfl, hb15⟩; replace hb := below_call hb hb15 hb.size))
    go_ret
    exact ⟨rfl, hb⟩
end Go.Proofs.Ytpdlhcfepafjeaa
