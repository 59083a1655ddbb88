/- log.Write on a law's disk under way. -/
import Derived.Test.YtpdlhcfepafjeaaLogFirst
import Derived.Test.YtpdlhcfepafjeaaLogKeepsW
namespace Go.Proofs.Ytpdlhcfepafjeaa
open Go.RowKit
set_option linter.unusedVariables false
set_option linter.unusedSimpArgs false
set_option maxRecDepth 20000
attribute [local go_sem ↓] Go.wp_at_zero Go.wp_at_succ
attribute [local go_sem] World.cell?_alloc_some frozen_alloc_some
open Go.Sort Go.Lib Go.Shelf Go.Maps

abbrev nLF : NmT := [108, 111, 103, 46, 102, 105, 120]
theorem repb_made {w W : World} {F : Nat → Prop} {g b : Nat} {d : DkT} {A : Option Addr} {m c : Nat} {p : List Nat} (L : LS w W F g b d) (hp : Safe W F A m p) :
    ∃ W', W' = (((((W.alloc (.cells #[.pointer (some ⟨g, 0, none⟩)] 54)).alloc (.cells #[.string ⟨⟨[108, 111, 103]⟩⟩] 9)).alloc (.cells #[.slice A m c] 22)).alloc (.cells #[.string ⟨⟨nLF⟩⟩] 9)).alloc (.cells #[.func (.func 106) #[] #[.pointer (some ⟨W.heap.size, 0, none⟩), .pointer (some ⟨W.heap.size + 1 + 1 + 1, 0, none⟩)], .func (.func 107) #[] #[.pointer (some ⟨W.heap.size, 0, none⟩), .pointer (some ⟨W.heap.size + 1 + 1 + 1, 0, none⟩), .pointer (some ⟨W.heap.size + 1 + 1, 0, none⟩)], .func (.func 108) #[] #[.pointer (some ⟨W.heap.size, 0, none⟩), .pointer (some ⟨W.heap.size + 1 + 1 + 1, 0, none⟩)], .func (.func 109) #[] #[.pointer (some ⟨W.heap.size, 0, none⟩), .pointer (some ⟨W.heap.size + 1 + 1 + 1, 0, none⟩), .pointer (some ⟨W.heap.size + 1, 0, none⟩)]] 88)) ∧ Below W.heap.size W W' ∧
      RepB W' F (W.heap.size + 1 + 1 + 1 + 1) W.heap.size (W.heap.size + 1 + 1 + 1) (W.heap.size + 1 + 1) (W.heap.size + 1) g nLF [108, 111, 103] A m c p := by
  refine ⟨_, rfl, ?_, ?_⟩
  · ((repeat' first | with_reducible exact Below.refl _ _ | with_reducible assumption | with_reducible refine Below.alloc ?_ ?_ _ | with_reducible refine Below.setCell ?_ ?_ _ | with_reducible apply Below.drew | with_reducible apply below_drewN | with_reducible refine below_call ?_ (by with_reducible assumption) ?_) <;> (first | omega | (simp; done) | (simp; omega) | (simp at *; omega)))
  · have hb : Below W.heap.size W (((((W.alloc (.cells #[.pointer (some ⟨g, 0, none⟩)] 54)).alloc (.cells #[.string ⟨⟨[108, 111, 103]⟩⟩] 9)).alloc (.cells #[.slice A m c] 22)).alloc (.cells #[.string ⟨⟨nLF⟩⟩] 9)).alloc (.cells #[.func (.func 106) #[] #[.pointer (some ⟨W.heap.size, 0, none⟩), .pointer (some ⟨W.heap.size + 1 + 1 + 1, 0, none⟩)], .func (.func 107) #[] #[.pointer (some ⟨W.heap.size, 0, none⟩), .pointer (some ⟨W.heap.size + 1 + 1 + 1, 0, none⟩), .pointer (some ⟨W.heap.size + 1 + 1, 0, none⟩)], .func (.func 108) #[] #[.pointer (some ⟨W.heap.size, 0, none⟩), .pointer (some ⟨W.heap.size + 1 + 1 + 1, 0, none⟩)], .func (.func 109) #[] #[.pointer (some ⟨W.heap.size, 0, none⟩), .pointer (some ⟨W.heap.size + 1 + 1 + 1, 0, none⟩), .pointer (some ⟨W.heap.size + 1, 0, none⟩)]] 88)) := by ((repeat' first | with_reducible exact Below.refl _ _ | with_reducible assumption | with_reducible refine Below.alloc ?_ ?_ _ | with_reducible refine Below.setCell ?_ ?_ _ | with_reducible apply Below.drew | with_reducible apply below_drewN | with_reducible refine below_call ?_ (by with_reducible assumption) ?_) <;> (first | omega | (simp; done) | (simp; omega) | (simp at *; omega)))
    exact ⟨blk_newAt (by simp), ((((Blk.new _ _ _).alloc _).alloc _).alloc _).alloc _, (blk_newAt (by simp)).alloc _, ((blk_newAt (by simp)).alloc _).alloc _, (((blk_newAt (by simp)).alloc _).alloc _).alloc _,
      L.D.notF (by omega), L.D.notF (Nat.le_refl _), L.D.notF (by omega), L.D.notF (by omega), L.D.notF (by omega), hp.keep hb⟩
theorem wf_LF : wfN nLF := by unfold wfN maxLen; decide
theorem fix_eq : (({ data := { toList := [108, 111, 103] } } : ByteArray) ++ { data := #[46, 102, 105, 120] }) = ⟨⟨nLF⟩⟩ := by rfl
set_option maxHeartbeats 2000000 in
theorem logrep_any {w W : World} {F : Nat → Prop} {g b : Nat} {d d1 d2 d3 d4 : DkT} {A : Option Addr} {m c : Nat} {p : List Nat} (L : LS w W F g b d) (hp : Safe W F A m p) (hpl : p.length ≤ 1073741824) {v1 v2 v3 v4 : Int}
    (e1 : deedD d (fun l => remC l nLF) = (v1, d1)) (e2 : deedD d1 (fun l => appC d1.room l nLF p) = (v2, d2)) (e3 : deedD d2 (fun l => syncC l nLF) = (v3, d3)) (e4 : deedD d3 (fun l => moveC l nLF [108, 111, 103]) = (v4, d4)) :
    Calls Try.prog 79 #[.pointer (some ⟨g, 0, none⟩), .string ⟨⟨[108, 111, 103]⟩⟩, .slice A m c] W (LDone w W F g b (.int .i64 (if (if v1 = 8 then 0 else v1) ≠ 0 then (if v1 = 8 then 0 else v1) else if v2 ≠ 0 then v2 else if v3 ≠ 0 then v3 else v4)) (if (if v1 = 8 then 0 else v1) ≠ 0 then d1 else if v2 ≠ 0 then d2 else if v3 ≠ 0 then d3 else d4)) := by
  have hmf : ∀ (fn : Fn) (first cap : Array Value) (w : World), (Instr.makeFunc fn first cap).run Try.prog w = .ok (.func fn first cap) w := fun _ _ _ _ => rfl
  obtain ⟨W', hW', hb, hR⟩ := repb_made L hp
  have hf := logfirst_any (L.keep hb) hR wf_LF (by unfold wfN maxLen; decide) hpl e1 e2 e3 e4
  have hf2 := hf.mono fun e w' h => LDone.after h hb
  generalize (if (if v1 = 8 then 0 else v1) ≠ 0 then (if v1 = 8 then 0 else v1) else if v2 ≠ 0 then v2 else if v3 ≠ 0 then v3 else v4) = R1 at *
  generalize (if (if v1 = 8 then 0 else v1) ≠ 0 then d1 else if v2 ≠ 0 then d2 else if v3 ≠ 0 then d3 else d4) = R2 at *
  subst hW'
  have fx := fix_eq
  clear hf
  go_enter Try.func79, Try.ntmps79
  go_wp2_with (go_at_call 110; refine hf2.mono ?_; rintro e w3 ⟨rfl, hd⟩; have Hd := Lib.hid hd; clear hd)
  go_ret
  exact ⟨rfl, Hd.out⟩

theorem logwrite_nil (A : Option Addr) (n c : Nat) (W : World) : Calls Try.prog 51 #[.pointer none, .string ⟨⟨[108, 111, 103]⟩⟩, .slice A n c] W (Gives W (.int .i64 1)) := by
  go_enter Try.func51, Try.ntmps51
  go_wp2_with fail
  go_ret
  exact ⟨rfl, Below.refl _ _⟩

set_option maxHeartbeats 2000000 in
theorem logwrite_any {w W : World} {F : Nat → Prop} {g b : Nat} {d d1 d2 d3 d4 : DkT} {A : Option Addr} {n c : Nat} {ls : List (List Nat)} (L : LS w W F g b d) (h : Texts w A n ls) (hl : ls.length ≤ 10) (hx : ∀ x ∈ ls, x.length ≤ 100) {v1 v2 v3 v4 : Int}
    (e1 : deedD d (fun l => remC l nLF) = (v1, d1)) (e2 : deedD d1 (fun l => appC d1.room l nLF (allF ls)) = (v2, d2)) (e3 : deedD d2 (fun l => syncC l nLF) = (v3, d3)) (e4 : deedD d3 (fun l => moveC l nLF [108, 111, 103]) = (v4, d4)) :
    Calls Try.prog 51 #[.pointer (some ⟨g, 0, none⟩), .string ⟨⟨[108, 111, 103]⟩⟩, .slice A n c] W (LDone w W F g b (.int .i64 (if (if v1 = 8 then 0 else v1) ≠ 0 then (if v1 = 8 then 0 else v1) else if v2 ≠ 0 then v2 else if v3 ≠ 0 then v3 else v4)) (if (if v1 = 8 then 0 else v1) ≠ 0 then d1 else if v2 ≠ 0 then d2 else if v3 ≠ 0 then d3 else d4)) := by
  have hal := allF_le ls hx
  have hrep := Lib.hid (fun (W1 : World) (A1 : Option Addr) (m1 c1 : Nat) (hb : Below W.heap.size W W1) (ho : OwnB W1 W.heap.size 5 (.slice A1 m1 c1) (allF ls)) =>
    (logrep_any (c := c1) (L.keep hb) (L.own ho (Nat.le_refl _)) (by omega) e1 e2 e3 e4).mono fun e w' hd => LDone.after hd hb)
  generalize (if (if v1 = 8 then 0 else v1) ≠ 0 then (if v1 = 8 then 0 else v1) else if v2 ≠ 0 then v2 else if v3 ≠ 0 then v3 else v4) = R1 at *
  generalize (if (if v1 = 8 then 0 else v1) ≠ 0 then d1 else if v2 ≠ 0 then d2 else if v3 ≠ 0 then d3 else d4) = R2 at *
  obtain ⟨i0, hi, hz0, hz1, hz2⟩ := info_parts info_u8
  have hn := h.1
  subst hn
  have HT := Lib.hid (h.keep (L.hb.mono (Nat.le_refl _)))
  have HX := Lib.hid hx
  clear hx h hal e1 e2 e3 e4
  go_enter Try.func51, Try.ntmps51
  go_wp2_with fail
  clear L
  go_loopw [7, 16] (fun s7 s16 wr => ∃ i : Nat, i ≤ ls.length ∧ s16 = .int .i64 i ∧ OwnB wr W.heap.size 5 s7 (allF (ls.take i)) ∧ Below W.heap.size W wr) (fun _ s16 _ => ls.length - (intOf s16).toNat)
  case atStart => exact ⟨0, by omega, rfl, OwnB.nil_ _ _ _, Below.refl _ _⟩
  case round =>
    obtain ⟨i, hle, rfl, hown, hbr⟩ := hrel
    have hzr := hbr.size
    by_cases hlt : i < ls.length
    · have k1 : ls[i]? = some ls[i] := List.getElem?_eq_getElem hlt
      obtain ⟨ad, B1, m1, c1, rfl, hcell, hby⟩ := (HT.out.keep hbr).2.2 i _ k1
      have hp100 := HX.out _ (List.mem_of_getElem? k1)
      have hpf := frm_le _ hp100
      have hf := form_any B1 m1 c1 ls[i] wr hby (by have := hby.1; omega)
      have hai := allF_le (ls.take i) fun x hx => HX.out x (List.mem_of_mem_take hx)
      have hai2 : (ls.take i).length ≤ 10 := by rw [List.length_take]; omega
      have hnx : allF (ls.take (i + 1)) = allF (ls.take i) ++ frm ls[i] := by rw [List.take_add_one, k1, allF_append]; simp [allF]
      have Hnx := Lib.hid hnx
      have hlen : (allF (ls.take i)).length ≤ 1050 := by omega
      clear k1 hp100 hby hai hai2 hnx
      generalize allF (ls.take i) = P0 at *
      generalize frm ls[i] = P1 at *
      have i1 : (i : Int) < (ls.length : Int) := by omega
      have i2 : (0 : Int) ≤ (i : Int) := by omega
      go_wp2_with (first
        | (go_at_call 52; refine hf.mono ?_; clear hf; rintro e w3 ⟨v3, rfl, hown3, hb3⟩; obtain ⟨A3, c3, rfl, _, _⟩ := hown3.form; have src3 := Src.of_bytes hown3.bytes.2.2; have own3 := hown.keep hb3; have hb03 := hbr.trans (hb3.mono hzr); have hlt3 := Lib.hid hown3.2; have hz3 := hb03.size; clear hown3)
        | ((at_builtin; go_loud (refine wpList_app _ rfl (.tmp 28) (.tmp 29) 22 rfl _ 5 i0 _ 1 1 Try.underlying22 hi hz0 hz1 hz2 rfl (by omega) _ _ _ rfl own3.1 _ _ _ _ rfl src3 ?h63 ?hby ?hbase ?_); (case h63 => (unfold maxLen; first | omega | (simp; done) | (simp; omega))); (case hby => first | omega | (simp; done) | (simp; omega)); (case hbase => first | omega | (simp; done) | (simp; omega)); intro v4 w4 hownw4 hgroww4 hatw4 holdw4)))
      have hb4 := below_app hb03 own3.1 hgroww4 (Nat.le_refl _) hz3
      have own4 : OwnB w4 W.heap.size 5 v4 (P0 ++ P1) := OwnB.join hownw4 own3.2 hlt3.out
      have O4 := Lib.hid own4
      go_roundw
      case rel => exact ⟨i + 1, by omega, by go_num, by rw [Hnx.out]; exact O4.out, hb4⟩
      case measure => simp [intOf]; omega
    · obtain rfl : i = ls.length := by omega
      rw [List.take_length] at hown
      obtain ⟨A1, c1, rfl, _, _⟩ := hown.form
      have hre := hrep.out wr A1 _ c1 hbr hown
      clear hown
      go_wp2_with (go_at_call 79; refine hre.mono ?_; rintro e w5 ⟨rfl, hd⟩; have Hd := Lib.hid hd; clear hd)
      go_ret
      exact ⟨rfl, Hd.out⟩
end Go.Proofs.Ytpdlhcfepafjeaa
