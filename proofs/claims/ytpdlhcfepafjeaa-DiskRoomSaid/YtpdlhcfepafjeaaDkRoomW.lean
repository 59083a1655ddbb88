/- The walk of the law DiskRoom. -/
import Derived.Test.YtpdlhcfepafjeaaDkDo
import Derived.WalkKit
import Derived.WalkSpells
import Derived.WalkLawsBesides
import Derived.Deep.RegionHeld3
import Derived.Deep.DrawnRows
import Derived.Deep.DeepCutAuto
import Derived.Deep.DeepFit
import Derived.Lib.Hide
import Derived.BigQuiet
import Derived.Deep.QuietTactic
import Derived.Deep.RegionHeld3
namespace Go.Proofs.Ytpdlhcfepafjeaa
open Go.RowKit
set_option linter.unusedVariables false
set_option linter.unusedSimpArgs false
set_option maxRecDepth 20000
attribute [local go_sem ↓] Go.wp_at_zero Go.wp_at_succ
attribute [local go_sem] World.cell?_alloc_some frozen_alloc_some
open Go.Maps

theorem ownB_at {W : World} {base : Nat} {A : Option Addr} {n c : Nat} {y : List Nat} (h : OwnB W base 5 (.slice A n c) y) {k x : Nat} (hx : y[k]? = some x) :
    ∃ g, A = some ⟨g, 0, none⟩ ∧ base ≤ g ∧ W.cell? ⟨g, k, none⟩ = some (.int .u8 (x : Int)) ∧ W.frozen? ⟨g, k, none⟩ = false ∧ ∀ u : Nat, u < 256 →
      OwnB (W.setCell ⟨g, k, none⟩ (.int .u8 (u : Int))) base 5 (.slice A n c) (y.set k u) ∧ Turn (fun i => i = g) W (W.setCell ⟨g, k, none⟩ (.int .u8 (u : Int))) := by
  have hk := (List.getElem?_eq_some_iff.1 hx).1
  rcases h.1.2 with ⟨e, hl⟩ | ⟨g, cap, cur, e, hb, hg, h1, h2, h3, h4⟩
  · omega
  · simp only [Value.slice.injEq] at e
    obtain ⟨rfl, rfl, rfl⟩ := e
    have hB : Blk W g 5 cur := hg
    have h4' : cur.toList.take y.length = u8s y := by rw [← h4, Nat.mul_one]
    have hck : cur[k]? = some (.int .u8 (x : Int)) := by
      have h5 : (u8s y)[k]? = some (.int .u8 (x : Int)) := by simp [u8s, hx]
      rw [← h4', List.getElem?_take, if_pos hk] at h5
      rw [← Array.getElem?_toList]
      exact h5
    refine ⟨g, rfl, hb, by rw [hB.cell k]; exact hck, hB.frozen k, fun u hu => ⟨⟨⟨by rw [u8s_length, List.length_set, Nat.mul_one], .inr ⟨g, c, cur.setIfInBounds k (.int .u8 (u : Int)), by rw [List.length_set], hb, hB.set_ k _, by rw [List.length_set]; exact h1, h2, by rw [Array.size_setIfInBounds]; exact h3, ?_⟩⟩, fun z hz => ?_⟩, Turn.setCell hB k _⟩⟩
    · rw [List.length_set, Nat.mul_one, Array.toList_setIfInBounds, List.take_set, h4']
      simp [u8s, List.map_set]
    · rcases List.mem_or_eq_of_mem_set hz with hz | hz
      · exact h.2 z hz
      · rw [hz]; exact hu
def incB (x : Nat) : Nat := (x + 1) % 256
/-- The first k are one more. -/
def incTo (k : Nat) (x : List Nat) : List Nat := (x.take k).map incB ++ x.drop k
theorem incTo_zero (x : List Nat) : incTo 0 x = x := by simp [incTo]
theorem incTo_length (k : Nat) (x : List Nat) : (incTo k x).length = x.length := by simp [incTo]; omega
theorem incTo_get {x : List Nat} {k c : Nat} (h : x[k]? = some c) : (incTo k x)[k]? = some c := by
  have hk := (List.getElem?_eq_some_iff.1 h).1
  unfold incTo
  rw [List.getElem?_append_right (by simp; omega)]
  simp only [List.length_map, List.length_take]
  rw [List.getElem?_drop]
  rw [show k + (k - min k x.length) = k by omega]
  exact h
theorem incTo_succ {x : List Nat} {k c : Nat} (h : x[k]? = some c) : (incTo k x).set k (incB c) = incTo (k + 1) x := by
  have hk := (List.getElem?_eq_some_iff.1 h).1
  have hc : x[k] = c := (List.getElem?_eq_some_iff.1 h).2
  unfold incTo
  rw [List.set_append_right _ _ (by simp; omega), List.drop_eq_getElem_cons hk, List.take_add_one, h]
  simp only [List.length_map, List.length_take]
  rw [show k - min k x.length = 0 by omega]
  simp [hc]
theorem incTo_ne {x : List Nat} (h : ∀ c ∈ x, c < 256) (hn : 0 < x.length) : incTo x.length x ≠ x := fun e => by
  unfold incTo at e
  simp only [List.take_length, List.drop_length, List.append_nil] at e
  cases x with
  | nil => simp at hn
  | cons c r =>
    simp only [List.map_cons, List.cons.injEq] at e
    have h1 := h c (by simp)
    have h2 := e.1
    unfold incB at h2
    omega
theorem deedD_rm (d : DkT) (act : List DF → Int × List DF) : (deedD d act).2.room = d.room := by
  unfold deedD
  split <;> rfl
theorem doD_room (d : DkT) (x : DA) : (doD d x).2.2.room = d.room := by
  unfold doD
  repeat' split
  all_goals first | exact deedD_rm _ _ | rfl
/-- A file's bytes, read, while they are changed. -/
structure RS (w W : World) (F : Nat → Prop) (g b : Nat) (d : DkT) (base : Nat) (vN : Value) (B9 : Nat) (A9 : Option Addr) (c9 : Nat) (y : List Nat) : Prop where
  L : LS w W F g b d
  nm : NamesAt W base vN (namesD d)
  own : OwnB W B9 5 (.slice A9 y.length c9) y
  nB : ∀ r, vN.ownBlock = some r → r < B9
  fB : ∀ k, F k → k < B9
  wB : w.heap.size ≤ B9
theorem NamesAt.same {W W' : World} {base : Nat} {v : Value} {nms : List NmT} (h : NamesAt W base v nms) (hs : ∀ r, v.ownBlock = some r → W'.heap[r]? = W.heap[r]?) : NamesAt W' base v nms := by
  refine ⟨h.1, ?_⟩
  rcases h.2 with h0 | ⟨g, cap, cur, rfl, h1, h2, h3⟩
  · exact .inl h0
  · exact .inr ⟨g, cap, cur, rfl, h1, (hs g rfl).trans h2, h3⟩
theorem NamesAt.lt {W : World} {base : Nat} {v : Value} {nms : List NmT} (h : NamesAt W base v nms) : ∀ r, v.ownBlock = some r → r < W.heap.size := fun r hr => (World.ownsRow.lt h r hr).2
theorem RS.set_ {w W : World} {F : Nat → Prop} {g b : Nat} {d : DkT} {base : Nat} {vN : Value} {B9 : Nat} {A9 : Option Addr} {c9 : Nat} {y : List Nat} (R : RS w W F g b d base vN B9 A9 c9 y) {k x : Nat} (hx : y[k]? = some x) :
    ∃ gv, A9 = some ⟨gv, 0, none⟩ ∧ W.cell? ⟨gv, k, none⟩ = some (.int .u8 (x : Int)) ∧ W.frozen? ⟨gv, k, none⟩ = false ∧ ∀ u : Nat, u < 256 → RS w (W.setCell ⟨gv, k, none⟩ (.int .u8 (u : Int))) F g b d base vN B9 A9 c9 (y.set k u) := by
  obtain ⟨gv, e, hb, hc, hf, hset⟩ := ownB_at R.own hx
  refine ⟨gv, e, hc, hf, fun u hu => ?_⟩
  obtain ⟨h1, h2⟩ := hset u hu
  refine ⟨⟨Turn.below R.L.hb h2 (fun i hi => by rw [hi]; exact Nat.le_trans R.wB hb) R.L.hb.size, R.L.D.turn h2 fun i hi e => by have := R.fB i hi; omega, R.L.hF⟩, R.nm.same fun r hr => h2.block r (R.nm.lt r hr) (by have := R.nB r hr; omega), by rw [List.length_set]; exact h1, R.nB, R.fB, R.wB⟩
set_option maxHeartbeats 8000000 in
theorem room_walk (r : Int) (A : Option Addr) (m c : Nat) (l : List DA) (w : World) (hr : (Lit.int .u8 r).wf = true) (h : DActsAt w A m l) :
    Calls Try.prog 10 #[.int .u8 r, .slice A m c] w (Gives w (.bool true)) := by
  have haw := fun W => awake12_any W
  have hgr := great_any A m c l w h
  by_cases hng : NotGreat l
  · rw [greatB_not hng] at hgr
    have H := Lib.hid h
    have hm := h.1
    have hm60 : m ≤ 60 := by rw [hm]; exact hng.1
    have HNG := Lib.hid hng.2
    obtain ⟨r0, r1⟩ := wf_u8 hr
    have hwr : (Lit.int .i64 r).wf = true := by simp [Lit.wf, IntKind.min, IntKind.max, IntKind.signed, IntKind.bits]; omega
    clear h hm hng
    go_enter Try.func10, Try.ntmps10
    go_upto_region 3 with (go_at_call 41; (with_reducible refine hgr.mono ?_); rintro e w1 ⟨rfl, hb1⟩)
    have H1 := Lib.hid (H.out.keep hb1)
    have HB1 := Lib.hid hb1
    have hnew := dknew_any r w1 hwr (by omega)
    clear H hgr hb1
    go_upto_region 4 with (go_at_call 30; (with_reducible refine hnew.mono ?_); rintro e w2 ⟨rfl, D1, hb2⟩)
    obtain ⟨F, L⟩ := LS.new D1 hb2
    clear D1 hb2 hnew
    go_wp2_with fail
    go_loopw [6] (fun s6 wr => ∃ (i : Nat) (F : Nat → Prop) (d : DkT), i ≤ m ∧ s6 = .int .i64 i ∧ LS w1 wr F (w1.heap.size + 1) w1.heap.size d ∧ Hid (d.room = r)) (fun s6 _ => m - (intOf s6).toNat)
    case atStart => exact ⟨0, F, newD r, by omega, rfl, L, Lib.hid (by simp [newD]; omega)⟩
    case round =>
      clear L F
      obtain ⟨i, F, d, hi, rfl, L, HR⟩ := hrel
      by_cases hlt : i < m
      · obtain ⟨x, b, o, e1, ok, rfl, c0, c1, c2, c3, c4, c5⟩ := H1.out.at_ hlt
        have i0 : (0 : Int) ≤ (i : Int) := by omega
        have i1 : (i : Int) < (m : Int) := by omega
        replace c0 := cell_keep L.hb c0
        replace c1 := cell_keep L.hb c1
        replace c2 := cell_keep L.hb c2
        replace c3 := cell_keep L.hb c3
        replace c4 := cell_keep L.hb c4
        replace c5 := cell_keep L.hb c5
        have hdo := do_any L x ok (HNG.out x (List.mem_of_getElem? e1)).1
        have hrm := doD_room d x
        generalize doD d x = dd at hdo hrm
        obtain ⟨rr, rc, d2⟩ := dd
        simp only at hdo hrm
        have HR2 := Lib.hid (hrm.trans HR.out)
        clear hrm HR ok e1
        go_upto_region 8 with (go_at_call 42; (with_reducible refine hdo.mono ?_); rintro e w3 ⟨v, rfl, -, F3, L3, -, -⟩)
        clear hdo c0 c1 c2 c3 c4 c5 L
        have hu := fun W (h : LS w1 W F3 (w1.heap.size + 1) w1.heap.size d2) => dkused_any F3 _ _ _ W h.D
        have hn := fun W (h : LS w1 W F3 (w1.heap.size + 1) w1.heap.size d2) => dknames_any F3 _ _ _ W h.D
        have hul : (usedD d2 : Int) ≤ r := by
          have h1 := L3.D.2.tot
          have h2 := HR2.out
          unfold usedD
          split <;> omega
        have hnl : (namesD d2).length ≤ 16 := by
          unfold namesD
          split
          · simp
          · rw [List.length_map]; exact L3.D.2.len
        obtain ⟨u, hu2⟩ : ∃ u, usedD d2 = u := ⟨_, rfl⟩
        rw [hu2] at hu hul
        obtain ⟨nl, hnl2⟩ : ∃ nl, (namesD d2).length = nl := ⟨_, rfl⟩
        rw [hnl2] at hnl
        have HNL := Lib.hid hnl2
        clear hu2 hnl2
        have q1 : ¬ r < (u : Int) := by omega
        have q2 : ¬ (u : Int) < 0 := by omega
        have q3 : ¬ (16 : Int) < (nl : Int) := by omega
        go_wp2_with (first
          | (go_at_call 39; (with_reducible refine (hu _ L3).mono ?_); rintro e w4 ⟨rfl, hb4⟩; replace L3 := L3.keep hb4; clear hb4)
          | (go_at_call 43; (with_reducible refine (hn _ L3).mono ?_); rintro e w5 ⟨vn, rfl, hna, hb5⟩; obtain ⟨vA, vc, rfl, _⟩ := names_form hna HNL.out; replace L3 := L3.keep hb5; clear hb5 hna))
        go_roundw
        case rel => exact ⟨i + 1, F3, d2, by omega, by go_num, L3, HR2⟩
        case measure => simp [intOf]; omega
      · obtain rfl : i = m := by omega
        have ni : ¬ (i : Int) < (i : Int) := by omega
        have hn := dknames_any F _ _ _ wr L.D
        obtain ⟨nl, hnl⟩ : ∃ nl, (namesD d).length = nl := ⟨_, rfl⟩
        have HNL := Lib.hid hnl
        have hnl16 : nl ≤ 16 := by
          rw [← hnl]
          unfold namesD
          split
          · simp
          · rw [List.length_map]; exact L.D.2.len
        clear hnl
        go_upto_region 11 with (go_at_call 43; (with_reducible refine hn.mono ?_); rintro e w5 ⟨vn, rfl, hna, hb5⟩; obtain ⟨vA, vc, rfl, hvc⟩ := names_form hna HNL.out; replace L := L.keep hb5; clear hb5)
        have Hwr := Lib.hid (show wr.heap.size ≤ wr.heap.size from Nat.le_refl _)
        obtain ⟨base, hbase⟩ : ∃ base, wr.heap.size = base := ⟨_, rfl⟩
        rw [hbase] at hna
        clear hbase hn Hwr
        go_wp2_with fail
        go_loopw [8] (fun s8 wr2 => ∃ j : Nat, j ≤ nl ∧ s8 = .int .i64 j ∧ LS w1 wr2 F (w1.heap.size + 1) w1.heap.size d ∧ NamesAt wr2 base (.slice vA nl vc) (namesD d)) (fun s8 _ => nl - (intOf s8).toNat)
        case atStart => exact ⟨0, by omega, rfl, L, hna⟩
        case round =>
          clear L hna
          obtain ⟨j, hj, rfl, L, hna⟩ := hrel
          by_cases hlj : j < nl
          · have hjl : j < (namesD d).length := by rw [HNL.out]; exact hlj
            obtain ⟨gn, hvA, cn⟩ := names_cell hna hjl
            subst hvA
            have j0 : (0 : Int) ≤ (j : Int) := by omega
            have j1 : (j : Int) < (nl : Int) := by omega
            have hdn : d.down = false := by
              cases hd : d.down
              · rfl
              · simp [namesD, hd] at hjl
            obtain ⟨f, hf, hfs⟩ : ∃ f ∈ d.l, f.1 = (namesD d)[j] := by
              have h2 : namesD d = d.l.map Prod.fst := by simp [namesD, hdn]
              obtain ⟨s, hs⟩ : ∃ s, (namesD d)[j] = s := ⟨_, rfl⟩
              have h1 : s ∈ namesD d := by rw [← hs]; exact List.getElem_mem hjl
              rw [h2] at h1
              obtain ⟨f, hf, e⟩ := List.mem_map.1 h1
              exact ⟨f, hf, by rw [e, hs]⟩
            have hrd : readD d (namesD d)[j] = (some f.2.1, 0) := by
              unfold readD
              rw [if_neg (by simp [hdn]), ← hfs, findBy_mem L.D.2.asc hf]
            have hsl : wfN (namesD d)[j] := by rw [← hfs]; have := L.D.2.nms f hf; unfold wfN maxLen; omega
            have hxl : f.2.1.length ≤ 1073741824 := by
              have h1 := totD_out L.D.2.asc hf rfl
              have h2 := L.D.2.tot
              have h3 := L.D.2.room1
              omega
            generalize hs : (namesD d)[j] = s at cn hrd hsl
            generalize f.2.1 = x at hrd hxl
            have Hs := Lib.hid hs
            have HRD := Lib.hid hrd
            have HSL := Lib.hid hsl
            have h1r := L.read s hsl hrd
            clear hs hrd hsl hdn hf hfs
            go_upto_region 15 with (go_at_call 35; (with_reducible refine h1r.mono ?_); rintro e w3 ⟨v9, rfl, hown, hb3⟩; simp only [Option.getD_some] at hown; obtain ⟨A9, c9, hv9, hc9, _⟩ := hown.form; subst hv9)
            have R0 : RS w1 w3 F (w1.heap.size + 1) w1.heap.size d base (.slice (some ⟨gn, 0, none⟩) nl vc) wr.heap.size A9 c9 x := ⟨L.keep hb3, hna.same fun r hr => hb3.block r (hna.lt r hr), hown, hna.lt, L.D.lt, L.hb.size⟩
            have h256 := Lib.hid hown.2
            clear hown hb3 hna L h1r cn
            generalize wr.heap.size = B9 at R0
            go_wp2_with fail
            go_loopw [11] (fun s11 wr3 => ∃ k : Nat, k ≤ x.length ∧ s11 = .int .i64 k ∧ RS w1 wr3 F (w1.heap.size + 1) w1.heap.size d base (.slice (some ⟨gn, 0, none⟩) nl vc) B9 A9 c9 (incTo k x)) (fun s11 _ => x.length - (intOf s11).toNat)
            case atStart => exact ⟨0, by omega, rfl, by rw [incTo_zero]; exact R0⟩
            case round =>
              clear R0
              obtain ⟨k, hk, rfl, R⟩ := hrel
              by_cases hlk : k < x.length
              · obtain ⟨cc, hcc⟩ : ∃ cc, x[k]? = some cc := ⟨_, List.getElem?_eq_getElem hlk⟩
                obtain ⟨gv, rfl, ec, ef, hset⟩ := R.set_ (incTo_get hcc)
                have hc256 : cc < 256 := h256.out cc (List.mem_of_getElem? hcc)
                obtain ⟨u, hu⟩ : ∃ u, incB cc = u := ⟨_, rfl⟩
                have hw8 : IntKind.u8.wrap ((cc : Int) + 1) = (u : Int) := by rw [← hu]; unfold incB; rw [IntKind.wrap_u8]; omega
                have R2 := hset u (by rw [← hu]; unfold incB; omega)
                rw [← hu, incTo_succ hcc, hu] at R2
                have k0 : (0 : Int) ≤ (k : Int) := by omega
                have k1 : (k : Int) < (x.length : Int) := by omega
                clear hset hcc hc256 R hu
                go_wp2_with fail
                go_roundw
                case rel => exact ⟨k + 1, by omega, by go_num, R2⟩
                case measure => simp [intOf]; omega
              · obtain rfl : k = x.length := by omega
                have nk : ¬ ((x.length : Nat) : Int) < (x.length : Int) := by omega
                obtain ⟨gn', hvA', cn⟩ := names_cell R.nm hjl
                simp only [Option.some.injEq, Addr.mk.injEq, and_true] at hvA'
                subst hvA'
                rw [Hs.out] at cn
                have h2r := R.L.read s HSL.out HRD.out
                go_upto_region 20 with (go_at_call 35; (with_reducible refine h2r.mono ?_); rintro e w5 ⟨v12, rfl, hown, hb5⟩; simp only [Option.getD_some] at hown; obtain ⟨A12, c12, hv12, hc12, _⟩ := hown.form; subst hv12)
                have hba := (R.own.keep hb5).bytes.2.2
                rw [incTo_length] at hba
                have hsm := same_any A9 A12 x.length x.length c9 c12 _ _ w5 hba hown.bytes.2.2
                have L5 := R.L.keep hb5
                have N5 := R.nm.same fun r hr => hb5.block r (R.nm.lt r hr)
                clear h2r cn hown hb5 R hba
                by_cases hx0 : 0 < x.length
                · rw [decide_eq_false (incTo_ne h256.out hx0)] at hsm
                  have x0 : (0 : Int) < (x.length : Int) := by omega
                  go_wp2_with (go_at_call 37; (with_reducible refine hsm.mono ?_); rintro e w6 ⟨rfl, hb6⟩; replace L5 := L5.keep hb6; replace N5 := N5.same fun r hr => hb6.block r (N5.lt r hr))
                  go_roundw
                  case rel => exact ⟨j + 1, by omega, by go_num, L5, N5⟩
                  case measure => simp [intOf]; omega
                · have x0 : ¬ (0 : Int) < (x.length : Int) := by omega
                  clear hsm
                  go_wp2_with fail
                  go_roundw
                  case rel => exact ⟨j + 1, by omega, by go_num, L5, N5⟩
                  case measure => simp [intOf]; omega
          · obtain rfl : j = nl := by omega
            have nj : ¬ (j : Int) < (j : Int) := by omega
            have hb := below_call HB1.out L.hb HB1.out.size
            clear L hna
            go_wp2_with (go_at_call 29; (with_reducible refine (haw _).mono ?_); rintro e w9 ⟨rfl, hb9⟩)
            go_ret
            exact ⟨rfl, below_call hb hb9 hb.size⟩
  · rw [greatB_yes hng] at hgr
    clear h
    go_enter Try.func10, Try.ntmps10
    go_wp2_with (first | (go_at_call 41; (with_reducible refine hgr.mono ?_); rintro e w1 ⟨rfl, hb1⟩) | (go_at_call 29; (with_reducible refine (haw _).mono ?_); rintro e w2 ⟨rfl, hb2⟩))
    go_ret
    exact ⟨rfl, below_call hb1 hb2 hb1.size⟩
end Go.Proofs.Ytpdlhcfepafjeaa
