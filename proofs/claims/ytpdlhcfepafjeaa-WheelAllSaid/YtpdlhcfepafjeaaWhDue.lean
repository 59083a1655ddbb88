/- wheel.Due. -/
import Derived.Test.YtpdlhcfepafjeaaWhSort
import Derived.Test.YtpdlhcfepafjeaaTimSet
import Derived.WalkKit
import Derived.WalkSpells
import Derived.WalkLawsBesides
import Derived.Deep.RegionHeld3
import Derived.Deep.DrawnRows
import Derived.Deep.DeepCutAuto
import Derived.Deep.DeepFit
import Derived.Lib.Hide
import Derived.BigQuiet
import Derived.Deep.QuietTactic
import Derived.Deep.RegionHeld3
namespace Go.Proofs.Ytpdlhcfepafjeaa
open Go.RowKit
set_option linter.unusedVariables false
set_option linter.unusedSimpArgs false
set_option maxRecDepth 20000
attribute [local go_sem ↓] Go.wp_at_zero Go.wp_at_succ
attribute [local go_sem] World.cell?_alloc_some frozen_alloc_some
open Go.Sort Go.Lib Go.Shelf

def dueIds (l : List TimT) (now : Int) : List IdP := (l.filter fun t => decide (t.2 ≤ now)).map (·.1)
theorem dueIds_snoc {l : List TimT} {t : TimT} {now : Int} : dueIds (l ++ [t]) now = dueIds l now ++ (if t.2 ≤ now then [t.1] else []) := by
  unfold dueIds
  rw [List.filter_append, List.map_append]
  congr 1
  by_cases h : t.2 ≤ now <;> simp [h]
theorem dueIds_length (l : List TimT) (now : Int) : (dueIds l now).length ≤ l.length := by unfold dueIds; rw [List.length_map]; exact List.length_filter_le _ _
theorem mem_dueIds {l : List TimT} {now : Int} {i : IdP} : i ∈ dueIds l now ↔ ∃ t ∈ l, t.2 ≤ now ∧ t.1 = i := by
  unfold dueIds
  simp only [List.mem_map, List.mem_filter, decide_eq_true_eq]
  constructor
  · rintro ⟨t, ⟨h1, h2⟩, h3⟩; exact ⟨t, h1, h2, h3⟩
  · rintro ⟨t, h1, h2, h3⟩; exact ⟨t, ⟨h1, h2⟩, h3⟩
theorem lift_ids : ∀ (l : List IdP), (∀ i ∈ l, wfI i) → ∃ d : List IdW, d.map (·.1) = l
  | [], _ => ⟨[], rfl⟩
  | i :: l, h => by
    obtain ⟨d, hd⟩ := lift_ids l fun k hk => h k (by simp [hk])
    exact ⟨⟨i, h i (by simp)⟩ :: d, by simp [hd]⟩
theorem due_sorted {x l : List TimT} (hasc : TAsc x) (hids : Ids1 x) (hl : Ids1 l) (hsub : ∀ t ∈ l, t ∈ x) (hall : AllIn x l) {now : Int} {d : List IdW} (hd : d.map (·.1) = dueIds l now) :
    (d.mergeSort fun a b => !(ltOf (cfW x)) b a).map (·.1) = (x.take (dueN x now)).map (·.1) := by
  have hmem : ∀ i : IdP, (∃ a ∈ d, a.1 = i) ↔ ∃ t ∈ x, t.2 ≤ now ∧ t.1 = i := fun i => by
    have : (∃ a ∈ d, a.1 = i) ↔ i ∈ d.map (·.1) := by simp [List.mem_map]
    rw [this, hd, mem_dueIds]
    exact ⟨fun ⟨t, h1, h2⟩ => ⟨t, hsub t h1, h2⟩, fun ⟨t, h1, h2⟩ => ⟨t, hall t h1, h2⟩⟩
  have hnd : d.Pairwise fun a b => a.1 ≠ b.1 := by
    have h1 : (dueIds l now).Pairwise (· ≠ ·) := by
      unfold dueIds
      exact List.Pairwise.map (R := fun a b : TimT => a.1 ≠ b.1) _ (fun a b h => h) (hl.filter _)
    rw [← hd] at h1
    exact (List.pairwise_map.1 h1)
  have hperm := List.mergeSort_perm d fun a b => !(ltOf (cfW x)) b a
  have hs := List.pairwise_mergeSort (le := fun a b => !(ltOf (cfW x)) b a) (fun a b c h1 h2 => by
      simp only [ltOf_cfW, Bool.not_eq_true', decide_eq_false_iff_not] at *
      unfold tLt idLt at *
      omega) (fun a b => by
      simp only [ltOf_cfW, Bool.or_eq_true, Bool.not_eq_true', decide_eq_false_iff_not]
      unfold tLt idLt
      omega) d
  obtain ⟨s, hsd⟩ : ∃ s, s = d.mergeSort fun a b => !(ltOf (cfW x)) b a := ⟨_, rfl⟩
  rw [← hsd] at hs hperm ⊢
  have hns : s.Pairwise fun a b => a.1 ≠ b.1 := (hperm.symm.pairwise_iff (fun {a b} (h : a.1 ≠ b.1) => Ne.symm h)).1 hnd
  have hasc2 : TAsc (s.map fun i => (i.1, atV x i.1)) := by
    refine List.pairwise_map.2 ((hs.and hns).imp fun {a b} hab => ?_)
    obtain ⟨h1, h2⟩ := hab
    simp only [ltOf_cfW, Bool.not_eq_true', decide_eq_false_iff_not] at h1
    exact (tLt_total (a := (a.1, atV x a.1)) (b := (b.1, atV x b.1)) fun e => h2 (congrArg Prod.fst e)).resolve_right h1
  have heq : (s.map fun i => (i.1, atV x i.1)) = x.take (dueN x now) := by
    refine tasc_unique hasc2 (hasc.sublist (List.take_sublist _ _)) fun t => ?_
    rw [due_take hasc, List.mem_filter]
    simp only [List.mem_map, decide_eq_true_eq]
    constructor
    · rintro ⟨a, ha, rfl⟩
      obtain ⟨u, hu, h1, h2⟩ := (hmem a.1).1 ⟨a, hperm.mem_iff.1 ha, rfl⟩
      rw [← h2, atV_hit hids hu]
      exact ⟨hu, h1⟩
    · rintro ⟨ht, h1⟩
      obtain ⟨a, ha, e⟩ := (hmem t.1).2 ⟨t, ht, h1, rfl⟩
      exact ⟨a, hperm.mem_iff.2 ha, by rw [e, atV_hit hids ht]⟩
  rw [← heq, List.map_map]
  rfl
/-- Timers without those ids. -/
def delAll (x : List TimT) (s : List IdP) : List TimT := s.foldl (fun y i => outT y i) x
theorem delAll_step {x : List TimT} {s : List IdP} {j : Nat} {i : IdP} (h : s[j]? = some i) : delAll x (s.take (j + 1)) = outT (delAll x (s.take j)) i := by
  unfold delAll
  rw [List.take_add_one, h, List.foldl_append]
  rfl
theorem delAll_filter : ∀ (s : List IdP) (x : List TimT), delAll x s = x.filter fun t => decide (t.1 ∉ s)
  | [], x => by rw [List.filter_eq_self.2 fun t _ => by simp]; rfl
  | i :: s, x => by
    have ih := delAll_filter s (outT x i)
    unfold delAll at ih ⊢
    rw [List.foldl_cons, ih, outT, List.filter_filter]
    congr 1
    funext t
    rw [Bool.eq_iff_iff]
    simp only [List.mem_cons, not_or, Bool.and_eq_true, decide_eq_true_eq]
    exact ⟨fun ⟨h1, h2⟩ => ⟨h2, h1⟩, fun ⟨h1, h2⟩ => ⟨h2, h1⟩⟩
theorem delAll_due {x : List TimT} (hasc : TAsc x) (hids : Ids1 x) (now : Int) : delAll x ((x.take (dueN x now)).map (·.1)) = x.drop (dueN x now) := by
  rw [delAll_filter, due_drop hasc, due_take hasc]
  refine List.filter_congr fun t ht => ?_
  rw [Bool.eq_iff_iff]
  simp only [List.mem_map, List.mem_filter, decide_eq_true_eq, Bool.not_eq_true', decide_eq_false_iff_not]
  constructor
  · intro h hn
    exact h ⟨t, ⟨ht, hn⟩, rfl⟩
  · rintro h ⟨u, ⟨hu, hun⟩, e⟩
    rw [ids1_one hids hu ht e] at hun
    exact h hun
theorem idinfoW : ∃ i, Try.prog.info? 34 = some i ∧ i.zero = some (.agg #[.int .i64 0, .int .i64 0]) ∧ i.size = 2 ∧ i.bytes = 16 := by
  have h : (Try.prog.info? 34).map (fun i => (i.zero, i.size, i.bytes)) = some (some (.agg #[.int .i64 0, .int .i64 0]), 2, 16) := by kernel_rfl
  cases hi : Try.prog.info? 34 with
  | none => rw [hi] at h; cases h
  | some i => rw [hi] at h; simp only [Option.map_some, Option.some.injEq, Prod.mk.injEq] at h; exact ⟨i, rfl, h.1, h.2.1, h.2.2⟩
theorem srcI {w : World} {e : TypeId} (r n : Int) : Src (w.alloc (.cells #[.int .i64 r, .int .i64 n] e)) 2 (some ⟨w.heap.size, 0, none⟩) 1 (flat2 [(r, n)]) := by
  refine ⟨rfl, fun j u hj => ⟨_, rfl, ?_⟩, fun u hu => flat2_one u hu⟩
  have hadd : (⟨w.heap.size, 0, none⟩ : Addr).add j = ⟨w.heap.size, j, none⟩ := by unfold Addr.add; split <;> simp_all
  rw [hadd]
  exact (new_cell w #[.int .i64 r, .int .i64 n] e j (by simpa [flat2, encId] using hj)).1
theorem srcA {w : World} {e : TypeId} (r n : Int) {a : Nat} (ha : w.heap.size = a) : Src (w.alloc (.cells #[.int .i64 r, .int .i64 n] e)) 2 (some ⟨a, 0, none⟩) 1 (flat2 [(r, n)]) := by subst ha; exact srcI r n
theorem sortdue (B gw bm n base : Nat) (x l : List TimT) (now : Int) (A : Option Addr) (m c : Nat) (w : World) (h : WhAt w gw bm n x) (hB : Blk w B 30 #[.pointer (some ⟨gw, 0, none⟩)]) (hown : w.ownsRow base 34 2 (.slice A m c) m (flat2 (dueIds l now)))
    (h1 : gw < base) (h2 : bm < base) (h3 : B < base) (hasc : TAsc x) (hids : Ids1 x) (hl : Ids1 l) (hsub : ∀ t ∈ l, t ∈ x) (hall : AllIn x l) (hm : m ≤ 1000000) :
    Calls Try.prog 56 #[.slice A m c, .func (.func 57) #[] #[.pointer (some ⟨B, 0, none⟩)]] w
      fun e w' => e = .returned (.tuple #[]) ∧ IdsAt w' A m ((x.take (dueN x now)).map (·.1)) ∧ Below base w w' := by
  have hwf : ∀ i ∈ dueIds l now, wfI i := fun i hi => by
    obtain ⟨t, ht, _, rfl⟩ := mem_dueIds.1 hi
    exact (h.mp.wf t (hsub t ht)).1
  obtain ⟨d, hd⟩ := lift_ids _ hwf
  have hso := due_sorted hasc hids hl hsub hall hd
  have hml : (dueIds l now).length = m := by have := hown.1; rw [flat2_length] at this; omega
  by_cases hn : Value.slice A m c = .slice none 0 0
  · injection hn with e1 e2 e3
    subst e1 e2 e3
    have hso2 := AnyF.slices_SortFunc_none (P := Try.prog) (ρ := Try.sortIds_ren) { Try.sortIds with } none 0 (.func (.func 57) #[] #[.pointer (some ⟨B, 0, none⟩)]) w
    change Calls Try.prog 56 _ _ _ at hso2
    refine hso2.mono ?_
    rintro e w' ⟨he, rfl⟩
    have hd0 : d = [] := by
      have : d.length = 0 := by rw [← List.length_map (f := (·.1)), hd, hml]
      exact List.eq_nil_of_length_eq_zero this
    rw [hd0] at hso
    rw [← hso]
    exact ⟨he, by simpa using IdsAt.nil, Below.refl _ _⟩
  · obtain ⟨g, cap, e, hb, hg, hmc, hcm, _, hr⟩ := row_of_own hown hn
    injection e with e1 e2 e3
    subst e1
    have hdl : d.length = m := by rw [← List.length_map (f := (·.1)), hd, hml]
    rw [← hd] at hr
    have hs := sortw_row B gw bm n g c x d w h hB hr hg (by omega) (by omega) (by omega) (by omega)
    rw [hdl, hso] at hs
    refine hs.mono ?_
    rintro e w' ⟨he, hr', _, hbe⟩
    refine ⟨he, hr'.ids ?_ (by unfold maxLen; omega) (fun i x hi => hi) (fun i hi => ?_), hbe.mono hb⟩
    · rw [← hso, List.length_map, List.length_mergeSort, hdl]
    · obtain ⟨t, ht, rfl⟩ := List.mem_map.1 hi
      exact (h.mp.wf t (List.mem_of_mem_take ht)).1
abbrev SQ (B : Nat) (cB : Array Value) (g : Nat) (cg : Array Value) (h : Nat) (ch : Array Value) (wx : World) : Prop := (∀ i, wx.cell? ⟨B, i, none⟩ = cB[i]?) ∧ (∀ i, wx.cell? ⟨g, i, none⟩ = cg[i]?) ∧ ∀ i, wx.cell? ⟨h, i, none⟩ = ch[i]?
set_option maxHeartbeats 8000000 in
theorem whdue_any (g b n : Nat) (x : List TimT) (now : Int) (w : World) (h : WhAt w g b n x) (hasc : TAsc x) (hids : Ids1 x) (hxl : x.length ≤ 100000) :
    Calls Try.prog 21 #[.pointer (some ⟨g, 0, none⟩), .int .i64 now] w
      (fun e w' => ∃ A m c, e = .returned (.slice A m c) ∧ IdsAt w' A m ((x.take (dueN x now)).map (·.1)) ∧ WhAt w' g b n (x.drop (dueN x now)) ∧ w.grownBy w' (some b)) := by
  obtain ⟨i0, hi, hz0, hzz, hz2⟩ := idinfoW
  have hgl := h.pb.lt
  have hbl := h.mp.lt
  have Ho := Lib.hid (show TAsc x ∧ Ids1 x from ⟨hasc, hids⟩)
  have hk := below_one (w := w) (.cells #[.pointer (some ⟨g, 0, none⟩)] 30)
  have hm := h.mp.keep hk
  have pc := (h.pb.keep hk).cell 0
  have H := Lib.hid h
  have BX : Blk (w.alloc (.cells #[.pointer (some ⟨g, 0, none⟩)] 30)) w.heap.size 30 #[.pointer (some ⟨g, 0, none⟩)] := Blk.new _ _ _
  clear h hasc hids
  go_enter Try.func21, Try.ntmps21
  go_wp2_with (at_range; refine wpList_range_ids rfl _ rfl _ rfl b n x (w.heap.size + 1) (by simp) rfl hm ?_; intro w0 hr0 hb0 hs0)
  go_frame
  replace BX := BX.keep hb0
  replace hb0 := hk.trans (hb0.mono hk.size)
  have hz0' : w.heap.size + 2 ≤ w0.heap.size := by omega
  clear hm pc hs0 hk
  go_loopw [5] (fun s5 wr => ∃ (l : List TimT) (k c' cc : Nat) (A' : Option Addr), s5 = .slice A' k c' ∧ k ≤ l.length ∧ RangeAt wr b (w.heap.size + 1) n x l cc ∧ wr.ownsRow (w.heap.size + 2) 34 2 (.slice A' k c') k (flat2 (dueIds l now)) ∧ Blk wr w.heap.size 30 #[.pointer (some ⟨g, 0, none⟩)] ∧ Below w.heap.size w wr ∧ w.heap.size + 2 ≤ wr.heap.size) (fun _ wr => wr.rangeLeft b (w.heap.size + 1))
  case atStart => exact ⟨[], 0, 0, _, none, rfl, Nat.le_refl _, hr0, World.ownsRow_nil _ _ _ _, BX, hb0, hz0'⟩
  case round =>
    clear hr0 hb0 BX hz0'
    obtain ⟨l, k, c', cc, A', rfl, hkl, hr, hown, BX, hb, hz⟩ := hrel
    have hll := hr.length
    go_wp2_with (at_next; refine wpList_next_ids rfl _ rfl _ rfl b (w.heap.size + 1) n cc x l rfl hr ?_ ?_)
    · intro hall _
      have hs := sortdue w.heap.size g b n (w.heap.size + 2) x l now A' k c' wr (H.out.keep hb) BX hown (by omega) (by omega) (by omega) Ho.out.1 Ho.out.2 hr.sub.2 hr.sub.1 hall (by omega)
      have hdel := delAll_due Ho.out.1 Ho.out.2 now
      obtain ⟨s, hsd⟩ : ∃ s, s = (x.take (dueN x now)).map (·.1) := ⟨_, rfl⟩
      rw [← hsd] at hs hdel
      have HS := Lib.hid hsd
      have Hdel := Lib.hid hdel
      clear hall hown hsd hdel
      go_wp2_with (go_at_call 56; (with_reducible refine hs.mono ?_); rintro e w7 ⟨rfl, hI, hb7⟩)
      have hb7w : Below w.heap.size w w7 := hb.trans (hb7.mono (by omega))
      have H7 := H.out.keep hb7w
      have B7 := BX.below hb7 (by omega)
      have hIl := hI.1
      have hz7 := Nat.le_trans hz hb7.size
      have hkk : k ≤ 100000 := by omega
      have Il := Lib.hid hIl
      clear hs hr BX hb hb7 hIl hkl hll
      go_loopw [32] (fun s32 wr => ∃ (j : Nat), j ≤ k ∧ s32 = .int .i64 j ∧ WhAt wr g b n (delAll x (s.take j)) ∧ IdsAt wr A' k s ∧ Blk wr w.heap.size 30 #[.pointer (some ⟨g, 0, none⟩)] ∧ w.grownBy wr (some b) ∧ w.heap.size + 2 ≤ wr.heap.size) (fun s32 _ => k - (intOf s32).toNat)
      case atStart => exact ⟨0, by omega, rfl, H7, hI, B7, grown_of_below hb7w _, hz7⟩
      case round =>
        clear H7 hI B7 hb7w
        obtain ⟨j, hj, rfl, HW, hI, BX, hgw, hz3⟩ := hrel
        by_cases hlt : j < k
        · obtain ⟨r, nn, bb, o, e1, wr0, wn0, rfl, c0, c1⟩ := hI.at_ hlt
          have j0 : (0 : Int) ≤ (j : Int) := by omega
          have j1 : (j : Int) < (k : Int) := by omega
          have Hst := Lib.hid (delAll_step (x := x) e1)
          have pc := HW.pb.cell
          have bc := BX.cell
          clear e1
          go_upto_region 11 with fail
          have kk := below_one (w := wr) (.cells #[.int .i64 r, .int .i64 nn] 34)
          have I0 : Blk (wr.alloc (.cells #[.int .i64 r, .int .i64 nn] 34)) wr.heap.size 34 #[.int .i64 r, .int .i64 nn] := Blk.new _ _ _
          have kd := kk.drew
          replace HW := HW.keep kd
          replace BX := Blk.keep BX kd
          replace hI := hI.keep kd
          replace I0 := Blk.keep I0 (Below.refl _ _).drew
          replace hgw := grown_post hgw kd
          have hz4 := Nat.le_trans hz3 kd.size
          clear pc bc c0 c1 kk kd hz3
          (refine wp_region_held_drew (S := (SQ w.heap.size #[.pointer (some ⟨g, 0, none⟩)] g #[.map (some b)] wr.heap.size #[.int .i64 r, .int .i64 nn])) (by kernel_rfl) ?_ (fun hHeld => ?_); (· exact ⟨BX.cell, HW.pb.cell, I0.cell⟩))
          (refine take_op (i := 0) (v := ?_) rfl (by kernel_rfl) (by kernel_rfl) (by kernel_rfl) (fun _ _ _ h => h) (by rfl) ?_ hHeld ?_; rotate_left; (· (intro wS hSw; (try dsimp only at hSw); go_simp; first | done | with_reducible rfl)); simp only [Act.put, List.setIfInBounds_toArray, List.set_cons_zero, List.set_cons_succ]); (refine take_op (i := 1) (v := ?_) rfl (by kernel_rfl) (by kernel_rfl) (by kernel_rfl) (fun _ _ _ h => h) (by rfl) ?_ hHeld ?_; rotate_left; (· (intro wS hSw; (try dsimp only at hSw); go_simp; first | done | with_reducible rfl)); simp only [Act.put, List.setIfInBounds_toArray, List.set_cons_zero, List.set_cons_succ]); (refine take_op (i := 2) (v := ?_) rfl (by kernel_rfl) (by kernel_rfl) (by kernel_rfl) (fun _ _ _ h => h) (by rfl) ?_ hHeld ?_; rotate_left; (· (intro wS hSw; (try dsimp only at hSw); go_simp; first | done | with_reducible rfl)); simp only [Act.put, List.setIfInBounds_toArray, List.set_cons_zero, List.set_cons_succ]); (refine take_op (i := 3) (v := ?_) rfl (by kernel_rfl) (by kernel_rfl) (by kernel_rfl) (fun _ _ _ h => h) (by rfl) ?_ hHeld ?_; rotate_left; (· (intro wS hSw; (try dsimp only at hSw); go_simp; first | done | with_reducible rfl)); simp only [Act.put, List.setIfInBounds_toArray, List.set_cons_zero, List.set_cons_succ]); (refine take_op (i := 4) (v := ?_) rfl (by kernel_rfl) (by kernel_rfl) (by kernel_rfl) (fun _ _ _ h => h) (by rfl) ?_ hHeld ?_; rotate_left; (· (intro wS hSw; (try dsimp only at hSw); go_simp; first | done | with_reducible rfl)); simp only [Act.put, List.setIfInBounds_toArray, List.set_cons_zero, List.set_cons_succ])
          obtain ⟨w', hrun, hm, hg⟩ := HW.mp.drop (i := (r, nn)) ⟨wr0, wn0⟩ 0
          have hcl := HW.cells hg
          (refine call_op (i := 5) rfl (by kernel_rfl) (by rfl) (fun K hK => ?_); go_simp; skip; refine hK.out _ _ ⟨(hcl.blk BX).cell, (hcl.blk HW.pb).cell, (hcl.blk I0).cell⟩ (fun hHeld2 => ?_); clear hK K hHeld; have hHeld := hHeld2; clear hHeld2; (try simp only [Act.put, List.setIfInBounds_toArray, List.set_cons_zero, List.set_cons_succ]))
          (refine wpAnyH_done (by kernel_rfl) ?_ _)
          have HW2 : WhAt w' g b n (outT (delAll x (s.take j)) (r, nn)) := ⟨hcl.blk HW.pb, hm⟩
          have BX2 := hcl.blk BX
          have hI2 := hcl.ids hI
          have hgw2 := hgw.trans hg
          have hz5 := Nat.le_trans hz4 hcl.size
          clear hHeld hrun hm hg hcl HW BX hI I0 hgw hz4
          go_wp2_with fail
          go_roundw
          case rel => exact ⟨j + 1, by omega, by go_num, by rw [Hst.out]; exact HW2, hI2, BX2, hgw2, hz5⟩
          case measure => simp [intOf]; omega
        · obtain rfl : j = k := by omega
          have nj : ¬ (j : Int) < (j : Int) := by omega
          rw [List.take_of_length_le (by have := Il.out; omega), Hdel.out] at HW
          go_wp2_with fail
          go_ret
          exact ⟨A', j, ⟨c', rfl⟩, by have e := HS.out; simp only [List.map_take] at e; rw [← e]; exact hI, HW, hgw⟩
    · intro t1 t2 t3 w1 c1 ht hr1 hlt hg hen
      have hcl := hr.cells hg
      replace hown := hcl.own hown
      replace BX := hcl.blk BX
      have hb1 := below_turn hb hg (by omega) hb.size
      have hz1 : w.heap.size + 2 ≤ w1.heap.size := Nat.le_trans hz hcl.size
      have Hm := Lib.hid (show w1.rangeLeft b (w.heap.size + 1) < wr.rangeLeft b (w.heap.size + 1) by rw [hr1.left_eq, hr.left_eq]; exact hlt.out.1)
      have hll1 := hr1.length
      rw [List.length_append] at hll1
      simp only [List.length_cons, List.length_nil] at hll1
      have hst := dueIds_snoc (l := l) (t := ((t1, t2), t3)) (now := now)
      have kk := below_one (w := w1) (.cells #[.int .i64 t1, .int .i64 t2] 34)
      clear ht hlt hg hr hcl hb hz hll
      by_cases hq : t3 ≤ now
      · rw [if_pos hq] at hst
        have Hst := Lib.hid hst
        clear hst
        have kk2 := below_one (w := w1.alloc (.cells #[.int .i64 t1, .int .i64 t2] 34)) (.cells #[.int .i64 t1, .int .i64 t2] 34)
        go_wp2_with ((at_builtin; go_loud (refine wpList_app _ rfl (.tmp 23) (.tmp 25) 29 rfl _ 34 i0 _ 2 16 Try.underlying29 hi hz0 hzz hz2 rfl (by omega) _ _ _ rfl (ownT_keep (ownT_keep hown kk) kk2) _ _ _ _ rfl (srcA t1 t2 (by simp)) ?h63 ?hby ?hbase ?_); (case h63 => (unfold maxLen; first | omega | (simp; done) | (simp; omega))); (case hby => first | omega | (simp; done) | (simp; omega)); (case hbase => first | omega | (simp; done) | (simp; omega)); intro v9 w9 hownw9 hgroww9 hatw9 holdw9))
        have ko := ownT_keep (ownT_keep hown kk) kk2
        have kz := kk2.size
        have kz1 := kk.size
        simp only [World.size_alloc] at kz kz1
        have hne : ∀ q, q < w.heap.size + 2 → some q ≠ (Value.slice A' k c').ownBlock := fun q hq e => by have := (ko.lt _ e.symm).1; omega
        have hr9 := ((hr1.keep kk).keep kk2).kept hgroww9 (hne _ (by omega)) (hne _ (by omega))
        have BX9 := blk_app ((BX.keep kk).keep kk2) ko hgroww9 (by omega)
        have hb9 : Below w.heap.size w w9 := below_app (below_call (below_call hb1 kk hb1.size) kk2 (by simp; omega)) ko hgroww9 (by omega) (by simp; omega)
        have hz9 : w.heap.size + 2 ≤ w9.heap.size := by have := hgroww9.size; simp at this; omega
        obtain ⟨A8, c8, rfl, _, _⟩ := ownT_form hownw9
        clear ko hne hgroww9 hatw9 holdw9 hown BX kk kk2 kz kz1
        go_roundw
        case rel => exact ⟨_, k + 1, c8, c1, A8, rfl, by rw [List.length_append]; simp; omega, hr9, by rw [Hst.out, flat2_append]; exact hownw9, BX9, hb9, hz9⟩
        case measure => rw [hr9.left_eq, ← hr1.left_eq]; exact Hm.out
      · rw [if_neg hq, List.append_nil] at hst
        have Hst := Lib.hid hst
        clear hst
        go_wp2_with fail
        go_roundw
        case rel => exact ⟨_, k, c', c1, A', rfl, by rw [List.length_append]; omega, hr1.keep kk, by rw [Hst.out]; exact ownT_keep hown kk, BX.keep kk, below_call hb1 kk hb1.size, by simp; omega⟩
        case measure => rw [(hr1.keep kk).left_eq, ← hr1.left_eq]; exact Hm.out
end Go.Proofs.Ytpdlhcfepafjeaa
