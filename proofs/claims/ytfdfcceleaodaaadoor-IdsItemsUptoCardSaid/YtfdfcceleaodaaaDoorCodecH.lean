/- The walk of codec.lay: the form of a tree behind the bytes that are there. -/
import Derived.Test.YtfdfcceleaodaaaDoorCodecG
import Derived.Test.YtfdfcceleaodaaaDoorAppS
import Derived.Test.YtfdfcceleaodaaaDoorNumB
namespace Go.Proofs.YtfdfcceleaodaaaDoor
open Go.RowKit
set_option linter.unusedVariables false
set_option linter.unusedSimpArgs false
set_option maxRecDepth 20000
attribute [local go_sem ↓] Go.wp_at_zero Go.wp_at_succ
attribute [local go_sem] World.cell?_alloc_some frozen_alloc_some
attribute [local go_sem] lt2 lt3 lt4 lt5
attribute [local simp] lt2 lt3 lt4 lt5

@[go_sem] theorem as_nn (v : Value) (w : World) : (Instr.typeAssert (.iface 23 v) 20 23 true).run Tryd.prog w = .ok (.tuple #[v, .bool true]) w := by kernel_rfl
@[go_sem] theorem as_sn (v : Value) (w : World) : (Instr.typeAssert (.iface 9 v) 20 23 true).run Tryd.prog w = .ok (.tuple #[.int .u64 0, .bool false]) w := by kernel_rfl
@[go_sem] theorem as_ss (v : Value) (w : World) : (Instr.typeAssert (.iface 9 v) 20 9 true).run Tryd.prog w = .ok (.tuple #[v, .bool true]) w := by kernel_rfl
@[go_sem] theorem as_ln (v : Value) (w : World) : (Instr.typeAssert (.iface 145 v) 20 23 true).run Tryd.prog w = .ok (.tuple #[.int .u64 0, .bool false]) w := by kernel_rfl
@[go_sem] theorem as_ls (v : Value) (w : World) : (Instr.typeAssert (.iface 145 v) 20 9 true).run Tryd.prog w = .ok (.tuple #[.string ByteArray.empty, .bool false]) w := by kernel_rfl
@[go_sem] theorem as_ll (v : Value) (w : World) : (Instr.typeAssert (.iface 145 v) 20 145 false).run Tryd.prog w = .ok v w := by kernel_rfl
theorem tforms_take_len (l : List Tree) (j : Nat) : (tforms (l.take j)).length ≤ (tforms l).length := by
  conv => rhs; rw [← List.take_append_drop j l, tforms_append]
  simp
theorem Tall.fit {w : World} {S : Nat → Prop} {t : Tree} {v : Value} (h : Tall w S t v) : Fit t := by
  induction h with
  | num n hn => exact .mk 0 n _ _ hn (by decide) (by decide) (fun t ht => by cases ht)
  | text s hs => exact .mk 1 0 s _ (by decide) (by unfold maxLen at hs; omega) (by decide) (fun t ht => by cases ht)
  | list l A m c vs hm hmc hc hcell hsub ih =>
    refine .mk 2 0 _ l (by decide) (by decide) (by unfold maxLen at hc; omega) fun t ht => ?_
    obtain ⟨i, hi, rfl⟩ := List.mem_iff_getElem.1 ht
    exact ih i _ (List.getElem?_eq_getElem hi)

set_option maxHeartbeats 4000000 in
theorem lay_num (n : Nat) (b : Value) (L : List Nat) (base : Nat) (w : World) (hn : n < 2 ^ 64) (hb : OwnB w base 5 b L) (hbase : base ≤ w.heap.size) (hL : L.length ≤ 900000000) :
    Calls Tryd.prog 68 #[b, .iface 23 (.int .u64 (n : Int))] w (Appends w base 5 b L (0 :: form n)) := by
  obtain ⟨i0, hi, hz0, hz1, hz2⟩ := info_parts info_u8
  have honto := Onto.refl hb
  have hown0 := (hb.keep (below_one (.cells #[.int .u8 ((0 : Nat) : Int)] 5))).1
  have hsrc : Src (w.alloc (.cells #[.int .u8 ((0 : Nat) : Int)] 5)) 1 (some ⟨w.heap.size, 0, none⟩) 1 [.int .u8 ((0 : Nat) : Int)] := src_one rfl
  go_enter Tryd.func68, Tryd.ntmps68
  go_wp2_with (at_builtin; go_loud (refine wpList_app _ rfl (.tmp 14) (.tmp 15) 36 rfl _ 5 i0 _ 1 1 Tryd.underlying36 hi hz0 hz1 hz2 rfl (by omega) _ _ _ rfl hown0 _ _ _ _ rfl hsrc ?h63 ?hby ?hbase ?_); (case h63 => (unfold maxLen; first | omega | (simp; done) | (simp; omega))); (case hby => first | omega | (simp; done) | (simp; omega)); (case hbase => first | omega | (simp; done) | (simp; omega)); intro v2 w2 hownw2 hgroww2 hatw2 holdw2)
  have hon := onto_one honto (by omega) hownw2 hgroww2 hatw2 holdw2
  refine (put_any _ _ base n w2 hon.own (Nat.le_trans hbase hon.grown.size) (by simp; omega) hn).mono ?_
  intro e w3 hp
  obtain ⟨b3, rfl, hon3, _⟩ := hon.appends hp
  go_wp2_with fail
  go_ret
  exact ⟨_, rfl, by simpa using hon3⟩

set_option maxHeartbeats 4000000 in
theorem lay_text (s : ByteArray) (b : Value) (L : List Nat) (base : Nat) (w : World) (hb : OwnB w base 5 b L) (hbase : base ≤ w.heap.size) (hL : L.length + s.size ≤ 900000000) :
    Calls Tryd.prog 68 #[b, .iface 9 (.string s)] w (Appends w base 5 b L (1 :: (form s.size ++ txt s))) := by
  obtain ⟨i0, hi, hz0, hz1, hz2⟩ := info_parts info_u8
  have honto := Onto.refl hb
  have hown0 := (hb.keep (below_one (.cells #[.int .u8 ((1 : Nat) : Int)] 5))).1
  have hsrc : Src (w.alloc (.cells #[.int .u8 ((1 : Nat) : Int)] 5)) 1 (some ⟨w.heap.size, 0, none⟩) 1 [.int .u8 ((1 : Nat) : Int)] := src_one rfl
  have hF := form_len (v := s.size) (by omega)
  have hc1 : IntKind.u64.wrap (s.size : Int) = (s.size : Int) := by rw [wrap_u64]; omega
  go_enter Tryd.func68, Tryd.ntmps68
  go_wp2_with (at_builtin; go_loud (refine wpList_app _ rfl (.tmp 22) (.tmp 23) 36 rfl _ 5 i0 _ 1 1 Tryd.underlying36 hi hz0 hz1 hz2 rfl (by omega) _ _ _ rfl hown0 _ _ _ _ rfl hsrc ?h63 ?hby ?hbase ?_); (case h63 => (unfold maxLen; first | omega | (simp; done) | (simp; omega))); (case hby => first | omega | (simp; done) | (simp; omega)); (case hbase => first | omega | (simp; done) | (simp; omega)); intro v2 w2 hownw2 hgroww2 hatw2 holdw2)
  have hon := onto_one honto (by omega) hownw2 hgroww2 hatw2 holdw2
  have hg2 := hon.grown.size
  refine (put_any _ _ base s.size w2 hon.own (Nat.le_trans hbase hg2) (by simp; omega) (by omega)).mono ?_
  intro e w3 hp
  obtain ⟨b3, rfl, hon3, _⟩ := hon.appends hp
  have hg3 := hon3.grown.size
  have hLen : (L ++ [1] ++ form s.size).length ≤ L.length + 10 := by simp; omega
  generalize hY : L ++ [1] ++ form s.size = Y at *
  have HY := Lib.hid hY
  clear hY hon hp
  go_wp2_with (at_builtin; go_loud (refine wpList_app_text rfl (.tmp 28) (.tmp 29) 36 9 rfl _ 5 i0 Tryd.underlying36 Tryd.underlying9 hi hz0 hz1 hz2 _ _ rfl hon3.own.1 _ rfl ?h63 ?hby ?hbase ?_); (case h63 => (unfold maxLen; first | omega | (simp; done) | (simp; omega))); (case hby => first | omega | (simp; done) | (simp; omega)); (case hbase => first | omega | (simp; done) | (simp; omega)); intro v4 w4 hownw4 hgroww4 hatw4 holdw4)
  go_ret
  have h4 := hon3.step (m := txt s) hownw4 (txt_lt s) hgroww4 hatw4 holdw4
  rw [← HY.out] at h4
  exact ⟨_, rfl, by simpa using h4⟩

set_option maxHeartbeats 8000000 in
theorem lay_list (l : List Tree) (u b : Value) (L : List Nat) (base : Nat) (S : Nat → Prop) (w : World) (ht : Tall w S (.mk 2 0 ByteArray.empty l) u) (hS : ∀ x, S x → some x ≠ b.ownBlock)
    (hb : OwnB w base 5 b L) (hbase : base ≤ w.heap.size) (hL : L.length + (form l.length).length + (tforms l).length ≤ 900000000)
    (ih : ∀ t ∈ l, ∀ (u b : Value) (L : List Nat) (S : Nat → Prop) (w : World), Tall w S t u → (∀ x, S x → some x ≠ b.ownBlock) → OwnB w base 5 b L → base ≤ w.heap.size → L.length + (tform t).length ≤ 900000001 →
      Calls Tryd.prog 68 #[b, u] w (Appends w base 5 b L (tform t))) :
    Calls Tryd.prog 68 #[b, u] w (Appends w base 5 b L (2 :: (form l.length ++ tforms l))) := by
  obtain ⟨i0, hi, hz0, hz1, hz2⟩ := info_parts info_u8
  obtain ⟨A, m, c, vs, rfl, hm, hmc, hc, hcell, hsub⟩ : ∃ (A : Option Addr) (m c : Nat) (vs : Nat → Value), u = .iface 145 (.slice A m c) ∧ m = l.length ∧ m ≤ c ∧ c ≤ maxLen ∧
      (∀ i, i < m → ∃ b o, A = some ⟨b, o, none⟩ ∧ S b ∧ w.cell? ⟨b, o + i, none⟩ = some (vs i)) ∧ ∀ (i : Nat) (t : Tree), l[i]? = some t → Tall w S t (vs i) := by
    cases ht with
    | list l A m c vs hm hmc hc hcell hsub => exact ⟨A, m, c, vs, rfl, hm, hmc, hc, hcell, hsub⟩
  have honto := Onto.refl hb
  have hown0 := (hb.keep (below_one (.cells #[.int .u8 ((2 : Nat) : Int)] 5))).1
  have hsrc : Src (w.alloc (.cells #[.int .u8 ((2 : Nat) : Int)] 5)) 1 (some ⟨w.heap.size, 0, none⟩) 1 [.int .u8 ((2 : Nat) : Int)] := src_one rfl
  have hml : m ≤ 9223372036854775807 := by unfold maxLen at hc; omega
  have hc1 : IntKind.u64.wrap (m : Int) = (m : Int) := by rw [wrap_u64]; omega
  have hput := put_any (base := base) (v := m)
  rw [hm] at hput
  have Hput := Lib.hid hput
  have Hm := Lib.hid hm
  have Hcell := Lib.hid hcell
  have Hsub := Lib.hid hsub
  have Ih := Lib.hid ih
  have HS := Lib.hid hS
  have htl := fun j => tforms_take_len l j
  have Htl := Lib.hid htl
  clear hm hcell hsub ih hS ht hput htl
  go_enter Tryd.func68, Tryd.ntmps68
  go_wp2_with (at_builtin; go_loud (refine wpList_app _ rfl (.tmp 33) (.tmp 34) 36 rfl _ 5 i0 _ 1 1 Tryd.underlying36 hi hz0 hz1 hz2 rfl (by omega) _ _ _ rfl hown0 _ _ _ _ rfl hsrc ?h63 ?hby ?hbase ?_); (case h63 => (unfold maxLen; first | omega | (simp; done) | (simp; omega))); (case hby => first | omega | (simp; done) | (simp; omega)); (case hbase => first | omega | (simp; done) | (simp; omega)); intro v2 w2 hownw2 hgroww2 hatw2 holdw2)
  have hon := onto_one honto (by omega) hownw2 hgroww2 hatw2 holdw2
  have hg2 := hon.grown.size
  have Hm2 : (m : Int) = ((l.length : Nat) : Int) := by rw [Hm.out]
  refine Calls.mono (R := Appends w2 base 5 v2 (L ++ [2]) (form l.length)) (by have := Hput.out v2 (L ++ [2]) w2 hon.own (Nat.le_trans hbase hg2) (by simp; omega) (by have := Hm.out; omega); rw [← Hm2] at this; exact this) ?_
  intro e w3 hp
  obtain ⟨b3, rfl, hon3, _⟩ := hon.appends hp
  clear hon hp
  go_wp2_with fail
  go_loopw [0, 42] (fun s0 s42 wr => ∃ j : Nat, j ≤ m ∧ s42 = .int .i64 j ∧ Onto w base 5 b L wr s0 (L ++ [2] ++ form l.length ++ tforms (l.take j))) (fun _ s42 _ => m - (intOf s42).toNat)
  case atStart => exact ⟨0, by omega, rfl, by simpa [tforms] using hon3⟩
  case round =>
    obtain ⟨j, hj, rfl, hon⟩ := hrel
    have hgr := hon.grown.size
    by_cases hlt : j < m
    · have hjl : j < l.length := by have := Hm.out; omega
      obtain ⟨g, o, rfl, hSg, hca⟩ := Hcell.out j hlt
      have hu := Hsub.out j _ (List.getElem?_eq_getElem hjl)
      have hu2 := (hu.there.grown hon.grown fun x hx => HS.out x hx.1)
      have hcr : wr.cell? ⟨g, o + j, none⟩ = some (vs j) := by
        rw [← hca]
        exact World.cell?_of_block (w := w) (hon.grown.block g (World.block_lt_of_cell? _ _ hca) (HS.out g hSg))
      have j0 : (0 : Int) ≤ (j : Int) := by omega
      have j1 : (j : Int) < (m : Int) := by omega
      have htk := tforms_take (List.getElem?_eq_getElem hjl)
      have Htk := Lib.hid htk
      have hlen := Htl.out (j + 1)
      rw [htk, List.length_append] at hlen
      have hne : ∀ x, (S x ∧ x < w.heap.size) → some x ≠ Value.ownBlock _ := fun x hx => show some x ≠ Value.ownBlock _ from by
        rcases hon.place with e | ⟨k, e, hk⟩
        · rw [e]; exact HS.out x hx.1
        · rw [e]; intro h; injection h; omega
      have hcall := Ih.out l[j] (List.getElem_mem hjl) (vs j) _ _ _ wr hu2 hne hon.own (Nat.le_trans hbase hgr) (by simp; omega)
      have Hon := Lib.hid hon
      clear htk hu hu2 hon hne
      go_wp2_with fail
      refine hcall.mono ?_
      intro e w4 hp
      obtain ⟨b4, rfl, hon4, _⟩ := Hon.out.appends hp
      have Hon4 := Lib.hid hon4
      clear hp hon4
      go_wp2_with fail
      go_roundw
      case rel => exact ⟨j + 1, by omega, by go_num, by rw [Htk.out, ← List.append_assoc]; exact Hon4.out⟩
      case measure => simp [intOf]; omega
    · have hall : l.take j = l := List.take_of_length_le (by have := Hm.out; omega)
      rw [hall] at hon
      go_wp2_with fail
      go_ret
      exact ⟨_, rfl, by simpa using hon⟩
theorem lay_any (t : Tree) (base : Nat) : ∀ (u b : Value) (L : List Nat) (S : Nat → Prop) (w : World), Tall w S t u → (∀ x, S x → some x ≠ b.ownBlock) → OwnB w base 5 b L → base ≤ w.heap.size → L.length + (tform t).length ≤ 900000001 →
      Calls Tryd.prog 68 #[b, u] w (Appends w base 5 b L (tform t)) := by
  refine Tree.ind (P := fun t => ∀ (u b : Value) (L : List Nat) (S : Nat → Prop) (w : World), Tall w S t u → (∀ x, S x → some x ≠ b.ownBlock) → OwnB w base 5 b L → base ≤ w.heap.size → L.length + (tform t).length ≤ 900000001 →
      Calls Tryd.prog 68 #[b, u] w (Appends w base 5 b L (tform t))) ?_ t
  intro k n s l ih u b L S w ht hS hb hbase hL
  have ht2 := ht
  cases ht with
  | num n hn => 
    simp [tform] at hL ⊢
    exact lay_num n b L base w hn hb hbase (by omega)
  | text s hs =>
    simp [tform] at hL ⊢
    exact lay_text s b L base w hb hbase (by rw [txt_length] at hL; omega)
  | list l A m c vs hm hmc hc hcell hsub =>
    simp [tform] at hL ⊢
    exact lay_list l _ b L base S w ht2 hS hb hbase (by omega) ih
end Go.Proofs.YtfdfcceleaodaaaDoor
