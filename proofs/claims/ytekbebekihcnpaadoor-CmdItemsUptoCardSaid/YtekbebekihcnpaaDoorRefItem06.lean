/- The walks of stonecropref03.Num, Text, List and of stonecropref06.Item. -/
import Derived.Test.YtekbebekihcnpaaDoorCmdItem
namespace Go.Proofs.YtekbebekihcnpaaDoor
open Go.RowKit
set_option linter.unusedVariables false
set_option linter.unusedSimpArgs false
set_option maxRecDepth 20000
attribute [local go_sem ↓] Go.wp_at_zero Go.wp_at_succ
attribute [local go_sem] World.cell?_alloc_some frozen_alloc_some
attribute [local go_sem] lt2 lt3 lt4 lt5
attribute [local simp] lt2 lt3 lt4 lt5

theorem refnum_any (v : Nat) (hv : v < 2 ^ 63) (w : World) : Calls Tryd.prog 45 #[.int .i64 (v : Int)] w (Gives w (numV v)) := by
  have hw := u64_nat hv
  go_enter Tryd.func45, Tryd.ntmps45
  go_wp2_with fail
  refine bodyPost_ret (v := numV v) (by simp [results, Tryd.results45, go_sem, *, numV] <;> rfl) rfl ?_
  exact ⟨rfl, by ((repeat' first | with_reducible exact Below.refl _ _ | with_reducible assumption | with_reducible refine Below.alloc ?_ ?_ _ | with_reducible refine Below.setCell ?_ ?_ _ | with_reducible apply Below.drew | with_reducible apply below_drewN | with_reducible refine below_call ?_ (by with_reducible assumption) ?_) <;> (first | omega | (simp; done) | (simp; omega) | (simp at *; omega)))⟩
theorem reftext_any (s : ByteArray) (w : World) : Calls Tryd.prog 46 #[.string s] w (Gives w (textV s)) := by
  go_enter Tryd.func46, Tryd.ntmps46
  go_wp2_with fail
  refine bodyPost_ret (v := textV s) (by simp [results, Tryd.results46, go_sem, *, textV] <;> rfl) rfl ?_
  exact ⟨rfl, by ((repeat' first | with_reducible exact Below.refl _ _ | with_reducible assumption | with_reducible refine Below.alloc ?_ ?_ _ | with_reducible refine Below.setCell ?_ ?_ _ | with_reducible apply Below.drew | with_reducible apply below_drewN | with_reducible refine below_call ?_ (by with_reducible assumption) ?_) <;> (first | omega | (simp; done) | (simp; omega) | (simp at *; omega)))⟩
theorem reflist_any (A : Option Addr) (m c : Nat) (w : World) : Calls Tryd.prog 44 #[.slice A m c] w (Gives w (.agg #[.int .i64 2, .int .u64 0, .string ByteArray.empty, .slice A m c])) := by
  go_enter Tryd.func44, Tryd.ntmps44
  go_wp2_with fail
  refine bodyPost_ret (v := .agg #[.int .i64 2, .int .u64 0, .string ByteArray.empty, .slice A m c]) (by simp [results, Tryd.results44, go_sem, *] <;> rfl) rfl ?_
  exact ⟨rfl, by ((repeat' first | with_reducible exact Below.refl _ _ | with_reducible assumption | with_reducible refine Below.alloc ?_ ?_ _ | with_reducible refine Below.setCell ?_ ?_ _ | with_reducible apply Below.drew | with_reducible apply below_drewN | with_reducible refine below_call ?_ (by with_reducible assumption) ?_) <;> (first | omega | (simp; done) | (simp; omega) | (simp at *; omega)))⟩
theorem add_blk (a : Addr) (i : Nat) : (a.add i).block = a.block := by unfold Addr.add; split <;> rfl
theorem Items.set_leaf {w : World} {g cc : Nat} {k c q r : Nat} {y x : ByteArray} {p : Addr} (h : Items w (some ⟨g, 0, none⟩) 6 cc [.mk 0 k ByteArray.empty [], .mk 0 c ByteArray.empty [], .mk 0 q ByteArray.empty [], .mk 1 0 y [], .mk 1 0 x [], .mk 0 r ByteArray.empty []]) (hp : p.block ≠ g) (u : Value) : Items (w.setCell p u) (some ⟨g, 0, none⟩) 6 cc [.mk 0 k ByteArray.empty [], .mk 0 c ByteArray.empty [], .mk 0 q ByteArray.empty [], .mk 1 0 y [], .mk 1 0 x [], .mk 0 r ByteArray.empty []] := by
  obtain ⟨h1, h2, h3, vs, h4, h5⟩ := h
  refine ⟨h1, h2, h3, vs, fun i hi => ?_, fun i t hi => ?_⟩
  · obtain ⟨ad, e, hc⟩ := h4 i hi
    injection e with e
    subst e
    exact ⟨_, rfl, fun j v hv => cell_far (hc j v hv) (by rw [add_blk]; exact hp)⟩
  · match i with
    | 0 => simp at hi; subst hi; exact (h5 0 _ rfl).leaf
    | 1 => simp at hi; subst hi; exact (h5 1 _ rfl).leaf
    | 2 => simp at hi; subst hi; exact (h5 2 _ rfl).leaf
    | 3 => simp at hi; subst hi; exact (h5 3 _ rfl).leaf
    | 4 => simp at hi; subst hi; exact (h5 4 _ rfl).leaf
    | 5 => simp at hi; subst hi; exact (h5 5 _ rfl).leaf
    | i + 6 => simp at hi
set_option maxHeartbeats 16000000 in
theorem refitem_any (k c q : Nat) (y x : ByteArray) (r : Nat) (hk : k < 2 ^ 63) (hc : c < 2 ^ 63) (hq : q < 2 ^ 63) (hy : y.size ≤ maxLen) (hx : x.size ≤ maxLen) (hr : r < 2 ^ 63) (w : World) :
    Calls Tryd.prog 20 #[.agg #[.int .i64 (k : Int), .int .i64 (c : Int), .int .i64 (q : Int), .string y, .string x, .int .i64 (r : Int)]] w (fun e w' => ∃ g, e = .returned (.agg #[.int .i64 2, .int .u64 0, .string ByteArray.empty, .slice (some ⟨g, 0, none⟩) 6 6]) ∧ Items w' (some ⟨g, 0, none⟩) 6 6 [.mk 0 k ByteArray.empty [], .mk 0 c ByteArray.empty [], .mk 0 q ByteArray.empty [], .mk 1 0 y [], .mk 1 0 x [], .mk 0 r ByteArray.empty []] ∧ Below w.heap.size w w') := by
  have hik := fun W => refnum_any k hk W
  have hic := fun W => refnum_any c hc W
  have hiq := fun W => refnum_any q hq W
  have hir := fun W => refnum_any r hr W
  have hty := fun W => reftext_any y W
  have htx := fun W => reftext_any x W
  have hli : ∀ W : World, Calls Tryd.prog 44 #[.slice (some ⟨W.heap.size, 0, none⟩) 6 6] (W.alloc (.cells #[.int .i64 0, .int .u64 (k : Int), .string ByteArray.empty, .slice none 0 0, .int .i64 0, .int .u64 (c : Int), .string ByteArray.empty, .slice none 0 0, .int .i64 0, .int .u64 (q : Int), .string ByteArray.empty, .slice none 0 0, .int .i64 1, .int .u64 0, .string y, .slice none 0 0, .int .i64 1, .int .u64 0, .string x, .slice none 0 0, .int .i64 0, .int .u64 (r : Int), .string ByteArray.empty, .slice none 0 0] 33)) (fun e w' => ∃ g, W.heap.size = g ∧ e = .returned (.agg #[.int .i64 2, .int .u64 0, .string ByteArray.empty, .slice (some ⟨g, 0, none⟩) 6 6]) ∧ Items w' (some ⟨g, 0, none⟩) 6 6 [.mk 0 k ByteArray.empty [], .mk 0 c ByteArray.empty [], .mk 0 q ByteArray.empty [], .mk 1 0 y [], .mk 1 0 x [], .mk 0 r ByteArray.empty []] ∧ Below (W.alloc (.cells #[.int .i64 0, .int .u64 (k : Int), .string ByteArray.empty, .slice none 0 0, .int .i64 0, .int .u64 (c : Int), .string ByteArray.empty, .slice none 0 0, .int .i64 0, .int .u64 (q : Int), .string ByteArray.empty, .slice none 0 0, .int .i64 1, .int .u64 0, .string y, .slice none 0 0, .int .i64 1, .int .u64 0, .string x, .slice none 0 0, .int .i64 0, .int .u64 (r : Int), .string ByteArray.empty, .slice none 0 0] 33)).heap.size (W.alloc (.cells #[.int .i64 0, .int .u64 (k : Int), .string ByteArray.empty, .slice none 0 0, .int .i64 0, .int .u64 (c : Int), .string ByteArray.empty, .slice none 0 0, .int .i64 0, .int .u64 (q : Int), .string ByteArray.empty, .slice none 0 0, .int .i64 1, .int .u64 0, .string y, .slice none 0 0, .int .i64 1, .int .u64 0, .string x, .slice none 0 0, .int .i64 0, .int .u64 (r : Int), .string ByteArray.empty, .slice none 0 0] 33)) w') := fun W =>
    (reflist_any _ 6 6 _).mono fun e w' ⟨h1, h2⟩ => ⟨W.heap.size, rfl, h1, (six_items W k c q y x r hk hc hq hy hx hr).keep h2, h2⟩
  unfold numV at hik hic hiq hir
  unfold textV at hty htx
  go_enter Tryd.func20, Tryd.ntmps20
  go_wp2_with fail
  have hpre : ItS w k c q y x r ((w.alloc (.cells #[.int .i64 (k : Int), .int .i64 (c : Int), .int .i64 (q : Int), .string y, .string x, .int .i64 (r : Int)] 23)).alloc (.cells #[.int .i64 0, .int .u64 0, .string ⟨#[]⟩, .slice none 0 0] 33)) := ⟨by ((repeat' first | with_reducible exact Below.refl _ _ | with_reducible assumption | with_reducible refine Below.alloc ?_ ?_ _ | with_reducible refine Below.setCell ?_ ?_ _ | with_reducible apply Below.drew | with_reducible apply below_drewN | with_reducible refine below_call ?_ (by with_reducible assumption) ?_) <;> (first | omega | (simp; done) | (simp; omega) | (simp at *; omega))), by simp, by simp [go_sem], by simp [go_sem], by simp [go_sem], by simp [go_sem], by simp [go_sem], by simp [go_sem], by simp [go_sem], by simp [go_sem], by simp [go_sem], by simp [go_sem], by simp [go_sem], by simp [go_sem], by simp [go_sem], by simp [go_sem]⟩
  go_region_held3 (fun wx => Below w.heap.size w wx ∧ w.heap.size + 1 < wx.heap.size ∧ wx.cell? ⟨w.heap.size, 0, none⟩ = some (.int .i64 (k : Int)) ∧ wx.cell? ⟨w.heap.size, 1, none⟩ = some (.int .i64 (c : Int)) ∧ wx.cell? ⟨w.heap.size, 2, none⟩ = some (.int .i64 (q : Int)) ∧ wx.cell? ⟨w.heap.size, 3, none⟩ = some (.string y) ∧ wx.cell? ⟨w.heap.size, 4, none⟩ = some (.string x) ∧ wx.cell? ⟨w.heap.size, 5, none⟩ = some (.int .i64 (r : Int)) ∧ (wx.cell? ⟨w.heap.size + 1, 0, none⟩).isSome = true ∧ (wx.cell? ⟨w.heap.size + 1, 1, none⟩).isSome = true ∧ (wx.cell? ⟨w.heap.size + 1, 2, none⟩).isSome = true ∧ (wx.cell? ⟨w.heap.size + 1, 3, none⟩).isSome = true ∧ wx.frozen? ⟨w.heap.size + 1, 0, none⟩ = false ∧ wx.frozen? ⟨w.heap.size + 1, 1, none⟩ = false ∧ wx.frozen? ⟨w.heap.size + 1, 2, none⟩ = false ∧ wx.frozen? ⟨w.heap.size + 1, 3, none⟩ = false)
    ((repeat' first | with_reducible assumption | with_reducible refine ItS.drew ?_ | with_reducible refine ItS.alloc ?_ _ | with_reducible refine ItS.set4 ?_ _ _ _ _ | with_reducible refine ItS.keep (by with_reducible assumption) ?_))
    (first | (go_at_call 45; (with_reducible refine (hik _).mono ?_); rintro e w1 ⟨rfl, hb1⟩; have hz1 := hb1.size; (try simp at hz1)) | (go_at_call 45; (with_reducible refine (hic _).mono ?_); rintro e w1 ⟨rfl, hb1⟩; have hz1 := hb1.size; (try simp at hz1)) | (go_at_call 45; (with_reducible refine (hiq _).mono ?_); rintro e w1 ⟨rfl, hb1⟩; have hz1 := hb1.size; (try simp at hz1)) | (go_at_call 45; (with_reducible refine (hir _).mono ?_); rintro e w1 ⟨rfl, hb1⟩; have hz1 := hb1.size; (try simp at hz1)) | (go_at_call 46; (with_reducible refine (hty _).mono ?_); rintro e w1 ⟨rfl, hb1⟩; have hz1 := hb1.size; (try simp at hz1)) | (go_at_call 46; (with_reducible refine (htx _).mono ?_); rintro e w1 ⟨rfl, hb1⟩; have hz1 := hb1.size; (try simp at hz1)) | (go_at_call 44; (with_reducible refine (hli _).mono ?_); rintro e w1 ⟨g9, hg9, rfl, hit9, hb1⟩; have hz1 := hb1.size; (try simp at hz1); obtain ⟨u0, u1, u2, u3, hu0, hu1, hu2, hu3, hv0, hv1, hv2, hv3⟩ := ItS.some4 (ItS.keep hb1 (by with_reducible assumption : ItS w k c q y x r _)); have HS := Lib.hid (ItS.keep2 hb1 (by with_reducible assumption : ItS w k c q y x r _))))
  go_wp2_with fail
  refine bodyPost_ret (v := .agg #[.int .i64 2, .int .u64 0, .string ByteArray.empty, .slice (some ⟨g9, 0, none⟩) 6 6]) (by simp [results, Tryd.results20, go_sem, *] <;> rfl) rfl ?_
  obtain ⟨hlo, hS1⟩ := HS.out
  simp only [World.size_alloc, hg9] at hlo
  have hne : w.heap.size + 1 ≠ g9 := by omega
  exact ⟨g9, rfl, (((hit9.set_leaf (p := ⟨w.heap.size + 1, 0, none⟩) hne _).set_leaf (p := ⟨w.heap.size + 1, 1, none⟩) hne _).set_leaf (p := ⟨w.heap.size + 1, 2, none⟩) hne _).set_leaf (p := ⟨w.heap.size + 1, 3, none⟩) hne _, (hS1.set4 _ _ _ _).1⟩
end Go.Proofs.YtekbebekihcnpaaDoor
