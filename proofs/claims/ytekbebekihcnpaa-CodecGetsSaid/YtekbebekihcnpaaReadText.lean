/- The walk of the reader's method item at a text. -/
import Derived.Test.YtekbebekihcnpaaReadItem
namespace Go.Proofs.Ytekbebekihcnpaa
open Go.RowKit
set_option linter.unusedVariables false
set_option linter.unusedSimpArgs false
set_option maxRecDepth 20000
attribute [local go_sem ↓] Go.wp_at_zero Go.wp_at_succ
attribute [local go_sem] World.cell?_alloc_some frozen_alloc_some
attribute [local go_sem] lt2 lt3 lt4 lt5
attribute [local simp] lt2 lt3 lt4 lt5

set_option maxHeartbeats 8000000 in
theorem item_text (g : Nat) (A : Option Addr) (n cap : Nat) (L : List Nat) (a d : Nat) (w : World) (h : RD w g A n cap L a) (ha : a < n) (hd : d < 16) (hk : L[a]? = some 1) (x : Got)
    (hx : x = if (ntake (L.drop (a + 1))).2.2 ≠ 0 then .error ((ntake (L.drop (a + 1))).2.2, a + 1) else if ((L.drop (a + 1)).drop (ntake (L.drop (a + 1))).2.1).length < (ntake (L.drop (a + 1))).1 then .error (2, a + 1 + (ntake (L.drop (a + 1))).2.1)
      else .ok (.mk 1 0 (ofBytes (((L.drop (a + 1)).drop (ntake (L.drop (a + 1))).2.1).take (ntake (L.drop (a + 1))).1)) [], ((L.drop (a + 1)).drop (ntake (L.drop (a + 1))).2.1).drop (ntake (L.drop (a + 1))).1, a + 1 + (ntake (L.drop (a + 1))).2.1 + (ntake (L.drop (a + 1))).1)) :
    Calls Try.prog 37 #[.pointer (some ⟨g, 0, none⟩), .int .i64 (d : Int)] w (ItemRead w g A n cap x) := by
  have Hrd := Lib.hid h
  have c0 : w.cell? ⟨g, 0, none⟩ = some (.slice A n cap) := by rw [h.blk.cell]; rfl
  have c1 : w.cell? ⟨g, 1, none⟩ = some (.int .i64 (a : Int)) := by rw [h.blk.cell]; rfl
  have f1 : w.frozen? ⟨g, 1, none⟩ = false := h.blk.frozen 1
  have hcm := h.max
  have hnc := h.le
  obtain ⟨ad, k', rfl, hk', hk2, hkc⟩ := h.bytes.at_ ha
  obtain rfl : 1 = k' := by rw [hk] at hk'; injection hk'
  have hne : ((a : Int) == (n : Int)) = false := by simp; omega
  have hd16 : ((d : Int) == 16) = false := by simp; omega
  have j0 : (0 : Int) ≤ (a : Int) := by omega
  have j1 : (a : Int) < (n : Int) := by omega
  unfold maxLen at hcm
  have Hx := Lib.hid hx
  clear h hk hk' hx
  go_enter Try.func37, Try.ntmps37
  go_wp2_with fail
  go_region_held3 (fun w' => Below w.heap.size w w' ∧ w'.cell? ⟨g, 0, none⟩ = some (.slice (some ad) n cap) ∧ w'.cell? ⟨g, 1, none⟩ = some (.int .i64 (a : Int)) ∧ w'.cell? (ad.add a) = some (.int .u8 ((1 : Nat) : Int))) ((go_split_ands; (repeat' apply And.intro) <;> (try simp only [World.cell?_drew, World.frozen?_drew]) <;> (first | with_reducible assumption | (exact cell_keep (by with_reducible assumption) (by with_reducible assumption)) | (exact frozen_keep (by with_reducible assumption) (by with_reducible assumption) (by with_reducible assumption)) | ((repeat' first | with_reducible exact Below.refl _ _ | with_reducible assumption | with_reducible refine Below.alloc ?_ ?_ _ | with_reducible refine Below.setCell ?_ ?_ _ | with_reducible apply Below.drew | with_reducible apply below_drewN | with_reducible refine below_call ?_ (by with_reducible assumption) ?_) <;> (first | omega | (simp; done) | (simp; omega) | (simp at *; omega)))))) (fail)
  all_goals
    go_split_ands
    go_wp2_with fail
    go_region_held3 (fun w' => Below w.heap.size w w' ∧ w'.cell? ⟨g, 0, none⟩ = some (.slice (some ad) n cap) ∧ w'.cell? ⟨g, 1, none⟩ = some (.int .i64 (a : Int)) ∧ w'.cell? (ad.add a) = some (.int .u8 ((1 : Nat) : Int))) ((go_split_ands; (repeat' apply And.intro) <;> (try simp only [World.cell?_drew, World.frozen?_drew]) <;> (first | with_reducible assumption | (exact cell_keep (by with_reducible assumption) (by with_reducible assumption)) | (exact frozen_keep (by with_reducible assumption) (by with_reducible assumption) (by with_reducible assumption)) | ((repeat' first | with_reducible exact Below.refl _ _ | with_reducible assumption | with_reducible refine Below.alloc ?_ ?_ _ | with_reducible refine Below.setCell ?_ ?_ _ | with_reducible apply Below.drew | with_reducible apply below_drewN | with_reducible refine below_call ?_ (by with_reducible assumption) ?_) <;> (first | omega | (simp; done) | (simp; omega) | (simp at *; omega)))))) (fail)
    all_goals
      go_split_ands
      go_wp2_with fail
      have hmv : Moved w g (some ad) n cap (w.setCell ⟨g, 1, none⟩ (.int .i64 ((a : Int) + 1))).drew.drew (a + 1) := (Hrd.out.store (a' := a + 1) (Below.refl _ _) (by omega)).drew.drew
      have hlt : (ntake (L.drop (a + 1))).2.2 = 0 → (ntake (L.drop (a + 1))).1 < 2 ^ 64 := fun he => (ntake_back (fun c hc => Hrd.out.bytes.lt c (List.mem_of_mem_drop hc)) he).2.2.2
      have hln := Hrd.out.bytes.1
      have hroom := room_any g (some ad) n cap L (a + 1) _ (Hrd.out.moved hmv)
      have Hmv := Lib.hid hmv
      rw [List.drop_drop] at Hx
      generalize ntake (L.drop (a + 1)) = y at *
      obtain ⟨v, m, er⟩ := y
      simp only at Hx
      rw [List.length_drop, ← hln] at Hx
      clear hlt hmv
      refine hroom.mono ?_
      rintro r w1 (⟨he, hfit, rfl, hm1⟩ | ⟨he, hfit, rfl, hgr⟩ | ⟨he, rfl, hgr⟩)
      · simp only at he hfit hm1
        subst he
        have hxx := Hx.out
        rw [if_neg (by simp), if_neg (by omega)] at hxx
        subst hxx
        have h1 := hm1.le
        have hrd1 := (Hrd.out.moved Hmv.out).moved hm1
        have Hm1 := Lib.hid hm1
        have q0 : w1.cell? ⟨g, 0, none⟩ = some (.slice (some ad) n cap) := by rw [hm1.blk.cell]; rfl
        have q1 : w1.cell? ⟨g, 1, none⟩ = some (.int .i64 ((a + 1 + m : Nat) : Int)) := by rw [hm1.blk.cell]; rfl
        have qf : w1.frozen? ⟨g, 1, none⟩ = false := hm1.blk.frozen 1
        obtain ⟨b, hb⟩ : ∃ b, b = a + 1 + m := ⟨_, rfl⟩
        obtain ⟨c, hc⟩ : ∃ c, c = b + v := ⟨_, rfl⟩
        have hcb : c - b = v := by omega
        have hst := hrd1.store (w1 := w1) (a' := c) (Below.refl _ _) (by omega)
        have hrd2 := hrd1.moved hst
        have hB := (hrd2.bytes.cutFrom (k := b) (cap := cap) (by omega) (by omega)).cutTo (k := c - b) (by omega)
        have hb9 := hB.keep ((Below.refl _ _).drew)
        have hcv := conv_bytes hb9 (cap - b)
        have Hb := Lib.hid hb
        rw [← hb] at q1 h1 hfit
        have Hst := Lib.hid hst
        obtain ⟨B2, hB2⟩ : ∃ B2, (if cap = b then some ad else some (ad.add b)) = B2 := ⟨_, rfl⟩
        rw [Option.map_some, hB2] at hcv
        have w1' : IntKind.i64.wrap ((b : Int) + (v : Int)) = (c : Int) := by rw [IntWalk.i64_in _ (by omega)]; omega
        have w2' : IntKind.i64.wrap ((c : Int) - (v : Int)) = (b : Int) := by rw [IntWalk.i64_in _ (by omega)]; omega
        have hbc : b ≤ c := by omega
        have hcn : c ≤ n := by omega
        have hst2 : Moved w1 g (some ad) n cap (w1.setCell ⟨g, 1, none⟩ (.int .i64 (c : Int))) c := Hst.out
        have p0 : (w1.setCell ⟨g, 1, none⟩ (.int .i64 (c : Int))).cell? ⟨g, 0, none⟩ = some (.slice (some ad) n cap) := by rw [hst2.blk.cell]; rfl
        have p1 : (w1.setCell ⟨g, 1, none⟩ (.int .i64 (c : Int))).cell? ⟨g, 1, none⟩ = some (.int .i64 (c : Int)) := by rw [hst2.blk.cell]; simp
        have Hst2 := Lib.hid hst2
        have Hc := Lib.hid hc
        have Hcb := Lib.hid hcb
        have i1 : ((c : Int) - (b : Int)).toNat = c - b := by omega
        have i2 : (0 : Int) ≤ (b : Int) := by omega
        have i3 : (b : Int) ≤ (c : Int) := by omega
        have i4 : (c : Int) ≤ (cap : Int) := by omega
        clear hb hst hrd2 hB hb9 hrd1 hm1 hroom hln hst2 hc hcb
        go_wp2_with fail
        go_region_held3 (fun w' => Below (w1.setCell ⟨g, 1, none⟩ (.int .i64 (c : Int))).heap.size (w1.setCell ⟨g, 1, none⟩ (.int .i64 (c : Int))) w' ∧ w'.cell? ⟨g, 0, none⟩ = some (.slice (some ad) n cap) ∧ w'.cell? ⟨g, 1, none⟩ = some (.int .i64 (c : Int)) ∧ Sem.run Try.prog (convert 28 9 (.slice B2 (c - b) (cap - b))) w' = .ok (.string (ofBytes (List.take (c - b) (List.drop b L)))) w') ((go_split_ands; (repeat' apply And.intro) <;> (try simp only [World.cell?_drew, World.frozen?_drew]) <;> (first | with_reducible assumption | (exact cell_keep (by with_reducible assumption) (by with_reducible assumption)) | (exact frozen_keep (by with_reducible assumption) (by with_reducible assumption) (by with_reducible assumption)) | ((repeat' first | with_reducible exact Below.refl _ _ | with_reducible assumption | with_reducible refine Below.alloc ?_ ?_ _ | with_reducible refine Below.setCell ?_ ?_ _ | with_reducible apply Below.drew | with_reducible apply below_drewN | with_reducible refine below_call ?_ (by with_reducible assumption) ?_) <;> (first | omega | (simp; done) | (simp; omega) | (simp at *; omega)))))) (fail)
        all_goals
          go_split_ands
          go_wp2_with fail
          go_ret
          have e1 : ofBytes (List.take v (List.drop (a + 1 + m) L)) = ofBytes (List.take (c - b) (List.drop b L)) := by rw [Hcb.out, Hb.out]
          have e2 : a + 1 + m + v = c := by rw [Hc.out, Hb.out]
          rw [e1, e2]
          exact ⟨_, rfl, .text _ (by rw [ofBytes_size, List.length_take]; unfold maxLen; omega), (Hmv.out.trans (Hm1.out.trans Hst2.out)).drew⟩
      · simp only at he hfit
        subst he
        have hxx := Hx.out
        rw [if_neg (by simp), if_pos (by omega)] at hxx
        subst hxx
        exact ⟨rfl, rfl, grown_same Hmv.out.grown hgr⟩
      · simp only at he
        have hxx := Hx.out
        rw [if_pos he] at hxx
        subst hxx
        exact ⟨rfl, rfl, grown_same Hmv.out.grown hgr⟩
end Go.Proofs.Ytekbebekihcnpaa
