/- The walk of the reader's method item at a list; and at any bytes. -/
import Derived.Test.YtekbebekihcnpaaReadText
namespace Go.Proofs.Ytekbebekihcnpaa
open Go.RowKit
set_option linter.unusedVariables false
set_option linter.unusedSimpArgs false
set_option maxRecDepth 20000
attribute [local go_sem ↓] Go.wp_at_zero Go.wp_at_succ
attribute [local go_sem] World.cell?_alloc_some frozen_alloc_some
attribute [local go_sem] lt2 lt3 lt4 lt5
attribute [local simp] lt2 lt3 lt4 lt5

def gnode : Gots → Got
  | .error e => .error e
  | .ok (l, r, a) => .ok (.mk 2 0 ByteArray.empty l, r, a)
set_option maxHeartbeats 16000000 in
theorem item_list (g : Nat) (A : Option Addr) (n cap : Nat) (L : List Nat) (a d fuel : Nat) (w : World) (h : RD w g A n cap L a) (ha : a < n) (hd : fuel + 1 + d = 16) (hn : n ≤ 1000000000) (hk : L[a]? = some 2)
    (ih : ∀ (a : Nat) (w : World), RD w g A n cap L a → Calls Try.prog 37 #[.pointer (some ⟨g, 0, none⟩), .int .i64 ((d + 1 : Nat) : Int)] w (ItemRead w g A n cap (gtake fuel (L.drop a) a))) (x : Got)
    (hx : x = if (ntake (L.drop (a + 1))).2.2 ≠ 0 then .error ((ntake (L.drop (a + 1))).2.2, a + 1) else if ((L.drop (a + 1)).drop (ntake (L.drop (a + 1))).2.1).length < (ntake (L.drop (a + 1))).1 then .error (2, a + 1 + (ntake (L.drop (a + 1))).2.1)
      else gnode (gmany (gtake fuel) (ntake (L.drop (a + 1))).1 ((L.drop (a + 1)).drop (ntake (L.drop (a + 1))).2.1) (a + 1 + (ntake (L.drop (a + 1))).2.1))) :
    Calls Try.prog 37 #[.pointer (some ⟨g, 0, none⟩), .int .i64 (d : Int)] w (ItemRead w g A n cap x) := by
  have hgl := h.blk.lt
  have hd' : d < 16 := by omega
  obtain ⟨i1, hi, hz0, hz1, hz2⟩ := any_parts
  have Ih := Lib.hid ih
  clear ih
  have Hrd := Lib.hid h
  have c0 : w.cell? ⟨g, 0, none⟩ = some (.slice A n cap) := by rw [h.blk.cell]; rfl
  have c1 : w.cell? ⟨g, 1, none⟩ = some (.int .i64 (a : Int)) := by rw [h.blk.cell]; rfl
  have f1 : w.frozen? ⟨g, 1, none⟩ = false := h.blk.frozen 1
  have hcm := h.max
  have hnc := h.le
  obtain ⟨ad, k', rfl, hk', hk2, hkc⟩ := h.bytes.at_ ha
  obtain rfl : 2 = k' := by rw [hk] at hk'; injection hk'
  have hne : ((a : Int) == (n : Int)) = false := by simp; omega
  have hd16 : ((d : Int) == 16) = false := by simp; omega
  have j0 : (0 : Int) ≤ (a : Int) := by omega
  have j1 : (a : Int) < (n : Int) := by omega
  unfold maxLen at hcm
  have Hx := Lib.hid hx
  clear h hk hk' hx
  have w22 : IntKind.i64.wrap 2 = 2 := by decide
  go_enter Try.func37, Try.ntmps37
  go_wp2_with fail
  go_region_held3 (fun w' => Below w.heap.size w w' ∧ w'.cell? ⟨g, 0, none⟩ = some (.slice (some ad) n cap) ∧ w'.cell? ⟨g, 1, none⟩ = some (.int .i64 (a : Int)) ∧ w'.cell? (ad.add a) = some (.int .u8 ((2 : Nat) : Int))) ((go_split_ands; (repeat' apply And.intro) <;> (try simp only [World.cell?_drew, World.frozen?_drew]) <;> (first | with_reducible assumption | (exact cell_keep (by with_reducible assumption) (by with_reducible assumption)) | (exact frozen_keep (by with_reducible assumption) (by with_reducible assumption) (by with_reducible assumption)) | ((repeat' first | with_reducible exact Below.refl _ _ | with_reducible assumption | with_reducible refine Below.alloc ?_ ?_ _ | with_reducible refine Below.setCell ?_ ?_ _ | with_reducible apply Below.drew | with_reducible apply below_drewN | with_reducible refine below_call ?_ (by with_reducible assumption) ?_) <;> (first | omega | (simp; done) | (simp; omega) | (simp at *; omega)))))) (fail)
  all_goals
    go_split_ands
    go_wp2_with fail
    go_region_held3 (fun w' => Below w.heap.size w w' ∧ w'.cell? ⟨g, 0, none⟩ = some (.slice (some ad) n cap) ∧ w'.cell? ⟨g, 1, none⟩ = some (.int .i64 (a : Int)) ∧ w'.cell? (ad.add a) = some (.int .u8 ((2 : Nat) : Int))) ((go_split_ands; (repeat' apply And.intro) <;> (try simp only [World.cell?_drew, World.frozen?_drew]) <;> (first | with_reducible assumption | (exact cell_keep (by with_reducible assumption) (by with_reducible assumption)) | (exact frozen_keep (by with_reducible assumption) (by with_reducible assumption) (by with_reducible assumption)) | ((repeat' first | with_reducible exact Below.refl _ _ | with_reducible assumption | with_reducible refine Below.alloc ?_ ?_ _ | with_reducible refine Below.setCell ?_ ?_ _ | with_reducible apply Below.drew | with_reducible apply below_drewN | with_reducible refine below_call ?_ (by with_reducible assumption) ?_) <;> (first | omega | (simp; done) | (simp; omega) | (simp at *; omega)))))) (fail)
    all_goals
      go_split_ands
      go_wp2_with fail
      have hmv : Moved w g (some ad) n cap (w.setCell ⟨g, 1, none⟩ (.int .i64 ((a : Int) + 1))).drew.drew (a + 1) := (Hrd.out.store (a' := a + 1) (Below.refl _ _) (by omega)).drew.drew
      have hlt : (ntake (L.drop (a + 1))).2.2 = 0 → (ntake (L.drop (a + 1))).1 < 2 ^ 64 := fun he => (ntake_back (fun c hc => Hrd.out.bytes.lt c (List.mem_of_mem_drop hc)) he).2.2.2
      have hln := Hrd.out.bytes.1
      have Hmv := Lib.hid hmv
      have hma : Moved w g (some ad) n cap ((w.setCell ⟨g, 1, none⟩ (.int .i64 ((a : Int) + 1))).alloc (.cells #[] 20)).drew.drew (a + 1) := ((Hrd.out.store (a' := a + 1) (Below.refl _ _) (by omega)).below ((Below.refl _ _).alloc (Nat.le_refl _) _)).drew.drew
      have Hma := Lib.hid hma
      have hroom := room_any g (some ad) n cap L (a + 1) _ (Hrd.out.moved hma)
      rw [List.drop_drop] at Hx
      generalize ntake (L.drop (a + 1)) = y at *
      obtain ⟨v, m, er⟩ := y
      simp only at Hx
      rw [List.length_drop, ← hln] at Hx
      clear hlt hmv hma
      refine hroom.mono ?_
      rintro r w1 (⟨he, hfit, rfl, hm1⟩ | ⟨he, hfit, rfl, hgr⟩ | ⟨he, rfl, hgr⟩)
      · simp only at he hfit hm1
        subst he
        have hxx := Hx.out
        rw [if_neg (by simp), if_neg (by omega)] at hxx
        have Hxx := Lib.hid hxx
        have h1 := hm1.le
        obtain ⟨b, hb⟩ : ∃ b, b = a + 1 + m := ⟨_, rfl⟩
        have hm : Moved w g (some ad) n cap w1 b := by rw [hb]; exact Hma.out.trans hm1
        have hrow0 : Row w1 w.heap.size (.slice (some ⟨w.heap.size, 0, none⟩) 0 0) [] [] := by
          have e0 : Row ((w.setCell ⟨g, 1, none⟩ (.int .i64 ((a : Int) + 1))).alloc (.cells #[] 20)).drew.drew w.heap.size (.slice (some ⟨w.heap.size, 0, none⟩) 0 0) [] [] := by
            refine ⟨?_, Nat.le_refl _, fun i t u _ hu => by simp at hu⟩
            have e1 : World.ownsRow ((w.setCell ⟨g, 1, none⟩ (.int .i64 ((a : Int) + 1))).alloc (.cells #[] 20)) w.heap.size 20 1 (.slice (some ⟨w.heap.size, 0, none⟩) 0 0) 0 [] := by
              have := World.ownsRow_made (e := 20) (size := 1) (base := w.heap.size) (w.setCell ⟨g, 1, none⟩ (.int .i64 ((a : Int) + 1))) #[] 0 (by simp) (Nat.zero_le _) (by simp)
              simpa using this
            exact e1
          exact e0.grown hm1.grown hgl
        have hx2 : x = gnode (gapp [] (gmany (gtake fuel) v (L.drop b) b)) := by
          rw [hb, Hxx.out]
          cases gmany (gtake fuel) v (L.drop (a + 1 + m)) (a + 1 + m) with
          | error e => rfl
          | ok y => rfl
        have Hx2 := Lib.hid hx2
        have hb1 := hm.le
        have Hln := Lib.hid hln
        clear hroom hm1 Hxx hxx hx2 hb hln
        go_wp2_with fail
        go_loopw [7, 98] (fun s7 s98 wr => ∃ (pre : List Tree) (us : List Value) (aj : Nat), s98 = .int .i64 us.length ∧ us.length = pre.length ∧ us.length ≤ v ∧ Row wr w.heap.size s7 pre us ∧ Moved w g (some ad) n cap wr aj ∧ x = gnode (gapp pre (gmany (gtake fuel) (v - us.length) (L.drop aj) aj))) (fun _ s98 _ => v - (intOf s98).toNat)
        case atStart => exact ⟨[], [], b, rfl, rfl, by simp, hrow0, hm, by simpa using Hx2.out⟩
        case round =>
          obtain ⟨pre, us, aj, rfl, hul, huv, hrow, hmj, hxj⟩ := hrel
          have hgr := hmj.grown.size
          have hajn := hmj.le
          have Hxj := Lib.hid hxj
          have Hmj := Lib.hid hmj
          have Hul := Lib.hid hul
          clear hrow0 hm hxj hmj hul
          by_cases hlt : us.length < v
          · have hcall := Ih.out aj wr (Hrd.out.moved Hmj.out)
            have hds : ((d + 1 : Nat) : Int) = (d : Int) + 1 := by omega
            rw [hds] at hcall
            have hj1 : (us.length : Int) < (v : Int) := by omega
            have hnx := Hxj.out
            rw [show v - us.length = (v - (us.length + 1)) + 1 by omega] at hnx
            obtain ⟨A3, c3, rfl, hl3, hc3⟩ := hrow.form
            have Hrow := Lib.hid hrow
            have Hnx := Lib.hid hnx
            clear hrow hnx
            go_wp2_with fail
            refine hcall.mono ?_
            rintro r w4 hr
            cases hg : gtake fuel (L.drop aj) aj with
            | error e =>
              obtain ⟨e, p⟩ := e
              rw [hg] at hr
              obtain ⟨rfl, hgr4⟩ := hr
              have hxe := Hnx.out
              rw [gmany_succ_error hg] at hxe
              simp only [gapp, gnode] at hxe
              subst hxe
              exact ⟨rfl, rfl, grown_same Hmj.out.grown hgr4⟩
            | ok y =>
              obtain ⟨t, r1, a1⟩ := y
              rw [hg] at hr
              obtain ⟨u, rfl, htall, hmv4⟩ := hr
              obtain ⟨ue, ux, rfl⟩ := htall.form
              have hgood := gtake_good fuel (d + 1) t (L.drop aj) r1 aj a1 (by omega) (by rw [List.length_drop, ← Hln.out]; omega) (fun c hc => Hrd.out.bytes.lt c (List.mem_of_mem_drop hc)) hg
              have hr1 : r1 = L.drop a1 := by
                have h3 := hgood.2.2.1
                have h4 := congrArg (List.drop (tform t).length) h3
                rw [List.drop_left, List.drop_drop, ← hgood.2.2.2] at h4
                exact h4.symm
              subst hr1
              have hxe := Hnx.out
              rw [gapp_step hg] at hxe
              have Hxe := Lib.hid hxe
              have hgl4 : g < w.heap.size := hgl
              have hrow4 := (Hrow.out.grown hmv4.grown hgl).below ((Below.refl _ _).alloc (Nat.le_refl _) (.cells #[.iface ue ux] 20))
              have htall4 := htall.under (w' := w4.alloc (.cells #[.iface ue ux] 20)) ((Below.refl _ _).alloc (Nat.le_refl _) _)
              have hsrc := src_one (w := w4) (e := 20) htall.one
              have hm4 := (Hmj.out.trans hmv4).below ((Below.refl _ _).alloc (Nat.le_refl _) (.cells #[.iface ue ux] 20))
              have hz4 := hmv4.grown.size
              have Htall4 := Lib.hid htall4
              have Hm4 := Lib.hid hm4
              clear hxe hgood hg htall htall4 hm4
              go_wp2_with ((at_builtin; go_loud (refine wpList_app _ rfl (.tmp 100) (.tmp 105) 78 rfl _ 20 i1 _ 1 16 Try.underlying78 hi hz0 hz1 hz2 rfl (by omega) _ _ _ rfl hrow4.own _ _ _ _ rfl hsrc ?h63 ?hby ?hbase ?_); (case h63 => (unfold maxLen; first | omega | (simp; done) | (simp; omega))); (case hby => first | omega | (simp; done) | (simp; omega)); (case hbase => first | omega | (simp; done) | (simp; omega)); intro v5 w5 hownw5 hgroww5 hatw5 holdw5))
              go_roundw
              case rel =>
                have hlow : ∀ k, (Value.slice A3 us.length c3).ownBlock = some k → k < wr.heap.size := fun k hk => (Hrow.out.own.lt k hk).2
                have hst := (hrow4.more Hul.out t).step (t := t) (u := .iface ue ux) (g := wr.heap.size) (by rw [Hul.out, List.getElem?_concat_length]) Htall4.out hgr hlow hownw5 hgroww5 hatw5
                refine ⟨pre ++ [t], us ++ [.iface ue ux], a1, (by first | rfl | (simp; done) | go_num), by simp [Hul.out], (by first | omega | (simp; done) | (simp; omega)), hst, Hm4.out.append hgl hrow4.own (Nat.le_refl _) hgroww5, ?_⟩
                rw [Hxe.out, List.length_append, List.length_singleton]
              case measure => simp [intOf]; omega
          · have hv0 : v - us.length = 0 := by omega
            obtain ⟨A3, c3, rfl, hl3, hc3⟩ := hrow.form
            have htl := hrow.tall Hul.out
            have Htl := Lib.hid htl
            have hxe := Hxj.out
            rw [hv0] at hxe
            simp only [gmany, gapp, gnode, List.append_nil] at hxe
            subst hxe
            clear hrow htl hv0
            go_wp2_with fail
            go_ret
            exact ⟨_, rfl, Htl.out, Hmj.out⟩
      · simp only at he hfit
        subst he
        have hxx := Hx.out
        rw [if_neg (by simp), if_pos (by omega)] at hxx
        subst hxx
        exact ⟨rfl, rfl, grown_same Hma.out.grown hgr⟩
      · simp only at he
        have hxx := Hx.out
        rw [if_pos he] at hxx
        subst hxx
        exact ⟨rfl, rfl, grown_same Hma.out.grown hgr⟩
end Go.Proofs.Ytekbebekihcnpaa
