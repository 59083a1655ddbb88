/- The walk of stonecropref03.take at a list. -/
import Derived.Test.YtekbebekihcnpaaRefTakeC
import Derived.Test.YtekbebekihcnpaaReadList
namespace Go.Proofs.Ytekbebekihcnpaa
open Go.RowKit
set_option linter.unusedVariables false
set_option linter.unusedSimpArgs false
set_option maxRecDepth 20000
attribute [local go_sem ↓] Go.wp_at_zero Go.wp_at_succ
attribute [local go_sem] World.cell?_alloc_some frozen_alloc_some
attribute [local go_sem] lt2 lt3 lt4 lt5
attribute [local simp] lt2 lt3 lt4 lt5

theorem below_set7 {B g : Nat} {w w4 : World} (h : Below B w w4) (hg : B ≤ g) (a b c d e f k : Value) :
    Below B w (((((((w4.setCell ⟨g, 0, none⟩ a).setCell ⟨g, 1, none⟩ b).setCell ⟨g, 2, none⟩ c).setCell ⟨g, 3, none⟩ d).setCell ⟨g, 4, none⟩ e).setCell ⟨g, 5, none⟩ f).setCell ⟨g, 6, none⟩ k) :=
  ((((((h.setCell (p := ⟨g, 0, none⟩) hg a).setCell (p := ⟨g, 1, none⟩) hg b).setCell (p := ⟨g, 2, none⟩) hg c).setCell (p := ⟨g, 3, none⟩) hg d).setCell (p := ⟨g, 4, none⟩) hg e).setCell (p := ⟨g, 5, none⟩) hg f).setCell (p := ⟨g, 6, none⟩) hg k
theorem hin_set7 {g : Nat} {w4 : World} {S : Nat → Prop} {t : Tree} {v : Value} (h : HoldsIn w4 S t v) (hg : ¬ S g) (a b c d e f k : Value) :
    HoldsIn (((((((w4.setCell ⟨g, 0, none⟩ a).setCell ⟨g, 1, none⟩ b).setCell ⟨g, 2, none⟩ c).setCell ⟨g, 3, none⟩ d).setCell ⟨g, 4, none⟩ e).setCell ⟨g, 5, none⟩ f).setCell ⟨g, 6, none⟩ k) S t v :=
  ((((((h.set (p := ⟨g, 0, none⟩) hg a).set (p := ⟨g, 1, none⟩) hg b).set (p := ⟨g, 2, none⟩) hg c).set (p := ⟨g, 3, none⟩) hg d).set (p := ⟨g, 4, none⟩) hg e).set (p := ⟨g, 5, none⟩) hg f).set (p := ⟨g, 6, none⟩) hg k
/-- The rest behind an item that was read. -/
theorem took_rest {fuel d aj a1 : Nat} {tt : Tree} {L r1 : List Nat} (hd : fuel + d = 16) (hl : L.length < 2 ^ 62) (hc : ∀ c ∈ L, c < 256) (haj : aj ≤ L.length)
    (hg : gtake fuel (L.drop aj) aj = .ok (tt, r1, a1)) : r1 = L.drop a1 ∧ a1 ≤ L.length := by
  have hgood := gtake_good fuel d tt (L.drop aj) r1 aj a1 hd (by rw [List.length_drop]; omega) (fun c h => hc c (List.mem_of_mem_drop h)) hg
  have h3 := hgood.2.2.1
  have h4 := congrArg (List.drop (tform tt).length) h3
  rw [List.drop_left, List.drop_drop, ← hgood.2.2.2] at h4
  have h5 := congrArg List.length h3
  rw [List.length_drop, List.length_append] at h5
  have h6 := hgood.2.2.2
  refine ⟨h4.symm, ?_⟩
  generalize (tform tt).length = q at h5 h6
  clear h3 h4 hgood hg
  omega
theorem grown_cell_row {w w' : World} {row : Option Nat} (hg : w.grownBy w' row) {a : Addr} {v : Value} (h : w.cell? a = some v) (hr : some a.block ≠ row) : w'.cell? a = some v := by
  rw [← h]
  exact World.cell?_of_block (w := w) (hg.block _ (World.block_lt_of_cell? _ _ h) hr)
/-- An item more is appended to the list of the item in block B+1, and stored there. -/
theorem take_grow {B : Nat} {wb wr w4 w5 w6 : World} {A3 A6 : Option Addr} {c3 c6 : Nat} {us : List Value} {pre : List Tree} {tt : Tree} {u : Value}
    (hbr : Below (B + 1) wb wr) (hzr : B + 1 ≤ wr.heap.size) (hz : B + 2 ≤ wr.heap.size) (hbw4 : Below wr.heap.size wr w4) (hb5 : Below w4.heap.size w4 w5)
    (hrow : RowS wr (B + 2) (.slice A3 us.length c3) pre us) (hul : us.length = pre.length) (hblk : Blk wr (B + 1) 25 #[.int .i64 2, .int .u64 0, .string ByteArray.empty, .slice A3 us.length c3])
    (hin : HoldsIn w4 (fun b => wr.heap.size ≤ b) tt u)
    (hown : w6.ownsRow (B + 2) 25 4 (.slice A6 (us.length + 1) c6) (us.length + 1) (flatL us ++ u.cells.toList)) (hgr : w5.grownBy w6 (Value.slice A3 us.length c3).ownBlock)
    (hat : (Value.slice A6 (us.length + 1) c6).ownBlock = (Value.slice A3 us.length c3).ownBlock ∨ (Value.slice A6 (us.length + 1) c6).ownBlock = some w5.heap.size) :
    RowS (w6.setCell ⟨B + 1, 3, none⟩ (.slice A6 (us.length + 1) c6)) (B + 2) (.slice A6 (us.length + 1) c6) (pre ++ [tt]) (us ++ [u]) ∧
    Blk (w6.setCell ⟨B + 1, 3, none⟩ (.slice A6 (us.length + 1) c6)) (B + 1) 25 #[.int .i64 2, .int .u64 0, .string ByteArray.empty, .slice A6 (us.length + 1) c6] ∧
    Below (B + 1) wb (w6.setCell ⟨B + 1, 3, none⟩ (.slice A6 (us.length + 1) c6)) := by
  have z4 := hbw4.size
  have z5 := hb5.size
  have hrow5 := (hrow.below hbw4).below hb5
  have hin5 := hin.under hb5
  have hb5' : Below (B + 1) wb w5 := below_call (below_call hbr hbw4 hzr) hb5 (by omega)
  have hb6 := below_app hb5' hrow5.own hgr (Nat.le_succ _) (by omega)
  have hb7 := hb6.setCell (p := ⟨B + 1, 3, none⟩) (Nat.le_refl _) (.slice A6 (us.length + 1) c6)
  have hblk5 := (hblk.keep hbw4).keep hb5
  have hblk6 : Blk w6 (B + 1) 25 _ := (hgr.block _ hblk5.lt (fun e => by have := (hrow5.own.lt _ e.symm).1; omega)).trans hblk5
  have hblk7 := hblk6.set_ 3 (.slice A6 (us.length + 1) c6)
  have hst := (hrow5.more hul tt).step (t := tt) (u := u) (g := wr.heap.size) (by rw [hul, List.getElem?_concat_length]) hin5 hz (fun k hk => (hrow.own.lt k hk).2) hown hgr hat
  have hst7 := hst.set (p := ⟨B + 1, 3, none⟩) (Nat.lt_succ_self _) (.slice A6 (us.length + 1) c6)
  exact ⟨hst7, by simpa using hblk7, hb7⟩

set_option maxHeartbeats 8000000 in
theorem rtake_list (A : Option Addr) (n cap : Nat) (L : List Nat) (a d fuel : Nat) (w : World) (hb : Bytes w A n L) (hnc : n ≤ cap) (hcm : cap ≤ maxLen) (hn9 : n ≤ 1000000000) (ha : a < n) (hfd : fuel + 1 + d = 16) (hk : L[a]? = some 2) (x : Got)
    (he : (ntake (L.drop (a + 1))).2.2 = 0) (hs : ¬ ((L.drop (a + 1)).drop (ntake (L.drop (a + 1))).2.1).length < (ntake (L.drop (a + 1))).1)
    (ih : ∀ (a : Nat) (w : World), a ≤ n → Bytes w A n L → Calls Try.prog 39 #[.slice A n cap, .int .i64 (a : Int), .int .i64 ((d : Int) + 1)] w (Taken w (gtake fuel (L.drop a) a)))
    (hx : x = gnode (gmany (gtake fuel) (ntake (L.drop (a + 1))).1 ((L.drop (a + 1)).drop (ntake (L.drop (a + 1))).2.1) (a + 1 + (ntake (L.drop (a + 1))).2.1))) :
    Calls Try.prog 39 #[.slice A n cap, .int .i64 (a : Int), .int .i64 (d : Int)] w (Taken w x) := by
  have hd : d ≤ 15 := by omega
  have Hlim : RowKit.Hid (∀ (aj a1 : Nat) (tt : Tree) (r1 : List Nat), aj ≤ n → gtake fuel (L.drop aj) aj = .ok (tt, r1, a1) → r1 = L.drop a1 ∧ a1 ≤ n) := Lib.hid fun aj a1 tt r1 haj hg => by
    have hln := hb.1
    have h := took_rest (fuel := fuel) (d := d + 1) (by omega) (by omega) hb.lt (by omega) hg
    exact ⟨h.1, by omega⟩
  have Ih := Lib.hid ih
  clear ih
  have hne : ((a : Int) == (n : Int)) = false := by simp; omega
  have hd15 : ¬ (15 : Int) < (d : Int) := by omega
  have hcm2 := hcm
  unfold maxLen at hcm2
  have hln := hb.1
  obtain ⟨ad, k', rfl, hk', hk2, hkc⟩ := hb.at_ ha
  obtain rfl : 2 = k' := by rw [hk] at hk'; injection hk'
  have j0 : (0 : Int) ≤ (a : Int) := by omega
  have j1 : (a : Int) < (n : Int) := by omega
  obtain ⟨b, hbb⟩ : ∃ b, b = a + 1 := ⟨_, rfl⟩
  have hbw : IntKind.i64.wrap ((a : Int) + 1) = (b : Int) := by rw [IntWalk.i64_in _ (by omega)]; omega
  have hB := hb.cutFrom (k := b) (cap := cap) (by omega) hnc
  obtain ⟨B2, hB2⟩ : ∃ B2, (if cap = b then some ad else some (ad.add b)) = B2 := ⟨_, rfl⟩
  rw [Option.map_some, hB2] at hB
  have htk : ∀ W, Below w.heap.size w W → Calls Try.prog 51 #[.slice B2 (n - b) (cap - b)] W (Gives W (gotV (L.drop b))) := fun W h => reftake_any B2 (n - b) (cap - b) (L.drop b) W (hB.keep h) (by omega) (by unfold maxLen at hcm ⊢; omega)
  have hnl := ntake_le (L.drop b)
  have hnt : (ntake (L.drop b)).2.2 = 0 → (ntake (L.drop b)).1 < 2 ^ 64 := fun he => (ntake_back (fun c hc => hb.lt c (List.mem_of_mem_drop hc)) he).2.2.2
  rw [List.length_drop, ← hln] at hnl
  unfold gotV at htk
  subst hx
  rw [← hbb] at he hs ⊢
  generalize ntake (L.drop b) = y at *
  obtain ⟨v, m, er⟩ := y
  simp only at htk hnl hnt he hs ⊢
  have i1 : (b : Int) ≤ (n : Int) := by omega
  have i2 : (b : Int) ≤ (cap : Int) := by omega
  have i3 : b ≤ n := by omega
  have hkc2 := cell_alloc (o := .cells #[.int .i64 0, .int .u64 0, .string ByteArray.empty, .slice none 0 0, .int .i64 0, .int .i64 0, .int .i64 0] 73) hkc
  have Hbb := Lib.hid hbb
  have Hb := Lib.hid hb
  have Hln := Lib.hid hln
  clear hb hk hk' hB hbb hln
  subst he
  have hv := hnt rfl
  clear hnt
  obtain ⟨c, hcc⟩ : ∃ c, c = b + m := ⟨_, rfl⟩
  have hcw : IntKind.i64.wrap ((b : Int) + (m : Int)) = (c : Int) := by rw [IntWalk.i64_in _ (by omega)]; omega
  have hcn : c ≤ n := by omega
  have u1 : IntKind.i64.wrap ((n : Int) - (c : Int)) = ((n - c : Nat) : Int) := by rw [IntWalk.i64_in _ (by omega)]; omega
  have u2 : IntKind.u64.wrap ((n - c : Nat) : Int) = ((n - c : Nat) : Int) := by rw [wrap_u64]; omega
  rw [List.length_drop, List.length_drop, ← Hln.out] at hs
  have hs' : ¬ ((n - c : Nat) : Int) < (v : Int) := by omega
  have hv9 : v ≤ 9223372036854775807 := by omega
  obtain ⟨v2, v1⟩ := small_wrap hv9
  have hv10 : v ≤ 1000000000 := Nat.le_trans (Nat.le_of_not_lt hs) (Nat.le_trans (Nat.le_trans (Nat.sub_le _ _) (Nat.sub_le _ _)) hn9)
  have Hcn := Lib.hid hcn
  obtain ⟨f, hff⟩ : ∃ f, f = n - c := ⟨_, rfl⟩
  rw [← hff] at u1 u2 hs'
  have hs2 : ¬ f < v := fun h => hs' (Int.ofNat_lt.2 h)
  rw [List.drop_drop, ← hcc]
  generalize hxx : gnode (gmany (gtake fuel) v (L.drop c) c) = xx
  have Hxx := Lib.hid hxx
  clear hff hxx hcc hs hnl hcn hcm2 hcm hnc ha hd i3 hn9 hfd
  go_enter Try.func39, Try.ntmps39
  go_wp2_with fail
  refine (htk _ (by ((repeat' first | with_reducible exact Below.refl _ _ | with_reducible assumption | with_reducible refine Below.alloc ?_ ?_ _ | with_reducible refine Below.setCell ?_ ?_ _ | with_reducible apply Below.drew | with_reducible apply below_drewN | with_reducible refine below_call ?_ (by with_reducible assumption) ?_) <;> (first | omega | (simp; done) | (simp; omega) | (simp at *; omega))))).mono ?_
  rintro r w1 ⟨rfl, hbw1⟩
  have z1 := hbw1.size
  simp at z1
  have hb1 : Below w.heap.size w w1 := by ((repeat' first | with_reducible exact Below.refl _ _ | with_reducible assumption | with_reducible refine Below.alloc ?_ ?_ _ | with_reducible refine Below.setCell ?_ ?_ _ | with_reducible apply Below.drew | with_reducible apply below_drewN | with_reducible refine below_call ?_ (by with_reducible assumption) ?_) <;> (first | omega | (simp; done) | (simp; omega) | (simp at *; omega)))
  have HBx := Lib.hid ((Blk.new w 73 #[.int .i64 0, .int .u64 0, .string ByteArray.empty, .slice none 0 0, .int .i64 0, .int .i64 0, .int .i64 0]).keep hbw1)
  go_wp2_with fail
  clear hkc hkc2 htk hbw hcw u1 u2 v1 v2 hs' hv9 j0 j1 hne
  go_loopw [1, 11] (fun s1 s11 wr => ∃ (pre : List Tree) (us : List Value) (x' : Value) (aj : Nat), s11 = .int .i64 us.length ∧ us.length = pre.length ∧ us.length ≤ v ∧ s1 = .int .i64 aj ∧ aj ≤ n ∧ RowS wr (w1.heap.size + 2) x' pre us ∧ Blk wr (w1.heap.size + 1) 25 #[.int .i64 2, .int .u64 0, .string ByteArray.empty, x'] ∧ Below (w1.heap.size + 1) (w1.alloc (.cells #[.int .u64 (v : Int), .int .i64 (m : Int), .int .i64 0] 93)) wr ∧ xx = gnode (gapp pre (gmany (gtake fuel) (v - us.length) (L.drop aj) aj))) (fun _ s11 _ => v - (intOf s11).toNat)
  case atStart =>
    refine ⟨[], [], .slice none 0 0, c, rfl, rfl, by simp, rfl, Hcn.out, RowS.nil_ _ _ _, (by have h := Blk.new (w1.alloc (.cells #[.int .u64 (v : Int), .int .i64 (m : Int), .int .i64 0] 93)) 25 #[.int .i64 2, .int .u64 0, .string ByteArray.empty, .slice none 0 0]; rw [World.size_alloc] at h; exact h), (Below.refl _ _).alloc (by simp) _, ?_⟩
    rw [← Hxx.out]
    show _ = gnode (gapp [] (gmany (gtake fuel) (v - 0) (L.drop c) c))
    rw [Nat.sub_zero]
    cases gmany (gtake fuel) v (L.drop c) c <;> rfl
  case round =>
    obtain ⟨pre, us, x', aj, rfl, hul, huv, rfl, hajn, hrow, hblk, hbr, hxj⟩ := hrel
    have hzr := hbr.size
    have hzb := hblk.lt
    simp at hzr
    have hbw : Below w.heap.size w wr := hb1.trans ((below_box hbr).mono (by omega))
    have hw1r := below_box hbr
    have hB := Hb.out.keep hbw
    have HBr := Lib.hid (HBx.out.keep hw1r)
    have Hxj := Lib.hid hxj
    have Hul := Lib.hid hul
    clear hxj hul
    by_cases hlt : us.length < v
    · have hcall := Ih.out aj wr hajn hB
      have hj1 : (us.length : Int) < (v : Int) := by omega
      have hnx := Hxj.out
      rw [show v - us.length = (v - (us.length + 1)) + 1 by omega] at hnx
      have Hnx := Lib.hid hnx
      obtain ⟨A3, c3, rfl, hl3, hc3⟩ := hrow.form
      have Hrow := Lib.hid hrow
      have Hblk := Lib.hid hblk
      have Hbr := Lib.hid hbr
      clear hrow hnx hblk hB
      go_wp2_with fail
      refine hcall.mono ?_
      rintro r w4 ⟨hbw4, hr⟩
      have z4 := hbw4.size
      have hb4 : Below w.heap.size w w4 := below_call hbw hbw4 hbw.size
      cases hg : gtake fuel (L.drop aj) aj with
      | error y =>
        obtain ⟨e, p⟩ := y
        rw [hg] at hr
        simp only at hr
        subst hr
        have hee : ((e : Int) != 0) = true := by rcases gtake_error fuel _ aj e p hg with rfl | rfl | rfl <;> rfl
        have hxe := Hnx.out
        rw [gmany_succ_error hg] at hxe
        simp only [gapp, gnode] at hxe
        subst hxe
        have hB4 := HBr.out.keep hbw4
        have q0 : w4.cell? ⟨w.heap.size, 0, none⟩ = some (.int .i64 0) := by rw [hB4.cell]; rfl
        have r0 := hB4.frozen 0
        have q1 : w4.cell? ⟨w.heap.size, 1, none⟩ = some (.int .u64 0) := by rw [hB4.cell]; rfl
        have r1 := hB4.frozen 1
        have q2 : w4.cell? ⟨w.heap.size, 2, none⟩ = some (.string ByteArray.empty) := by rw [hB4.cell]; rfl
        have r2 := hB4.frozen 2
        have q3 : w4.cell? ⟨w.heap.size, 3, none⟩ = some (.slice none 0 0) := by rw [hB4.cell]; rfl
        have r3 := hB4.frozen 3
        have q4 : w4.cell? ⟨w.heap.size, 4, none⟩ = some (.int .i64 0) := by rw [hB4.cell]; rfl
        have r4 := hB4.frozen 4
        have q5 : w4.cell? ⟨w.heap.size, 5, none⟩ = some (.int .i64 0) := by rw [hB4.cell]; rfl
        have r5 := hB4.frozen 5
        have q6 : w4.cell? ⟨w.heap.size, 6, none⟩ = some (.int .i64 0) := by rw [hB4.cell]; rfl
        have r6 := hB4.frozen 6
        clear hg hcall hB4
        unfold gotItem
        go_wp2_with fail
        refine bodyPost_ret (v := gotItem 0 0 ByteArray.empty none 0 0 0 e p) (by simp [results, Try.results39, go_sem, *, gotItem] <;> rfl) rfl ?_
        exact ⟨below_set7 (hb4.alloc hb4.size _) (Nat.le_refl _) _ _ _ _ _ _ _, rfl⟩
      | ok y =>
        obtain ⟨tt, r1, a1⟩ := y
        rw [hg] at hr
        simp only at hr
        obtain ⟨ky, ny, sy, Ay, my, cy, rfl, hin⟩ := hr
        obtain ⟨ii, hi, hz0, hz1, hz2⟩ := info_item
        obtain ⟨rfl, ha1⟩ := Hlim.out aj a1 tt r1 hajn hg
        have hxe := Hnx.out
        rw [gapp_step hg] at hxe
        have Hxe := Lib.hid hxe
        have hrow5 := ((Hrow.out.below hbw4).below (below_one (.cells #[.int .i64 ky, .int .u64 ny, .string sy, .slice Ay my cy, .int .i64 (a1 : Int), .int .i64 0, .int .i64 0] 73))).below (below_one (.cells #[.int .i64 ky, .int .u64 ny, .string sy, .slice Ay my cy] 25))
        have hblk4 := Hblk.out.keep hbw4
        have k4 : w4.cell? ⟨w1.heap.size + 1, 3, none⟩ = some (.slice A3 us.length c3) := by rw [hblk4.cell]; rfl
        have f4 : w4.frozen? ⟨w1.heap.size + 1, 3, none⟩ = false := hblk4.frozen 3
        have k5 := cell_alloc (o := (.cells #[.int .i64 ky, .int .u64 ny, .string sy, .slice Ay my cy] 25)) (cell_alloc (o := (.cells #[.int .i64 ky, .int .u64 ny, .string sy, .slice Ay my cy, .int .i64 (a1 : Int), .int .i64 0, .int .i64 0] 73)) k4)
        have f5 := frozen_alloc (o := (.cells #[.int .i64 ky, .int .u64 ny, .string sy, .slice Ay my cy] 25)) (cell_alloc (o := (.cells #[.int .i64 ky, .int .u64 ny, .string sy, .slice Ay my cy, .int .i64 (a1 : Int), .int .i64 0, .int .i64 0] 73)) k4) (frozen_alloc (o := (.cells #[.int .i64 ky, .int .u64 ny, .string sy, .slice Ay my cy, .int .i64 (a1 : Int), .int .i64 0, .int .i64 0] 73)) k4 f4)
        have n5 : ((w4.alloc (.cells #[.int .i64 ky, .int .u64 ny, .string sy, .slice Ay my cy, .int .i64 (a1 : Int), .int .i64 0, .int .i64 0] 73)).alloc (.cells #[.int .i64 ky, .int .u64 ny, .string sy, .slice Ay my cy] 25)).cell? ⟨w4.heap.size, 4, none⟩ = some (.int .i64 (a1 : Int)) := cell_alloc (new_cell w4 _ _ 4 rfl).1
        have hsrc : Src ((w4.alloc (.cells #[.int .i64 ky, .int .u64 ny, .string sy, .slice Ay my cy, .int .i64 (a1 : Int), .int .i64 0, .int .i64 0] 73)).alloc (.cells #[.int .i64 ky, .int .u64 ny, .string sy, .slice Ay my cy] 25)) 4 (some ⟨w4.heap.size + 1, 0, none⟩) 1 [.int .i64 ky, .int .u64 ny, .string sy, .slice Ay my cy] := by
          have h := src_item (w := w4.alloc (.cells #[.int .i64 ky, .int .u64 ny, .string sy, .slice Ay my cy, .int .i64 (a1 : Int), .int .i64 0, .int .i64 0] 73)) (e := 25) hin.four.1 hin.four.2
          simp only [World.size_alloc] at h
          exact h
        have hlow : ∀ k, (Value.slice A3 us.length c3).ownBlock = some k → k < wr.heap.size := fun k hk => (Hrow.out.own.lt k hk).2
        have hnrow : some w4.heap.size ≠ (Value.slice A3 us.length c3).ownBlock := fun e => Nat.lt_irrefl _ (Nat.lt_of_lt_of_le (hlow _ e.symm) z4)
        have hne1 : w1.heap.size + 1 ≠ w4.heap.size := Nat.ne_of_lt (Nat.lt_of_lt_of_le hzb z4)
        have Hin := Lib.hid hin
        clear hg hcall hxe hin hblk4
        unfold gotItem
        go_wp2_with ((at_builtin; go_loud (refine wpList_app _ rfl (.tmp 99) (.tmp 102) 23 rfl _ 25 ii _ 4 56 Try.underlying23 hi hz0 hz1 hz2 rfl (by omega) _ _ _ rfl hrow5.own _ _ _ _ rfl hsrc ?h63 ?hby ?hbase ?_); (case h63 => (unfold maxLen; first | omega | (simp; done) | (simp; omega))); (case hby => first | omega | (simp; done) | (simp; omega)); (case hbase => first | omega | (simp; done) | (simp; omega)); intro v6 w6 hownw6 hgroww6 hatw6 holdw6); have k6 := grown_cell hgroww6 (fun k hk => (hrow5.own.lt k hk).1) k5 (Nat.lt_succ_self _); have f6 := grown_frozen hgroww6 (fun k hk => (hrow5.own.lt k hk).1) k5 (Nat.lt_succ_self _) f5; have n6 := grown_cell_row hgroww6 n5 hnrow; obtain ⟨A6, c6, rfl, _, _⟩ := own_form hownw6; have n7 := cell_far (p := ⟨w1.heap.size + 1, 3, none⟩) (u := .slice A6 (us.length + 1) c6) n6 hne1)
        go_roundw
        case rel =>
          obtain ⟨g1, g2, g3⟩ := take_grow (wb := w1.alloc (.cells #[.int .u64 (v : Int), .int .i64 (m : Int), .int .i64 0] 93)) (w5 := (w4.alloc (.cells #[.int .i64 ky, .int .u64 ny, .string sy, .slice Ay my cy, .int .i64 (a1 : Int), .int .i64 0, .int .i64 0] 73)).alloc (.cells #[.int .i64 ky, .int .u64 ny, .string sy, .slice Ay my cy] 25)) Hbr.out (Nat.le_of_lt (Nat.lt_of_lt_of_le (Nat.lt_succ_self _) hzb)) hzb hbw4 ((below_one _).trans ((below_one _).mono (by simp))) Hrow.out Hul.out Hblk.out Hin.out hownw6 hgroww6 hatw6
          exact ⟨pre ++ [tt], us ++ [.agg #[.int .i64 ky, .int .u64 ny, .string sy, .slice Ay my cy]], .slice A6 (us.length + 1) c6, a1, (by first | rfl | (simp; done) | go_num), (by simp [Hul.out]), (by first | omega | (simp; done) | (simp; omega)), rfl, ha1, g1, g2, g3, (by rw [Hxe.out, List.length_append, List.length_singleton])⟩
        case measure => simp [intOf]; omega
    · have hv0 : v - us.length = 0 := Nat.sub_eq_zero_of_le (Nat.le_of_not_lt hlt)
      obtain ⟨A3, c3, rfl, hl3, hc3⟩ := hrow.form
      have hnode := hrow.node Hul.out
      have Hnode := Lib.hid hnode
      have k0 : wr.cell? ⟨w1.heap.size + 1, 0, none⟩ = some (.int .i64 2) := by rw [hblk.cell]; rfl
      have k1 : wr.cell? ⟨w1.heap.size + 1, 1, none⟩ = some (.int .u64 0) := by rw [hblk.cell]; rfl
      have k2 : wr.cell? ⟨w1.heap.size + 1, 2, none⟩ = some (.string ByteArray.empty) := by rw [hblk.cell]; rfl
      have k3 : wr.cell? ⟨w1.heap.size + 1, 3, none⟩ = some (.slice A3 us.length c3) := by rw [hblk.cell]; rfl
      have hxe := Hxj.out
      rw [hv0] at hxe
      simp only [gmany, gapp, gnode, List.append_nil] at hxe
      subst hxe
      have hBr := HBr.out
      have q0 : wr.cell? ⟨w.heap.size, 0, none⟩ = some (.int .i64 0) := by rw [hBr.cell]; rfl
      have r0 := hBr.frozen 0
      have q1 : wr.cell? ⟨w.heap.size, 1, none⟩ = some (.int .u64 0) := by rw [hBr.cell]; rfl
      have r1 := hBr.frozen 1
      have q2 : wr.cell? ⟨w.heap.size, 2, none⟩ = some (.string ByteArray.empty) := by rw [hBr.cell]; rfl
      have r2 := hBr.frozen 2
      have q3 : wr.cell? ⟨w.heap.size, 3, none⟩ = some (.slice none 0 0) := by rw [hBr.cell]; rfl
      have r3 := hBr.frozen 3
      have q4 : wr.cell? ⟨w.heap.size, 4, none⟩ = some (.int .i64 0) := by rw [hBr.cell]; rfl
      have r4 := hBr.frozen 4
      have q5 : wr.cell? ⟨w.heap.size, 5, none⟩ = some (.int .i64 0) := by rw [hBr.cell]; rfl
      have r5 := hBr.frozen 5
      have q6 : wr.cell? ⟨w.heap.size, 6, none⟩ = some (.int .i64 0) := by rw [hBr.cell]; rfl
      have r6 := hBr.frozen 6
      clear hrow hnode hv0 hblk hB hBr
      go_wp2_with fail
      refine bodyPost_ret (v := gotItem 2 0 ByteArray.empty A3 us.length c3 aj 0 0) (by simp [results, Try.results39, go_sem, *, gotItem] <;> rfl) rfl ?_
      exact ⟨below_set7 hbw (Nat.le_refl _) _ _ _ _ _ _ _, 2, 0, ByteArray.empty, A3, us.length, c3, rfl, (hin_set7 Hnode.out (by omega) _ _ _ _ _ _ _).mono fun b hb => by omega⟩
end Go.Proofs.Ytekbebekihcnpaa
