/- The walk of codec.plain: a value of type any as an item. -/
import Derived.Test.YtekbebekihcnpaaHoldsIn
import Derived.Test.YtekbebekihcnpaaCodecJ
import Derived.Test.YtekbebekihcnpaaCodecH
import Derived.Deep.RegionLaw
namespace Go.Proofs.Ytekbebekihcnpaa
open Go.RowKit
set_option linter.unusedVariables false
set_option linter.unusedSimpArgs false
set_option maxRecDepth 20000
attribute [local go_sem ↓] Go.wp_at_zero Go.wp_at_succ
attribute [local go_sem] World.cell?_alloc_some frozen_alloc_some
attribute [local go_sem] lt2 lt3 lt4 lt5
attribute [local simp] lt2 lt3 lt4 lt5

theorem hin_num (w : World) (S : Nat → Prop) {n : Nat} (hn : n < 2 ^ 64) : HoldsIn w S (.mk 0 n ByteArray.empty []) (numV n) :=
  .mk 0 n _ [] none 0 0 (fun _ => .nilIface) (by decide) hn (by decide) rfl (Nat.le_refl _) (Nat.zero_le _) (fun i hi => absurd hi (by omega)) (fun i t hi => by simp at hi)
theorem hin_text (w : World) (S : Nat → Prop) {s : ByteArray} (hs : s.size ≤ maxLen) : HoldsIn w S (.mk 1 0 s []) (textV s) :=
  .mk 1 0 s [] none 0 0 (fun _ => .nilIface) (by decide) (by decide) hs rfl (Nat.le_refl _) (Nat.zero_le _) (fun i hi => absurd hi (by omega)) (fun i t hi => by simp at hi)
/-- What plain gives: the tree as an item, in blocks of its own. -/
def Plained (w : World) (t : Tree) (r : Ending) (w' : World) : Prop := ∃ v, r = .returned v ∧ HoldsIn w' (fun b => w.heap.size ≤ b) t v ∧ Below w.heap.size w w'

theorem plain_num (n : Nat) (hn : n < 2 ^ 64) (w : World) : Calls Try.prog 38 #[.iface 22 (.int .u64 (n : Int))] w (Plained w (.mk 0 n ByteArray.empty [])) := by
  have hnum := num_any n
  go_enter Try.func38, Try.ntmps38
  go_wp2_with fail
  refine (hnum _).mono ?_
  rintro e w1 ⟨rfl, hb1⟩
  have hz1 := hb1.size
  simp at hz1
  obtain ⟨q0, r0⟩ := new_keep hb1 0 rfl
  obtain ⟨q1, r1⟩ := new_keep hb1 1 rfl
  obtain ⟨q2, r2⟩ := new_keep hb1 2 rfl
  obtain ⟨q3, r3⟩ := new_keep hb1 3 rfl
  have hbw : Below w.heap.size w w1 := by ((repeat' first | with_reducible exact Below.refl _ _ | with_reducible assumption | with_reducible refine Below.alloc ?_ ?_ _ | with_reducible refine Below.setCell ?_ ?_ _ | with_reducible apply Below.drew | with_reducible apply below_drewN | with_reducible refine below_call ?_ (by with_reducible assumption) ?_) <;> (first | omega | (simp; done) | (simp; omega) | (simp at *; omega)))
  unfold numV
  go_wp2_with fail
  refine bodyPost_ret (v := numV n) (by simp [results, Try.results38, go_sem, *, numV] <;> rfl) rfl ?_
  exact ⟨_, rfl, hin_num _ _ hn, by ((repeat' first | with_reducible exact Below.refl _ _ | with_reducible assumption | with_reducible refine Below.alloc ?_ ?_ _ | with_reducible refine Below.setCell ?_ ?_ _ | with_reducible apply Below.drew | with_reducible apply below_drewN | with_reducible refine below_call ?_ (by with_reducible assumption) ?_) <;> (first | omega | (simp; done) | (simp; omega) | (simp at *; omega)))⟩
theorem plain_text (s : ByteArray) (hs : s.size ≤ maxLen) (w : World) : Calls Try.prog 38 #[.iface 9 (.string s)] w (Plained w (.mk 1 0 s [])) := by
  have htxt := codectext_any s
  go_enter Try.func38, Try.ntmps38
  go_wp2_with fail
  refine (htxt _).mono ?_
  rintro e w1 ⟨rfl, hb1⟩
  have hz1 := hb1.size
  simp at hz1
  obtain ⟨q0, r0⟩ := new_keep hb1 0 rfl
  obtain ⟨q1, r1⟩ := new_keep hb1 1 rfl
  obtain ⟨q2, r2⟩ := new_keep hb1 2 rfl
  obtain ⟨q3, r3⟩ := new_keep hb1 3 rfl
  have hbw : Below w.heap.size w w1 := by ((repeat' first | with_reducible exact Below.refl _ _ | with_reducible assumption | with_reducible refine Below.alloc ?_ ?_ _ | with_reducible refine Below.setCell ?_ ?_ _ | with_reducible apply Below.drew | with_reducible apply below_drewN | with_reducible refine below_call ?_ (by with_reducible assumption) ?_) <;> (first | omega | (simp; done) | (simp; omega) | (simp at *; omega)))
  unfold textV
  go_wp2_with fail
  refine bodyPost_ret (v := textV s) (by simp [results, Try.results38, go_sem, *, textV] <;> rfl) rfl ?_
  exact ⟨_, rfl, hin_text _ _ hs, by ((repeat' first | with_reducible exact Below.refl _ _ | with_reducible assumption | with_reducible refine Below.alloc ?_ ?_ _ | with_reducible refine Below.setCell ?_ ?_ _ | with_reducible apply Below.drew | with_reducible apply below_drewN | with_reducible refine below_call ?_ (by with_reducible assumption) ?_) <;> (first | omega | (simp; done) | (simp; omega) | (simp at *; omega)))⟩

theorem own_form {w : World} {base : Nat} {e : TypeId} {size : Nat} {v : Value} {n : Nat} {xs : List Value} (h : w.ownsRow base e size v n xs) : ∃ A c, v = .slice A n c ∧ n ≤ c ∧ c ≤ maxLen := by
  rcases h.2 with ⟨rfl, rfl⟩ | ⟨g, cap, cur, rfl, _, _, hle, hm, _⟩
  · exact ⟨none, 0, rfl, Nat.le_refl _, Nat.zero_le _⟩
  · exact ⟨_, cap, rfl, hle, hm⟩
theorem grown_cell {w w' : World} {row : Option Nat} {B : Nat} (hg : w.grownBy w' row) (hr : ∀ k, row = some k → B ≤ k) {a : Addr} {v : Value} (h : w.cell? a = some v) (ha : a.block < B) : w'.cell? a = some v := by
  rw [← h]
  exact World.cell?_of_block (w := w) (hg.block _ (World.block_lt_of_cell? _ _ h) fun e => by have := hr _ e.symm; omega)
theorem grown_frozen {w w' : World} {row : Option Nat} {B : Nat} (hg : w.grownBy w' row) (hr : ∀ k, row = some k → B ≤ k) {a : Addr} {v : Value} (h : w.cell? a = some v) (ha : a.block < B) {b : Bool} (hf : w.frozen? a = b) : w'.frozen? a = b := by
  rw [← hf]
  exact World.frozen?_of_block (w := w) (hg.block _ (World.block_lt_of_cell? _ _ h) fun e => by have := hr _ e.symm; omega)
set_option maxHeartbeats 8000000 in
theorem plain_list (l : List Tree) (S : Nat → Prop) (v : Value) (w : World) (ht : Tall w S (.mk 2 0 ByteArray.empty l) v) (hlen : l.length ≤ 1000000000)
    (ih : ∀ t ∈ l, ∀ (u : Value) (S : Nat → Prop) (w : World), Tall w S t u → Calls Try.prog 38 #[u] w (Plained w t)) :
    Calls Try.prog 38 #[v] w (Plained w (.mk 2 0 ByteArray.empty l)) := by
  obtain ⟨i1, hi, hz0, hz1, hz2⟩ := info_item
  obtain ⟨A, m, c, vs, rfl, hm, hmc, hc, hcell, hsub⟩ : ∃ (A : Option Addr) (m c : Nat) (vs : Nat → Value), v = .iface 78 (.slice A m c) ∧ m = l.length ∧ m ≤ c ∧ c ≤ maxLen ∧
      (∀ i, i < m → ∃ b o, A = some ⟨b, o, none⟩ ∧ S b ∧ w.cell? ⟨b, o + i, none⟩ = some (vs i)) ∧ ∀ (i : Nat) (t : Tree), l[i]? = some t → Tall w S t (vs i) := by
    cases ht with
    | list l A m c vs hm hmc hc hcell hsub => exact ⟨A, m, c, vs, rfl, hm, hmc, hc, hcell, hsub⟩
  have hml : m ≤ 1000000000 := by omega
  have Hm := Lib.hid hm
  have Hcell := Lib.hid hcell
  have Hsub := Lib.hid hsub
  have Ih := Lib.hid ih
  clear hm hcell hsub ih ht hlen
  go_enter Try.func38, Try.ntmps38
  go_wp2_with fail
  go_loopw [30] (fun s30 wr => ∃ (us : List Value) (x : Value), s30 = .int .i64 us.length ∧ us.length ≤ m ∧ RowS wr (w.heap.size + 2) x l us ∧ Blk wr (w.heap.size + 1) 25 #[.int .i64 2, .int .u64 0, .string ByteArray.empty, x] ∧ Below (w.heap.size + 1) (w.alloc (.cells #[.int .i64 0, .int .u64 0, .string ByteArray.empty, .slice none 0 0] 25)) wr) (fun s30 _ => m - (intOf s30).toNat)
  case atStart => exact ⟨[], .slice none 0 0, rfl, by simp, RowS.nil_ _ _ _, (by have h := Blk.new (w.alloc (.cells #[.int .i64 0, .int .u64 0, .string ByteArray.empty, .slice none 0 0] 25)) 25 #[.int .i64 2, .int .u64 0, .string ByteArray.empty, .slice none 0 0]; rw [World.size_alloc] at h; exact h), (Below.refl _ _).alloc (by simp) _⟩
  case round =>
    obtain ⟨us, x, rfl, hj, hrow, hblk, hbr⟩ := hrel
    have hzr := hbr.size
    have hzb := hblk.lt
    simp at hzr
    have hbw := below_box hbr
    by_cases hlt : us.length < m
    · have hjl : us.length < l.length := by have := Hm.out; omega
      obtain ⟨g, o, rfl, hSg, hca⟩ := Hcell.out us.length hlt
      have hu := (Hsub.out us.length _ (List.getElem?_eq_getElem hjl)).under hbw
      have hcr := cell_keep hbw hca
      have hcall : ∀ W, Below wr.heap.size wr W → Calls Try.prog 38 #[vs us.length] W (Plained W l[us.length]) := fun W h => Ih.out l[us.length] (List.getElem_mem hjl) (vs us.length) S W (hu.under h)
      have j0 : (0 : Int) ≤ (us.length : Int) := by omega
      have j1 : (us.length : Int) < (m : Int) := by omega
      obtain ⟨A3, c3, rfl, hl3, hc3⟩ := hrow.form
      have k3 : wr.cell? ⟨w.heap.size + 1, 3, none⟩ = some (.slice A3 us.length c3) := by rw [hblk.cell]; rfl
      have f3 : wr.frozen? ⟨w.heap.size + 1, 3, none⟩ = false := hblk.frozen 3
      have Hget := Lib.hid (List.getElem?_eq_getElem hjl)
      have Hrow := Lib.hid hrow
      have Hblk := Lib.hid hblk
      clear hu hrow hblk
      go_wp2_with fail
      go_region_law (first | ((((refine step_app _ rfl (.tmp 35) (.tmp 38) 23 rfl _ 25 i1 _ 4 56 Try.underlying23 hi hz0 hz1 hz2 rfl (by omega) _ _ _ rfl hrow5.own _ _ _ _ rfl hsrc ?h63 ?hby ?hbase ?_); (case h63 => (unfold maxLen; first | omega | (simp; done) | (simp; omega))); (case hby => first | omega | (simp; done) | (simp; omega)); (case hbase => first | omega | (simp; done) | (simp; omega)); intro v6 w6 hownw6 hgroww6 hatw6 holdw6)); have k6 := grown_cell hgroww6 (fun k hk => (hrow5.own.lt k hk).1) k5 (Nat.lt_succ_self _); have f6 := grown_frozen hgroww6 (fun k hk => (hrow5.own.lt k hk).1) k5 (Nat.lt_succ_self _) f5; obtain ⟨A6, c6, rfl, _, _⟩ := own_form hownw6) | (go_simp; go_at_call 38; (with_reducible refine (hcall _ ?hbel).mono ?_); (case hbel => ((repeat' first | with_reducible exact Below.refl _ _ | with_reducible assumption | with_reducible refine Below.alloc ?_ ?_ _ | with_reducible refine Below.setCell ?_ ?_ _ | with_reducible apply Below.drew | with_reducible apply below_drewN | with_reducible refine below_call ?_ (by with_reducible assumption) ?_) <;> (first | omega | (simp; done) | (simp; omega) | (simp at *; omega)))); rintro e w5 ⟨u, rfl, hin, hb5⟩; have hz5 := hb5.size; (try simp at hz5); obtain ⟨ku, nu, su, Au, mu, cu, rfl⟩ := hin.form; have k4 := cell_keep hb5 (show World.cell? wr.drew ⟨w.heap.size + 1, 3, none⟩ = some (.slice A3 us.length c3) from k3); have f4 := frozen_keep hb5 (show World.cell? wr.drew ⟨w.heap.size + 1, 3, none⟩ = some (.slice A3 us.length c3) from k3) (show World.frozen? wr.drew ⟨w.heap.size + 1, 3, none⟩ = false from f3); have k5 := cell_alloc (o := .cells #[.int .i64 ku, .int .u64 nu, .string su, .slice Au mu cu] 25) k4; have f5 := frozen_alloc (o := .cells #[.int .i64 ku, .int .u64 nu, .string su, .slice Au mu cu] 25) k4 f4; have hrow5 := ((Hrow.out.below ((Below.refl _ _).drew)).below hb5).below ((Below.refl _ _).alloc (Nat.le_refl _) (.cells #[.int .i64 ku, .int .u64 nu, .string su, .slice Au mu cu] 25)); have hsrc := src_item (w := w5) (e := 25) hin.four.1 hin.four.2))
      all_goals
        have hkw5 : Below wr.heap.size wr w5 := by ((repeat' first | with_reducible exact Below.refl _ _ | with_reducible assumption | with_reducible refine Below.alloc ?_ ?_ _ | with_reducible refine Below.setCell ?_ ?_ _ | with_reducible apply Below.drew | with_reducible apply below_drewN | with_reducible refine below_call ?_ (by with_reducible assumption) ?_) <;> (first | omega | (simp; done) | (simp; omega) | (simp at *; omega)))
        have hin5 := hin.under (w' := w5.alloc (.cells #[.int .i64 ku, .int .u64 nu, .string su, .slice Au mu cu] 25)) ((Below.refl _ _).alloc (Nat.le_refl _) _)
        have hb5' : Below (w.heap.size + 1) (w.alloc (.cells #[.int .i64 0, .int .u64 0, .string ByteArray.empty, .slice none 0 0] 25)) (w5.alloc (.cells #[.int .i64 ku, .int .u64 nu, .string su, .slice Au mu cu] 25)) := (below_call hbr hkw5 hzr).alloc (by omega) _
        have hb6 := below_app hb5' hrow5.own hgroww6 (Nat.le_succ _) (by simp; omega)
        have hb7 := hb6.setCell (p := ⟨w.heap.size + 1, 3, none⟩) (Nat.le_refl _) (.slice A6 (us.length + 1) c6)
        have hblk5 := (Hblk.out.keep hkw5).alloc (.cells #[.int .i64 ku, .int .u64 nu, .string su, .slice Au mu cu] 25)
        have hblk6 : Blk w6 (w.heap.size + 1) 25 _ := (hgroww6.block _ hblk5.lt (fun e => by have := (hrow5.own.lt _ e.symm).1; omega)).trans hblk5
        have hblk7 := hblk6.set_ 3 (.slice A6 (us.length + 1) c6)
        have hst := hrow5.step Hget.out hin5 (by simp; omega) (fun k hk => by have := (Hrow.out.own.lt k hk).2; simpa using this) hownw6 hgroww6 hatw6
        have hst7 := hst.set (p := ⟨w.heap.size + 1, 3, none⟩) (Nat.lt_succ_self _) (.slice A6 (us.length + 1) c6)
        have Hst7 := Lib.hid hst7
        have Hblk7 := Lib.hid hblk7
        have Hb7 := Lib.hid hb7
        clear hst hst7 hblk5 hblk6 hblk7 hb5' hb6 hb7 hin hin5 hownw6 holdw6 hatw6
        go_wp2_with fail
        go_roundw
        case rel => exact ⟨us ++ [.agg #[.int .i64 ku, .int .u64 nu, .string su, .slice Au mu cu]], .slice A6 (us.length + 1) c6, (by first | rfl | (simp; done) | go_num), (by first | omega | (simp; done) | (simp; omega)), Hst7.out, (by have := Hblk7.out; simpa using this), Hb7.out⟩
        case measure => simp [intOf]; omega
    · have hul : us.length = l.length := by have := Hm.out; omega
      obtain ⟨A3, c3, rfl, hl3, hc3⟩ := hrow.form
      have hnode := hrow.node hul
      have Hnode := Lib.hid hnode
      have k0 : wr.cell? ⟨w.heap.size + 1, 0, none⟩ = some (.int .i64 2) := by rw [hblk.cell]; rfl
      have k1 : wr.cell? ⟨w.heap.size + 1, 1, none⟩ = some (.int .u64 0) := by rw [hblk.cell]; rfl
      have k2 : wr.cell? ⟨w.heap.size + 1, 2, none⟩ = some (.string ByteArray.empty) := by rw [hblk.cell]; rfl
      have k3 : wr.cell? ⟨w.heap.size + 1, 3, none⟩ = some (.slice A3 us.length c3) := by rw [hblk.cell]; rfl
      have q0 := box_cell hbr 0 rfl
      have q1 := box_cell hbr 1 rfl
      have q2 := box_cell hbr 2 rfl
      have q3 := box_cell hbr 3 rfl
      have g0 : wr.frozen? ⟨w.heap.size, 0, none⟩ = false := (hbr.frozen (p := ⟨w.heap.size, 0, none⟩) (Nat.lt_succ_self _)).trans (by simp [go_sem])
      have g1 : wr.frozen? ⟨w.heap.size, 1, none⟩ = false := (hbr.frozen (p := ⟨w.heap.size, 1, none⟩) (Nat.lt_succ_self _)).trans (by simp [go_sem])
      have g2 : wr.frozen? ⟨w.heap.size, 2, none⟩ = false := (hbr.frozen (p := ⟨w.heap.size, 2, none⟩) (Nat.lt_succ_self _)).trans (by simp [go_sem])
      have g3 : wr.frozen? ⟨w.heap.size, 3, none⟩ = false := (hbr.frozen (p := ⟨w.heap.size, 3, none⟩) (Nat.lt_succ_self _)).trans (by simp [go_sem])
      clear hrow hnode hblk hul
      go_wp2_with fail
      refine bodyPost_ret (v := .agg #[.int .i64 2, .int .u64 0, .string ByteArray.empty, .slice A3 us.length c3]) (by simp [results, Try.results38, go_sem, *] <;> rfl) rfl ?_
      have h4 := (((Hnode.out.set (p := ⟨w.heap.size, 0, none⟩) (by simp) (.int .i64 2)).set (p := ⟨w.heap.size, 1, none⟩) (by simp) (.int .u64 0)).set (p := ⟨w.heap.size, 2, none⟩) (by simp) (.string ByteArray.empty)).set (p := ⟨w.heap.size, 3, none⟩) (by simp) (.slice A3 us.length c3)
      exact ⟨_, rfl, h4.mono fun b hb => by omega, by ((repeat' first | with_reducible exact Below.refl _ _ | with_reducible assumption | with_reducible refine Below.alloc ?_ ?_ _ | with_reducible refine Below.setCell ?_ ?_ _ | with_reducible apply Below.drew | with_reducible apply below_drewN | with_reducible refine below_call ?_ (by with_reducible assumption) ?_) <;> (first | omega | (simp; done) | (simp; omega) | (simp at *; omega)))⟩
theorem plain_any (t : Tree) : ∀ (u : Value) (S : Nat → Prop) (w : World), tsize t ≤ 10000000 → Tall w S t u → Calls Try.prog 38 #[u] w (Plained w t) := by
  refine Tree.ind (P := fun t => ∀ (u : Value) (S : Nat → Prop) (w : World), tsize t ≤ 10000000 → Tall w S t u → Calls Try.prog 38 #[u] w (Plained w t)) ?_ t
  intro k n s l ih u S w hsz ht
  simp only [tsize] at hsz
  have ht2 := ht
  cases ht with
  | num n hn => exact plain_num n hn w
  | text s hs => exact plain_text s hs w
  | list l A m c vs hm hmc hc hcell hsub =>
    exact plain_list l S _ w ht2 (by have := tsizes_len l; omega) fun t hm u S w h => ih t hm u S w (by have := tsizes_mem hm; omega) h
end Go.Proofs.Ytekbebekihcnpaa
