/- The walks of package crc: reckon, Sum; and of the document's Sum (stonecropref02), Pick (stonecropref01). -/
import Derived.Test.YtpdlhcfepafjeaaBase
import Derived.Test.YtpdlhcfepafjeaaCrcMathB
namespace Go.Proofs.Ytpdlhcfepafjeaa
open Go.RowKit
set_option linter.unusedVariables false
set_option linter.unusedSimpArgs false
set_option maxRecDepth 20000
attribute [local go_sem ↓] Go.wp_at_zero Go.wp_at_succ
attribute [local go_sem] World.cell?_alloc_some frozen_alloc_some

theorem wrap_u32 (n : Int) : IntKind.u32.wrap n = n % 4294967296 := by simp [IntKind.wrap, IntKind.bits, IntKind.signed]
theorem u32_xor_of {a b c : Nat} (ha : a < 2 ^ 32) (hb : b < 2 ^ 32) (h : a ^^^ b = c) : bits .xor .u32 (a : Int) (b : Int) = (c : Int) := by
  rw [u32_xor_nat a b ha hb, h]
/-- The block of remainders, of which the first k are reckoned. -/
def tabTo (k : Nat) : Array Value := (Array.range 16).map fun i => if i < k then .int .u32 (ctab i) else .int .u32 0
theorem tabTo_size (k : Nat) : (tabTo k).size = 16 := by simp [tabTo]
theorem tabTo_get (k i : Nat) (h : i < 16) : (tabTo k)[i]? = some (if i < k then .int .u32 (ctab i) else .int .u32 0) := by
  simp [tabTo, Array.getElem?_map, Array.getElem?_range, h]
theorem tabTo_set (k : Nat) (h : k < 16) : (tabTo k).setIfInBounds k (.int .u32 (ctab k)) = tabTo (k + 1) := by
  apply Array.ext
  · simp [tabTo]
  · intro i h1 h2
    have h16 : i < 16 := by simpa [tabTo] using h1
    apply Option.some.inj
    rw [← Array.getElem?_eq_getElem, ← Array.getElem?_eq_getElem, tabTo_get _ _ h16, Array.getElem?_setIfInBounds]
    by_cases e : k = i
    · subst e; rw [if_pos rfl, if_pos (by simpa [tabTo] using h), if_pos (by omega)]
    · rw [if_neg e, tabTo_get _ _ h16]
      by_cases h3 : i < k
      · rw [if_pos h3, if_pos (by omega)]
      · rw [if_neg h3, if_neg (by omega)]

theorem tab_info : (Try.prog.info? 155).map (·.size) = some 16 := by kernel_rfl
theorem tab_info16 : (Try.prog.info? 155).map (·.size) = some (tabTo 16).size := by rw [tabTo_size]; exact tab_info
theorem tabTo_one (k : Nat) : ((tabTo k).all fun x => x.oneCell') = true := by
  rw [Array.all_eq_true]
  intro i hi
  have h16 : i < 16 := by rw [tabTo_size] at hi; exact hi
  have := tabTo_get k i h16
  rw [Array.getElem?_eq_getElem hi] at this
  rw [Option.some.inj this]
  split <;> rfl
set_option maxHeartbeats 1000000 in
theorem reckon_any (w : World) : Calls Try.prog 113 #[] w (Gives w (.agg (tabTo 16))) := by
  have e0 : tabTo 0 = #[.int .u32 0, .int .u32 0, .int .u32 0, .int .u32 0, .int .u32 0, .int .u32 0, .int .u32 0, .int .u32 0, .int .u32 0, .int .u32 0, .int .u32 0, .int .u32 0, .int .u32 0, .int .u32 0, .int .u32 0, .int .u32 0] := by kernel_rfl
  have E0 := Lib.hid e0
  clear e0
  go_enter Try.func113, Try.ntmps113
  go_wp2
  go_loopw [4] (fun s4 wr => ∃ k : Nat, k ≤ 16 ∧ s4 = .int .i64 k ∧ Blk wr w.heap.size 155 (tabTo k) ∧ Below w.heap.size w wr) (fun s4 _ => 16 - (intOf s4).toNat)
  case atStart => exact ⟨0, by omega, rfl, by rw [E0.out]; exact Blk.new _ _ _, by ((repeat' first | with_reducible exact Below.refl _ _ | with_reducible assumption | with_reducible refine Below.alloc ?_ ?_ _ | with_reducible refine Below.setCell ?_ ?_ _ | with_reducible apply Below.drew | with_reducible apply below_drewN | with_reducible refine below_call ?_ (by with_reducible assumption) ?_) <;> (first | omega | (simp; done) | (simp; omega) | (simp at *; omega)))⟩
  case round =>
    obtain ⟨k, hk, rfl, hblk, hbr⟩ := hrel
    by_cases hlt : k < 16
    · have hk2 : IntKind.u32.wrap (k : Int) = k := by rw [wrap_u32]; omega
      go_wp2
      go_loop [2, 9] (fun v s9 => ∃ j : Nat, j ≤ 4 ∧ s9 = .int .i64 j ∧ v = .int .u32 (csteps j k)) (fun _ s9 => 4 - (intOf s9).toNat)
      case atStart => exact ⟨0, by omega, rfl, rfl⟩
      case round =>
        obtain ⟨j, hj, rfl, rfl⟩ := hrel
        have hvl : csteps j k < 2 ^ 32 := csteps_lt j (by omega)
        have hsucc := csteps_succ' j k
        have hfour : j = 4 → csteps j k = ctab k := fun e => by subst e; rfl
        have Hs := Lib.hid hsucc
        have Hf := Lib.hid hfour
        clear hsucc hfour
        generalize csteps j k = v at *
        by_cases hlj : j < 4
        · have b1 : bits .and .u32 (v : Int) 1 = ((v % 2 : Nat) : Int) := by
            have h := u32_and_nat v 1 hvl (by omega)
            rw [Nat.and_one_is_mod] at h
            exact h
          go_wp2
          go_round
          case rel =>
            refine ⟨j + 1, by omega, by go_num, ?_⟩
            rw [Hs.out]
            congr 1
            rcases Nat.mod_two_eq_zero_or_one v with h | h
            · unfold cstep
              rw [if_neg (by omega), show (v : Int) % 2 = ((0 : Nat) : Int) by omega, show (v : Int) / 2 = ((v / 2 : Nat) : Int) by omega]
              exact u32_xor_of (b := 0) (by omega) (by omega) (Nat.xor_zero _)
            · unfold cstep
              rw [if_pos h, show (v : Int) % 2 = 1 by omega, show (v : Int) / 2 = ((v / 2 : Nat) : Int) by omega]
              exact u32_xor_of (b := crcP) (by omega) (by decide) rfl
          case measure => simp [intOf]; omega
        · have hv := Hf.out (by omega)
          have hc := hblk.cell k
          rw [tabTo_get _ _ hlt, if_neg (by omega)] at hc
          have hf := hblk.frozen k
          have Hv := Lib.hid hv
          clear hv
          go_wp2
          go_roundw
          case rel => exact ⟨k + 1, by omega, by go_num, by rw [← tabTo_set k hlt, ← Hv.out]; exact hblk.set_ k _, by ((repeat' first | with_reducible exact Below.refl _ _ | with_reducible assumption | with_reducible refine Below.alloc ?_ ?_ _ | with_reducible refine Below.setCell ?_ ?_ _ | with_reducible apply Below.drew | with_reducible apply below_drewN | with_reducible refine below_call ?_ (by with_reducible assumption) ?_) <;> (first | omega | (simp; done) | (simp; omega) | (simp at *; omega)))⟩
          case measure => simp [intOf]; omega
    · obtain rfl : k = 16 := by omega
      go_wp2_with (first
        | (refine wpList_load_row rfl 155 (.tmp 0) rfl w.heap.size rfl 155 (tabTo 16) (0, 0) _ hblk Try.underlying155 rfl tab_info16 ?_)
        | (refine wpList_store_mid rfl 155 (.tmp 0) (.tmp 23) rfl w.heap.size 0 (tabTo 16) rfl rfl ?hthere tab_info16 ?hone ?_))
      case hthere => exact hblk.there (by omega)
      case hone => exact tabTo_one 16
      have hb2 : Blk (wr.setCells w.heap.size 0 (tabTo 16).toList) w.heap.size 155 (tabTo 16) := hblk.setCells rfl
      go_wp2
      refine bodyPost_ret (results_cell_row rfl _ _ w.heap.size 155 (tabTo 16) (0, 0) _ rfl hb2 Try.underlying155 rfl tab_info16) rfl ?_
      exact ⟨rfl, below_setCells (Nat.le_refl _) _ _ hbr⟩

theorem flatten_lt {ls : List (List Nat)} (h : ∀ l ∈ ls, ∀ c ∈ l, c < 256) : ∀ c ∈ ls.flatten, c < 256 := fun c hc => by
  obtain ⟨l, hl, hc⟩ := List.mem_flatten.1 hc
  exact h l hl c hc
set_option maxHeartbeats 2000000 in
theorem sum_any (A : Option Addr) (n cap : Nat) (ls : List (List Nat)) (w : World) (hp : Texts w A n ls) :
    Calls Try.prog 83 #[.slice A n cap] w (Gives w (.int .u32 (crc ls.flatten))) := by
  have hn1 := hp.1
  have Hn := Lib.hid hn1
  have hn2 := hp.2.1
  unfold maxLen at hn2
  clear hn1
  go_enter Try.func83, Try.ntmps83
  go_wp2_with (first
    | (go_at_call 113; refine (reckon_any _).mono ?_; rintro e w1 ⟨rfl, hbw1⟩; have hzw1 := hbw1.size)
    | (refine wpList_store_mid rfl 155 (.tmp 3) (.tmp 9) rfl w1.heap.size 0 (tabTo 16) rfl rfl ?hthere tab_info16 ?hone ?_))
  case hthere => exact (Blk.new _ _ _).there (by rw [tabTo_size]; exact Nat.le_refl _)
  case hone => exact tabTo_one 16
  go_wp2
  have hb2 : Below w.heap.size w ((w1.alloc (.cells #[.int .u32 0, .int .u32 0, .int .u32 0, .int .u32 0, .int .u32 0, .int .u32 0, .int .u32 0, .int .u32 0, .int .u32 0, .int .u32 0, .int .u32 0, .int .u32 0, .int .u32 0, .int .u32 0, .int .u32 0, .int .u32 0] 155)).setCells w1.heap.size 0 (tabTo 16).toList) :=
    below_setCells hzw1 _ _ (by ((repeat' first | with_reducible exact Below.refl _ _ | with_reducible assumption | with_reducible refine Below.alloc ?_ ?_ _ | with_reducible refine Below.setCell ?_ ?_ _ | with_reducible apply Below.drew | with_reducible apply below_drewN | with_reducible refine below_call ?_ (by with_reducible assumption) ?_) <;> (first | omega | (simp; done) | (simp; omega) | (simp at *; omega))))
  have hblk : Blk ((w1.alloc (.cells #[.int .u32 0, .int .u32 0, .int .u32 0, .int .u32 0, .int .u32 0, .int .u32 0, .int .u32 0, .int .u32 0, .int .u32 0, .int .u32 0, .int .u32 0, .int .u32 0, .int .u32 0, .int .u32 0, .int .u32 0, .int .u32 0] 155)).setCells w1.heap.size 0 (tabTo 16).toList) w1.heap.size 155 (tabTo 16) :=
    (Blk.new _ _ _).setCells (tabTo_size 16)
  generalize (World.setCells _ _ _ _) = W2 at hb2 hblk ⊢
  have hp2 := hp.keep hb2
  generalize w1.heap.size = g at hblk ⊢
  clear hp hbw1 hzw1 w1
  have hM : crcM < 2 ^ 32 := by decide
  go_loop [4, 12] (fun v s12 => ∃ k : Nat, k ≤ n ∧ s12 = .int .i64 k ∧ v = .int .u32 (cfold crcM (ls.take k).flatten)) (fun _ s12 => n - (intOf s12).toNat)
  case atStart => exact ⟨0, by omega, rfl, rfl⟩
  case round =>
    obtain ⟨k, hk, rfl, rfl⟩ := hrel
    by_cases hlt : k < n
    · have hkl : k < ls.length := by have := Hn.out; omega
      obtain ⟨ad, B, m, c, rfl, hcell, hby⟩ := hp2.2.2 k ls[k] (List.getElem?_eq_getElem hkl)
      have hm1 := hby.1
      have Hm := Lib.hid hm1
      have hm2 := hby.2.1
      unfold maxLen at hm2
      clear hm1
      have hv0 : cfold crcM (ls.take k).flatten < 2 ^ 32 := by
        refine cfold_lt _ (flatten_lt fun l hl => ?_) hM
        obtain ⟨i, hi⟩ := List.getElem?_of_mem hl
        rw [List.getElem?_take] at hi
        split at hi
        · obtain ⟨_, _, _, _, _, _, hbl⟩ := hp2.2.2 i l hi
          exact hbl.lt
        · cases hi
      have hnext : cfold crcM (ls.take (k + 1)).flatten = cfold (cfold crcM (ls.take k).flatten) ls[k] := by
        rw [List.take_succ_eq_append_getElem hkl, List.flatten_append, cfold_append]
        simp
      have Hnext := Lib.hid hnext
      clear hnext
      generalize cfold crcM (ls.take k).flatten = v0 at *
      generalize ls[k] = l at *
      go_wp2
      go_loop [4, 18] (fun v s18 => ∃ j : Nat, j ≤ m ∧ s18 = .int .i64 j ∧ v = .int .u32 (cfold v0 (l.take j))) (fun _ s18 => m - (intOf s18).toNat)
      case atStart => exact ⟨0, by omega, rfl, rfl⟩
      case round =>
        obtain ⟨j, hj, rfl, rfl⟩ := hrel
        by_cases hlj : j < m
        · obtain ⟨bd, x, rfl, hx, hx2, hxc⟩ := hby.at_ hlj
          have hv1 : cfold v0 (l.take j) < 2 ^ 32 := cfold_lt _ (fun c hc => hby.lt c (List.mem_of_mem_take hc)) hv0
          have hnx : cfold v0 (l.take (j + 1)) = cupd (cfold v0 (l.take j)) x := by
            rw [List.take_add_one, hx, ← cfold_snoc]
            rfl
          have Hnx := Lib.hid hnx
          clear hnx
          generalize cfold v0 (l.take j) = v at *
          have hupd := cupd_halves v x
          obtain ⟨y, hy⟩ : ∃ y, y = v ^^^ x := ⟨_, rfl⟩
          have b1 : bits .xor .u32 (v : Int) (x : Int) = (y : Int) := u32_xor_of hv1 (by omega) hy.symm
          have hyl : y < 2 ^ 32 := by rw [hy]; exact Nat.xor_lt_two_pow hv1 (by omega)
          rw [← hy] at hupd
          clear hy
          have b2 : bits .and .u32 (y : Int) 15 = ((y % 16 : Nat) : Int) := by
            have h := u32_and_nat y 15 hyl (by omega)
            rw [Nat.and_two_pow_sub_one_eq_mod (n := 4)] at h
            exact h
          obtain ⟨z, hz⟩ : ∃ z, z = chalf y := ⟨_, rfl⟩
          rw [← hz] at hupd
          have hzl : z < 2 ^ 32 := by rw [hz]; exact chalf_lt hyl
          have c1 := hblk.cell (y % 16)
          rw [tabTo_get _ _ (Nat.mod_lt _ (by omega)), if_pos (Nat.mod_lt _ (by omega))] at c1
          have b3 : bits .xor .u32 ((y : Int) / 16) (ctab (y % 16) : Int) = (z : Int) := by
            rw [show (y : Int) / 16 = ((y / 16 : Nat) : Int) by omega]
            exact u32_xor_of (by omega) (ctab_lt (Nat.mod_lt _ (by omega))) hz.symm
          clear hz
          have hr1 : y % 16 < 16 := Nat.mod_lt _ (by omega)
          generalize ctab (y % 16) = t1 at *
          generalize y % 16 = r1 at *
          have b4 : bits .and .u32 (z : Int) 15 = ((z % 16 : Nat) : Int) := by
            have h := u32_and_nat z 15 hzl (by omega)
            rw [Nat.and_two_pow_sub_one_eq_mod (n := 4)] at h
            exact h
          have c2 := hblk.cell (z % 16)
          rw [tabTo_get _ _ (Nat.mod_lt _ (by omega)), if_pos (Nat.mod_lt _ (by omega))] at c2
          have b5 : bits .xor .u32 ((z : Int) / 16) (ctab (z % 16) : Int) = ((chalf z : Nat) : Int) := by
            rw [show (z : Int) / 16 = ((z / 16 : Nat) : Int) by omega]
            exact u32_xor_of (by omega) (ctab_lt (Nat.mod_lt _ (by omega))) rfl
          have hr2 : z % 16 < 16 := Nat.mod_lt _ (by omega)
          generalize chalf z = zz at *
          generalize ctab (z % 16) = t2 at *
          generalize z % 16 = r2 at *
          have Hupd := Lib.hid hupd
          clear hupd hx
          go_wp2
          go_round
          case rel => exact ⟨j + 1, by omega, by go_num, by rw [Hnx.out, Hupd.out]⟩
          case measure => simp [intOf]; omega
        · have hjm : j = m := by omega
          have hfull : cfold v0 (l.take j) = cfold v0 l := by rw [List.take_of_length_le (by have := Hm.out; omega)]
          have Hf := Lib.hid hfull
          clear hfull hjm
          go_wp2
          go_round
          case rel => exact ⟨k + 1, by omega, by go_num, by rw [Hnext.out, Hf.out]⟩
          case measure => simp [intOf]; omega
    · have hfull : (ls.take k) = ls := List.take_of_length_le (by have := Hn.out; omega)
      have Hf := Lib.hid hfull
      clear hfull
      go_wp2
      go_ret
      refine ⟨ret_int ?_, hb2⟩
      rw [Hf.out]
      have hl : ∀ c ∈ ls.flatten, c < 256 := flatten_lt fun l hl => by
        obtain ⟨i, hi⟩ := List.getElem?_of_mem hl
        obtain ⟨_, _, _, _, _, _, hbl⟩ := hp2.2.2 i l hi
        exact hbl.lt
      exact u32_xor_of (a := crcM) hM (cfold_lt _ hl hM) (crcM_sub (cfold_lt _ hl hM)).symm

set_option maxHeartbeats 2000000 in
theorem refsum_any (A : Option Addr) (n cap : Nat) (l : List Nat) (w : World) (hp : Bytes w A n l) :
    Calls Try.prog 85 #[.slice A n cap] w (Gives w (.int .u32 (crc l))) := by
  have hn1 := hp.1
  have Hn := Lib.hid hn1
  have hn2 := hp.2.1
  unfold maxLen at hn2
  clear hn1
  have hM : crcM < 2 ^ 32 := by decide
  go_enter Try.func85, Try.ntmps85
  go_wp2
  go_loop [3, 4] (fun v s4 => ∃ k : Nat, k ≤ n ∧ s4 = .int .i64 k ∧ v = .int .u32 (cfold crcM (l.take k))) (fun _ s4 => n - (intOf s4).toNat)
  case atStart => exact ⟨0, by omega, rfl, rfl⟩
  case round =>
    obtain ⟨k, hk, rfl, rfl⟩ := hrel
    by_cases hlt : k < n
    · obtain ⟨ad, x, rfl, hx, hx2, hxc⟩ := hp.at_ hlt
      have hv0 : cfold crcM (l.take k) < 2 ^ 32 := cfold_lt _ (fun c hc => hp.lt c (List.mem_of_mem_take hc)) hM
      have hnx : cfold crcM (l.take (k + 1)) = (rsteps 8 (cfold crcM (l.take k), x)).1 := by
        rw [List.take_add_one, hx, rsteps_eight _ _ hx2, ← cfold_snoc]
        rfl
      have Hnx := Lib.hid hnx
      clear hnx
      generalize cfold crcM (l.take k) = v at *
      go_wp2
      go_loop [3, 5, 6] (fun s3 s5 s6 => ∃ j : Nat, j ≤ 8 ∧ s6 = .int .i64 j ∧ s3 = .int .u32 (rsteps j (v, x)).1 ∧ s5 = .int .u32 (rsteps j (v, x)).2) (fun _ _ s6 => 8 - (intOf s6).toNat)
      case atStart => exact ⟨0, by omega, rfl, rfl, rfl⟩
      case round =>
        obtain ⟨j, hj, rfl, rfl, rfl⟩ := hrel
        have hs1 : (rsteps (j + 1) (v, x)).1 = (rstep (rsteps j (v, x))).1 := by rw [rsteps_succ']
        have hs2 : (rsteps (j + 1) (v, x)).2 = (rstep (rsteps j (v, x))).2 := by rw [rsteps_succ']
        have Hs1 := Lib.hid hs1
        have Hs2 := Lib.hid hs2
        have hf : j = 8 → (rsteps 8 (v, x)).1 = (rsteps j (v, x)).1 := fun e => by rw [e]
        have Hf := Lib.hid hf
        have ha : (rsteps j (v, x)).1 < 2 ^ 32 := by
          clear hs1 hs2 Hs1 Hs2 hf Hf hj
          induction j with
          | zero => exact hv0
          | succ j ih =>
            rw [rsteps_succ']
            unfold rstep
            dsimp only
            split
            · exact Nat.xor_lt_two_pow (by omega) (by decide)
            · omega
        have hb : (rsteps j (v, x)).2 < 256 := by
          rw [rsteps_snd]
          exact Nat.lt_of_le_of_lt (Nat.div_le_self _ _) hx2
        clear hs1 hs2 hf
        generalize rsteps j (v, x) = p at *
        obtain ⟨a, b⟩ := p
        dsimp only at *
        by_cases hlj : j < 8
        · by_cases hd : a % 2 = b % 2
          · have hd1 : ((a : Int) % 2 != (b : Int) % 2) = false := by rw [bne_eq_false_iff_eq]; omega
            have h1 : (rstep (a, b)).1 = a / 2 := by simp [rstep, hd]
            have Hd := Lib.hid hd
            have H1 := Lib.hid h1
            clear hd h1
            go_wp2
            go_round
            case rel => exact ⟨j + 1, by omega, by go_num, by rw [Hs1.out, H1.out]; go_num, by rw [Hs2.out]; show _ = Value.int _ ((b / 2 : Nat) : Int); go_num⟩
            case measure => simp [intOf]; omega
          · have hd1 : ((a : Int) % 2 != (b : Int) % 2) = true := by rw [bne_iff_ne]; omega
            have h1 : (rstep (a, b)).1 = (a / 2) ^^^ crcP := by simp [rstep, hd]
            have b1 : bits .xor .u32 ((a : Int) / 2) 2197175160 = (((a / 2) ^^^ crcP : Nat) : Int) := by
              rw [show (a : Int) / 2 = ((a / 2 : Nat) : Int) by omega]
              exact u32_xor_of (b := crcP) (by omega) (by decide) rfl
            have H1 := Lib.hid h1
            clear hd h1
            generalize (a / 2) ^^^ crcP = y at *
            go_wp2
            go_round
            case rel => exact ⟨j + 1, by omega, by go_num, by rw [Hs1.out, H1.out], by rw [Hs2.out]; show _ = Value.int _ ((b / 2 : Nat) : Int); go_num⟩
            case measure => simp [intOf]; omega
        · have h8 : a = (rsteps 8 (v, x)).1 := (Hf.out (by omega)).symm
          have H8 := Lib.hid h8
          clear h8
          go_wp2
          go_round
          case rel => exact ⟨k + 1, by omega, by go_num, by rw [Hnx.out, H8.out]⟩
          case measure => simp [intOf]; omega
    · have hfull : l.take k = l := List.take_of_length_le (by have := Hn.out; omega)
      have Hf := Lib.hid hfull
      clear hfull
      have hfl : cfold crcM l < 2 ^ 32 := cfold_lt _ hp.lt hM
      have hbd : cfold crcM (l.take k) < 2 ^ 32 := by rw [Hf.out]; exact hfl
      have hcr : crc (l.take k) = crcM - cfold crcM (l.take k) := rfl
      have Hcr := Lib.hid hcr
      clear hcr
      generalize cfold crcM (l.take k) = r at *
      go_wp2
      go_ret
      refine ⟨ret_int ?_, Below.refl _ _⟩
      rw [← Hf.out, Hcr.out]
      simp only [crcM]
      omega
end Go.Proofs.Ytpdlhcfepafjeaa
