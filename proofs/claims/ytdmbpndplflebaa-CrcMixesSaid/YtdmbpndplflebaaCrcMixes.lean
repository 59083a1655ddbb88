/- The walk of the law CrcMixes (package stonecroplaw02). -/
import Derived.Test.YtdmbpndplflebaaCrcSums
import Derived.Test.YtdmbpndplflebaaAppB
namespace Go.Proofs.Ytdmbpndplflebaa
open Go.RowKit
set_option linter.unusedVariables false
set_option linter.unusedSimpArgs false
attribute [local go_sem ↓] Go.wp_at_zero Go.wp_at_succ
attribute [local go_sem] World.cell?_alloc_some frozen_alloc_some
attribute [local go_sem] lt2 lt3 lt4 lt5
attribute [local simp] lt2 lt3 lt4 lt5

set_option maxHeartbeats 2000000 in
theorem mixes_walk (A B C : Option Addr) (n m o ca cb cc : Nat) (a b c : List Nat) (w : World) (ha : Bytes w A n a) (hb : Bytes w B m b) (hc : Bytes w C o c) :
    Calls Try.prog 7 #[.slice A n ca, .slice B m cb, .slice C o cc] w (Gives w (.bool true)) := by
  by_cases hlen : 1000 < n
  · go_enter Try.func7, Try.ntmps7
    go_wp2_with (go_at_call 19; refine (awake02 _).mono ?_; rintro e w1 ⟨rfl, hbw1⟩; obtain ⟨hcw1, hfw1⟩ := keeps hbw1; have hzw1 := hbw1.size; (try simp at hzw1); clear hcw1 hfw1)
    go_ret
    exact ⟨rfl, by ((repeat' first | with_reducible exact Below.refl _ _ | with_reducible assumption | with_reducible refine Below.alloc ?_ ?_ _ | with_reducible refine Below.setCell ?_ ?_ _ | with_reducible apply Below.drew | with_reducible apply below_drewN | with_reducible refine below_call ?_ (by with_reducible assumption) ?_) <;> (first | omega | (simp; done) | (simp; omega) | (simp at *; omega)))⟩
  by_cases hbn : m = n
  case neg =>
    have hx : ((m : Int) != (n : Int)) = true := by rw [bne_iff_ne]; omega
    go_enter Try.func7, Try.ntmps7
    go_wp2_with (go_at_call 19; refine (awake02 _).mono ?_; rintro e w1 ⟨rfl, hbw1⟩; obtain ⟨hcw1, hfw1⟩ := keeps hbw1; have hzw1 := hbw1.size; (try simp at hzw1); clear hcw1 hfw1)
    go_ret
    exact ⟨rfl, by ((repeat' first | with_reducible exact Below.refl _ _ | with_reducible assumption | with_reducible refine Below.alloc ?_ ?_ _ | with_reducible refine Below.setCell ?_ ?_ _ | with_reducible apply Below.drew | with_reducible apply below_drewN | with_reducible refine below_call ?_ (by with_reducible assumption) ?_) <;> (first | omega | (simp; done) | (simp; omega) | (simp at *; omega)))⟩
  subst hbn
  by_cases hcn : o = m
  case neg =>
    have hx : ((o : Int) != (m : Int)) = true := by rw [bne_iff_ne]; omega
    have hy : ((m : Int) != (m : Int)) = false := by simp
    go_enter Try.func7, Try.ntmps7
    go_wp2_with (go_at_call 19; refine (awake02 _).mono ?_; rintro e w1 ⟨rfl, hbw1⟩; obtain ⟨hcw1, hfw1⟩ := keeps hbw1; have hzw1 := hbw1.size; (try simp at hzw1); clear hcw1 hfw1)
    go_ret
    exact ⟨rfl, by ((repeat' first | with_reducible exact Below.refl _ _ | with_reducible assumption | with_reducible refine Below.alloc ?_ ?_ _ | with_reducible refine Below.setCell ?_ ?_ _ | with_reducible apply Below.drew | with_reducible apply below_drewN | with_reducible refine below_call ?_ (by with_reducible assumption) ?_) <;> (first | omega | (simp; done) | (simp; omega) | (simp at *; omega)))⟩
  subst hcn
  have hxx : ((o : Int) != (o : Int)) = false := by simp
  obtain ⟨i0, hi, hz0, hz1, hz2⟩ := info_parts info_u8
  have hl1 : o ≤ 1000 := by omega
  have hmk := fun W : World => run_make_u8 (P := Try.prog) 30 5 i0 Try.underlying30 hi hz0 hz1 hz2 o (by omega) W
  have la := ha.1
  have lb := hb.1
  have lc := hc.1
  have lz : (zx (zx a b) c).length = o := by rw [zx_length _ _ (by rw [zx_length _ _ (by omega)]; omega), zx_length _ _ (by omega)]; omega
  have zl := zx_lt _ _ (zx_lt _ _ ha.lt hb.lt) hc.lt
  have zg : ∀ i, i < o → (zx (zx a b) c).getD i 0 = (a.getD i 0 ^^^ b.getD i 0) ^^^ c.getD i 0 := fun i hi => by
    rw [zx_getD _ _ (by rw [zx_length _ _ (by omega)]; omega) _ (by rw [zx_length _ _ (by omega)]; omega), zx_getD _ _ (by omega) _ (by omega)]
  have hcr := crc_mix a b c (by omega) (by omega) ha.lt hb.lt hc.lt
  have La := Lib.hid la
  have Lb := Lib.hid lb
  have Lc := Lib.hid lc
  have Lz := Lib.hid lz
  have Zg := Lib.hid zg
  have Hcr := Lib.hid hcr
  clear la lb lc lz zg hcr
  generalize zx (zx a b) c = z at *
  go_enter Try.func7, Try.ntmps7
  go_wp2_with fail
  go_loopw [8] (fun s8 wr => ∃ (k : Nat) (x : List Nat), k ≤ o ∧ s8 = .int .i64 k ∧ x.length = o ∧ (∀ i, i < k → x.getD i 0 = z.getD i 0) ∧ (∀ y ∈ x, y < 256) ∧ Blk wr w.heap.size 5 (u8s x).toArray ∧ Below w.heap.size w wr) (fun s8 _ => o - (intOf s8).toNat)
  case atStart => exact ⟨0, List.replicate o 0, by omega, rfl, by simp, fun i hi => absurd hi (by omega), fun y hy => by rw [(List.mem_replicate.1 hy).2]; omega, Blk.new _ _ _, by ((repeat' first | with_reducible exact Below.refl _ _ | with_reducible assumption | with_reducible refine Below.alloc ?_ ?_ _ | with_reducible refine Below.setCell ?_ ?_ _ | with_reducible apply Below.drew | with_reducible apply below_drewN | with_reducible refine below_call ?_ (by with_reducible assumption) ?_) <;> (first | omega | (simp; done) | (simp; omega) | (simp at *; omega)))⟩
  case round =>
    obtain ⟨k, x, hk, rfl, hx, hxz, hx2, hblk, hbr⟩ := hrel
    have hzr := hbr.size
    have Hx := Lib.hid hx
    have Hxz := Lib.hid hxz
    clear hx hxz
    by_cases hlt : k < o
    · obtain ⟨ad, a1, rfl, ea, a2, ac⟩ := (ha.keep hbr).at_ hlt
      obtain ⟨bd, b1, rfl, eb, b2, bc⟩ := (hb.keep hbr).at_ hlt
      obtain ⟨cd, c1, rfl, ec, c2, cc1⟩ := (hc.keep hbr).at_ hlt
      obtain ⟨ad', _, ead, _, _, ac'⟩ := ha.at_ hlt
      cases ead
      obtain ⟨bd', _, ebd, _, _, bc'⟩ := hb.at_ hlt
      cases ebd
      obtain ⟨cd', _, ecd, _, _, cc'⟩ := hc.at_ hlt
      cases ecd
      have na := World.block_lt_of_cell? _ _ ac'
      have nb := World.block_lt_of_cell? _ _ bc'
      have nc := World.block_lt_of_cell? _ _ cc'
      clear ac' bc' cc'
      have x1 : a1 ^^^ b1 < 256 := Nat.xor_lt_two_pow (n := 8) a2 b2
      have x2 : (a1 ^^^ b1) ^^^ c1 < 256 := Nat.xor_lt_two_pow (n := 8) x1 c2
      have e1 : bits .xor .u8 (a1 : Int) (b1 : Int) = ((a1 ^^^ b1 : Nat) : Int) := u8_xor_nat _ _ a2 b2
      have e2 : bits .xor .u8 ((a1 ^^^ b1 : Nat) : Int) (c1 : Int) = (((a1 ^^^ b1) ^^^ c1 : Nat) : Int) := u8_xor_nat _ _ x1 c2
      have hzk : z.getD k 0 = (a1 ^^^ b1) ^^^ c1 := by
        rw [Zg.out k hlt]; simp [List.getD, ea, eb, ec]
      have Hzk := Lib.hid hzk
      clear hzk ea eb ec
      generalize (a1 ^^^ b1) ^^^ c1 = v at *
      generalize a1 ^^^ b1 = u at *
      obtain ⟨old, hold⟩ : ∃ old, x[k]? = some old := ⟨_, List.getElem?_eq_getElem (by have := Hx.out; omega)⟩
      have hcell := hblk.cell k
      rw [u8s_get hold] at hcell
      have hfz := hblk.frozen k
      have k0 : (0 : Int) ≤ (k : Int) := by omega
      have k1 : (k : Int) < (o : Int) := by omega
      go_wp2_with fail
      go_region_held3 (fun w' => w'.cell? (ad.add k) = some (.int .u8 (a1 : Int)) ∧ w'.cell? (bd.add k) = some (.int .u8 (b1 : Int)) ∧ w'.cell? (cd.add k) = some (.int .u8 (c1 : Int))) ((go_split_ands; (repeat' apply And.intro) <;> (try simp only [World.cell?_drew, World.frozen?_drew]) <;> (first | with_reducible assumption | (exact cell_keep (by with_reducible assumption) (by first | with_reducible assumption | (simp [go_sem, *]; done))) | (exact cell_alloc (by with_reducible assumption)) | (exact frozen_keep (by with_reducible assumption) (by first | with_reducible assumption | (simp [go_sem, *]; done)) (by first | with_reducible assumption | (simp [go_sem, *]; done))) | (exact frozen_alloc (by with_reducible assumption) (by with_reducible assumption)) | (refine cell_restore (by with_reducible assumption) ?_; first | omega | (simp; omega)) | (refine frozen_restore (by with_reducible assumption) ?_; first | omega | (simp; omega)) | ((repeat with_reducible refine cell_far ?_ (by first | omega | (simp; omega))); first | with_reducible assumption | exact cell_keep (by with_reducible assumption) (by with_reducible assumption)) | (simp [go_sem, *]; done) | go_keep))) (fail)
      all_goals
        go_wp2_with fail
        go_roundw
        case rel => exact ⟨k + 1, x.set k v, by omega, by go_num, by simp [Hx.out], fun i hi => by
            by_cases hik : i = k
            · subst hik
              rw [Hzk.out]
              simp [List.getD, Hx.out, hlt]
            · rw [← Hxz.out i (by omega)]
              simp [List.getD, List.getElem?_set, Ne.symm hik], fun y hy => by
            rcases List.mem_or_eq_of_mem_set hy with h | h
            · exact hx2 y h
            · subst h; exact x2, by rw [← u8s_set]; exact Blk.set_ hblk k _, by ((repeat' first | with_reducible exact Below.refl _ _ | with_reducible assumption | with_reducible refine Below.alloc ?_ ?_ _ | with_reducible refine Below.setCell ?_ ?_ _ | with_reducible apply Below.drew | with_reducible apply below_drewN | with_reducible refine below_call ?_ (by with_reducible assumption) ?_) <;> (first | omega | (simp; done) | (simp; omega) | (simp at *; omega)))⟩
        case measure => simp [intOf]; omega
    · have hxz : x = z := by
        apply List.ext_getElem
        · have := Hx.out; have := Lz.out; omega
        · intro i h1 h2
          have := Hxz.out i (by have := Hx.out; omega)
          simpa [List.getD, List.getElem?_eq_getElem h1, List.getElem?_eq_getElem h2] using this
      have hzb : Bytes wr (some ⟨w.heap.size, 0, none⟩) o z := by
        have := Blk.bytes hblk hx2 (by have := Hx.out; simp only [maxLen]; omega)
        rwa [Hx.out, hxz] at this
      clear hxz
      have s0 : ∀ W g, W.cell? ⟨g, 0, none⟩ = some (.slice (some ⟨w.heap.size, 0, none⟩) o o) → Below wr.heap.size wr W → Calls Try.prog 20 #[.slice (some ⟨g, 0, none⟩) 1 1] W (Gives W (.int .u32 (crc z))) := fun W g hc hb => by
        have := sum_any (some ⟨g, 0, none⟩) 1 1 [z] W (texts1 hc (hzb.keep hb))
        simpa using this
      have s1 : ∀ W g, W.cell? ⟨g, 0, none⟩ = some (.slice A o ca) → Below wr.heap.size wr W → Calls Try.prog 20 #[.slice (some ⟨g, 0, none⟩) 1 1] W (Gives W (.int .u32 (crc a))) := fun W g hc hb => by
        have := sum_any (some ⟨g, 0, none⟩) 1 1 [a] W (texts1 hc ((ha.keep hbr).keep hb))
        simpa using this
      have s2 : ∀ W g, W.cell? ⟨g, 0, none⟩ = some (.slice B o cb) → Below wr.heap.size wr W → Calls Try.prog 20 #[.slice (some ⟨g, 0, none⟩) 1 1] W (Gives W (.int .u32 (crc b))) := fun W g hc hb => by
        have := sum_any (some ⟨g, 0, none⟩) 1 1 [b] W (texts1 hc ((Bytes.keep ‹Bytes w B o b› hbr).keep hb))
        simpa using this
      have s3 : ∀ W g, W.cell? ⟨g, 0, none⟩ = some (.slice C o cc) → Below wr.heap.size wr W → Calls Try.prog 20 #[.slice (some ⟨g, 0, none⟩) 1 1] W (Gives W (.int .u32 (crc c))) := fun W g hcc hb => by
        have := sum_any (some ⟨g, 0, none⟩) 1 1 [c] W (texts1 hcc ((hc.keep hbr).keep hb))
        simpa using this
      have hf : ∀ l : List Nat, (∀ y ∈ l, y < 256) → crc l < 2 ^ 32 := fun l hl => by unfold crc crcM; omega
      have e1 : bits .xor .u32 (crc a : Int) (crc b : Int) = ((crc a ^^^ crc b : Nat) : Int) := u32_xor_nat _ _ (hf _ ha.lt) (hf _ (Bytes.lt ‹Bytes w B o b›))
      have e2 : bits .xor .u32 ((crc a ^^^ crc b : Nat) : Int) (crc c : Int) = ((crc z : Nat) : Int) := by
        rw [Hcr.out]
        exact u32_xor_nat _ _ (Nat.xor_lt_two_pow (hf _ ha.lt) (hf _ (Bytes.lt ‹Bytes w B o b›))) (hf _ hc.lt)
      clear hf hzb hblk
      generalize crc a ^^^ crc b = yab at *
      generalize crc a = ya at *
      generalize crc b = yb at *
      generalize crc c = yc at *
      generalize crc z = yz at *
      have hzr2 : w.heap.size ≤ wr.heap.size := hzr
      go_wp2_with (first
        | (go_at_call 20; (with_reducible refine (s0 _ _ ?hc0 ?hbel).mono ?_); (case hc0 => (simp [go_sem, *]; done)); (case hbel => ((repeat' first | with_reducible exact Below.refl _ _ | with_reducible assumption | with_reducible refine Below.alloc ?_ ?_ _ | with_reducible refine Below.setCell ?_ ?_ _ | with_reducible apply Below.drew | with_reducible apply below_drewN | with_reducible refine below_call ?_ (by with_reducible assumption) ?_) <;> (first | omega | (simp; done) | (simp; omega) | (simp at *; omega)))); rintro e w3 ⟨rfl, hbw3⟩; have hzw3 := hbw3.size; (try simp at hzw3))
        | (go_at_call 20; (with_reducible refine (s1 _ _ ?hc0 ?hbel).mono ?_); (case hc0 => (simp [go_sem, *]; done)); (case hbel => ((repeat' first | with_reducible exact Below.refl _ _ | with_reducible assumption | with_reducible refine Below.alloc ?_ ?_ _ | with_reducible refine Below.setCell ?_ ?_ _ | with_reducible apply Below.drew | with_reducible apply below_drewN | with_reducible refine below_call ?_ (by with_reducible assumption) ?_) <;> (first | omega | (simp; done) | (simp; omega) | (simp at *; omega)))); rintro e w3 ⟨rfl, hbw3⟩; have hzw3 := hbw3.size; (try simp at hzw3))
        | (go_at_call 20; (with_reducible refine (s2 _ _ ?hc0 ?hbel).mono ?_); (case hc0 => (simp [go_sem, *]; done)); (case hbel => ((repeat' first | with_reducible exact Below.refl _ _ | with_reducible assumption | with_reducible refine Below.alloc ?_ ?_ _ | with_reducible refine Below.setCell ?_ ?_ _ | with_reducible apply Below.drew | with_reducible apply below_drewN | with_reducible refine below_call ?_ (by with_reducible assumption) ?_) <;> (first | omega | (simp; done) | (simp; omega) | (simp at *; omega)))); rintro e w3 ⟨rfl, hbw3⟩; have hzw3 := hbw3.size; (try simp at hzw3))
        | (go_at_call 20; (with_reducible refine (s3 _ _ ?hc0 ?hbel).mono ?_); (case hc0 => (simp [go_sem, *]; done)); (case hbel => ((repeat' first | with_reducible exact Below.refl _ _ | with_reducible assumption | with_reducible refine Below.alloc ?_ ?_ _ | with_reducible refine Below.setCell ?_ ?_ _ | with_reducible apply Below.drew | with_reducible apply below_drewN | with_reducible refine below_call ?_ (by with_reducible assumption) ?_) <;> (first | omega | (simp; done) | (simp; omega) | (simp at *; omega)))); rintro e w3 ⟨rfl, hbw3⟩; have hzw3 := hbw3.size; (try simp at hzw3))
        | (go_at_call 19; (with_reducible refine (awake02 _).mono ?_); rintro e w3 ⟨rfl, hbw3⟩; have hzw3 := hbw3.size; (try simp at hzw3)))
      all_goals go_ret
      all_goals exact ⟨by simp, by ((repeat' first | with_reducible exact Below.refl _ _ | with_reducible assumption | with_reducible refine Below.alloc ?_ ?_ _ | with_reducible refine Below.setCell ?_ ?_ _ | with_reducible apply Below.drew | with_reducible apply below_drewN | with_reducible refine below_call ?_ (by with_reducible assumption) ?_) <;> (first | omega | (simp; done) | (simp; omega) | (simp at *; omega)))⟩
end Go.Proofs.Ytdmbpndplflebaa
