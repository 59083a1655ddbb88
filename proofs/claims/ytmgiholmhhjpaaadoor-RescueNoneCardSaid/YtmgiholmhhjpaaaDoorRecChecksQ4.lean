/- A command, opened; its cells. The walks of package cmd: Writes, keys, Meet. The walks of package runes: alone, Count, clean, Beginning, Key. -/
import Derived.Test.YtmgiholmhhjpaaaDoorRecChecksQ2
import Derived.Test.YtmgiholmhhjpaaaDoorRecChecksQ3
import Derived.ProofKit
import Derived.ShutString
import Derived.ChangeOld
import Derived.Lib.OthersKept
namespace Go.Proofs.YtmgiholmhhjpaaaDoor
open Go.RowKit
set_option linter.unusedVariables false
set_option linter.unusedSimpArgs false
set_option maxRecDepth 20000
attribute [local go_sem ↓] Go.wp_at_zero Go.wp_at_succ
attribute [local go_sem] World.cell?_alloc_some frozen_alloc_some
open Go.ChangeShapes Go.WideShapes Go.ChangeAt
open Go.ChangeMaps (open_string shut_string)

structure CmdT where
  kind : Int
  client : Int
  seq : Int
  key : ByteArray
  val : ByteArray
  rev : Int
def CmdT.v (c : CmdT) : Value := .agg #[.int .i64 c.kind, .int .i64 c.client, .int .i64 c.seq, .string c.key, .string c.val, .int .i64 c.rev]
structure CmdT.Ok (c : CmdT) : Prop where
  kind : (Lit.int .i64 c.kind).wf = true
  client : (Lit.int .i64 c.client).wf = true
  seq : (Lit.int .i64 c.seq).wf = true
  key : c.key.size ≤ maxLen
  val : c.val.size ≤ maxLen
  rev : (Lit.int .i64 c.rev).wf = true

theorem open_cmd {H : Type} {enc : TypeId × Value → H} {w : World} {r : Reach} {b0 base : Nat} {spare : Nat → Bool} {held : Bool} {v : Value} {d : DataW H} {p : List MemPlace}
    (hv : Value.okWide Tryd.prog w r b0 23 v) (h : DataW.Trod enc Tryd.prog w base spare held 23 v d p) : ∃ c : CmdT, v = c.v ∧ c.Ok := by
  obtain ⟨v0, v1, v2, v3, v4, v5, y0, y1, y2, y3, y4, y5, m, rfl, h0, h1, h2, h3, h4, h5⟩ := open_agg6 Tryd.underlying23 (by kernel_rfl) (by kernel_rfl) hv h
  obtain ⟨a0, e0, _, w0⟩ := DataW.trod_int Tryd.underlying3 h0
  obtain ⟨a1, e1, _, w1⟩ := DataW.trod_int Tryd.underlying3 h1
  obtain ⟨a2, e2, _, w2⟩ := DataW.trod_int Tryd.underlying3 h2
  obtain ⟨a3, e3, _, w3⟩ := DataW.trod_string Tryd.underlying9 h3
  obtain ⟨a4, e4, _, w4⟩ := DataW.trod_string Tryd.underlying9 h4
  obtain ⟨a5, e5, _, w5⟩ := DataW.trod_int Tryd.underlying3 h5
  simp at e0 e1 e2 e3 e4 e5
  subst e0 e1 e2 e3 e4 e5
  exact ⟨⟨a0, a1, a2, a3, a4, a5⟩, rfl, w0, w1, w2, w3, w4, w5⟩
end Go.Proofs.YtmgiholmhhjpaaaDoor

namespace Go.Proofs.YtmgiholmhhjpaaaDoor
open Go.RowKit
set_option linter.unusedVariables false
set_option linter.unusedSimpArgs false
set_option maxRecDepth 20000
attribute [local go_sem ↓] Go.wp_at_zero Go.wp_at_succ
attribute [local go_sem] World.cell?_alloc_some frozen_alloc_some

def cwrites (k : Int) : Bool := k == 2 || k == 3 || k == 4
def isPre (s p : ByteArray) : Bool := Lib.hasPrefix s.data.toList p.data.toList
theorem text_inj {s t : ByteArray} (h : s.toList = t.toList) : s = t := by
  obtain ⟨⟨a⟩⟩ := s
  obtain ⟨⟨b⟩⟩ := t
  simp only [ByteArray.toList_eq] at h
  rw [show a = b from h]

end Go.Proofs.YtmgiholmhhjpaaaDoor

namespace Go.Proofs.YtmgiholmhhjpaaaDoor
open Go.RowKit
set_option linter.unusedVariables false
set_option linter.unusedSimpArgs false
set_option maxRecDepth 20000
attribute [local go_sem ↓] Go.wp_at_zero Go.wp_at_succ
attribute [local go_sem] World.cell?_alloc_some frozen_alloc_some

/-- The tables of the library's decoder lie where they lie. -/
def Tabs (w : World) : Prop := Lib.Utf8Tabs 0 1 w
theorem Tabs.keep {w w' : World} (h : Tabs w) (hb : Below w.heap.size w w') : Tabs w' :=
  ⟨fun c hc => cell_keep hb (h.1 c hc), fun i hi => ⟨cell_keep hb (h.2 i hi).1, cell_keep hb (h.2 i hi).2⟩⟩

theorem extract_get (s : ByteArray) (pos k : Nat) (h : pos + k < s.size) : (s.extract pos s.size).get! k = s.get! (pos + k) := by
  rw [Utf8W.get!_of_lt s (pos + k) h, Utf8W.get!_of_lt _ k (by simp; omega)]
  exact ByteArray.getElem_extract _
theorem decodeN_congr {n a b1 b2 b3 c1 c2 c3 : Nat} (h1 : 1 < n → b1 = c1) (h2 : 2 < n → b2 = c2) (h3 : 3 < n → b3 = c3) : Lib.decodeN n a b1 b2 b3 = Lib.decodeN n a c1 c2 c3 := by
  by_cases e1 : 1 < n
  · have := h1 e1; subst this
    by_cases e2 : 2 < n
    · have := h2 e2; subst this
      by_cases e3 : 3 < n
      · have := h3 e3; subst this; rfl
      · simp [Lib.decodeN, e3]
    · have e3 : ¬ 3 < n := by omega
      simp [Lib.decodeN, e2, e3]
  · have e2 : ¬ 2 < n := by omega
    have e3 : ¬ 3 < n := by omega
    simp [Lib.decodeN, e1, e2, e3]
theorem decodeGo_tail (s : ByteArray) (pos : Nat) (h : pos < s.size) : Lib.decodeGo (s.extract pos s.size) = Utf8.decode s pos := by
  have hz : (s.extract pos s.size).size = s.size - pos := by simp
  have hn : ¬ (s.extract pos s.size).size = 0 := by omega
  simp only [Lib.decodeGo, if_neg hn]
  rw [Lib.decode_at, Lib.decode_at, hz, Nat.sub_zero, extract_get s pos 0 (by omega), Nat.add_zero]
  exact decodeN_congr (fun h => by rw [Nat.zero_add, extract_get s pos 1 (by omega)]) (fun h => by rw [Nat.zero_add, extract_get s pos 2 (by omega)]) (fun h => by rw [Nat.zero_add, extract_get s pos 3 (by omega)])
theorem nat_one (l : Nat) : (((l : Nat) : Int) == 1) = (l == 1) := by rw [Bool.eq_iff_iff]; simp; omega
/-- A byte that stands alone. -/
def lone (s : ByteArray) (pos : Nat) : Bool := (Utf8.decode s pos).1 == 65533 && (Utf8.decode s pos).2 == 1
set_option maxHeartbeats 2000000 in
theorem alone_any (s : ByteArray) (pos : Nat) (w : World) (hp : pos < s.size) (hs : s.size ≤ maxLen) (hT : Tabs w) :
    Calls Tryd.prog 92 #[.string s, .int .i64 (pos : Int), .int .i32 ((Utf8.decode s pos).1 : Int)] w (Gives w (.bool (lone s pos))) := by
  have hd : ∀ W, Below w.heap.size w W → Calls Tryd.prog 100 #[.string (s.extract pos s.size)] W (fun e w' => e = .returned (.tuple #[.int .i32 ((Utf8.decode s pos).1 : Int), .int .i64 ((Utf8.decode s pos).2 : Int)]) ∧ Below W.heap.size W w') := fun W h => by
    have := Tryd.utf8_DecodeRuneInString (s.extract pos s.size) W (hT.keep h)
    rw [decodeGo_tail s pos hp] at this
    exact this
  unfold lone
  generalize Utf8.decode s pos = y at *
  obtain ⟨c, l⟩ := y
  simp only at hd ⊢
  unfold maxLen at hs
  have j0 : (0 : Int) ≤ (pos : Int) := by omega
  have j1 : (pos : Int) ≤ (s.size : Int) := by omega
  by_cases hc : c = 65533
  · subst hc
    go_enter Tryd.func92, Tryd.ntmps92
    go_wp2_with fail
    refine (hd w (Below.refl _ _)).mono ?_
    rintro e w1 ⟨rfl, hb1⟩
    go_wp2_with fail
    go_ret
    exact ⟨by simp [nat_one], by ((repeat' first | with_reducible exact Below.refl _ _ | with_reducible assumption | with_reducible refine Below.alloc ?_ ?_ _ | with_reducible refine Below.setCell ?_ ?_ _ | with_reducible apply Below.drew | with_reducible apply below_drewN | with_reducible refine below_call ?_ (by with_reducible assumption) ?_) <;> (first | omega | (simp; done) | (simp; omega) | (simp at *; omega)))⟩
  · have hc2 : ((c : Int) != 65533) = true := by simp; omega
    go_enter Tryd.func92, Tryd.ntmps92
    go_wp2_with fail
    go_ret
    exact ⟨by simp [hc], by ((repeat' first | with_reducible exact Below.refl _ _ | with_reducible assumption | with_reducible refine Below.alloc ?_ ?_ _ | with_reducible refine Below.setCell ?_ ?_ _ | with_reducible apply Below.drew | with_reducible apply below_drewN | with_reducible refine below_call ?_ (by with_reducible assumption) ?_) <;> (first | omega | (simp; done) | (simp; omega) | (simp at *; omega)))⟩

/-- How many runes stand from a place on (so many are looked at). -/
def rcnt (s : ByteArray) : Nat → Nat → Nat
  | 0, _ => 0
  | f + 1, pos => if pos < s.size then 1 + rcnt s f (pos + (Utf8.decode s pos).2) else 0
/-- A rune that may not stand in a key. -/
def rbad (s : ByteArray) (pos : Nat) : Bool := decide ((Utf8.decode s pos).1 < 32) || (Utf8.decode s pos).1 == 127 || lone s pos
def rclean (s : ByteArray) : Nat → Nat → Bool
  | 0, _ => true
  | f + 1, pos => if pos < s.size then !rbad s pos && rclean s f (pos + (Utf8.decode s pos).2) else true
theorem rcnt_end (s : ByteArray) (f pos : Nat) (h : ¬ pos < s.size) : rcnt s f pos = 0 := by cases f <;> simp [rcnt, h]
theorem rclean_end (s : ByteArray) (f pos : Nat) (h : ¬ pos < s.size) : rclean s f pos = true := by cases f <;> simp [rclean, h]
theorem width_pos (s : ByteArray) (pos : Nat) (h : pos < s.size) : 1 ≤ (Utf8.decode s pos).2 := by
  by_cases ha : (s[pos]'h).toNat < 128
  · rw [decode_ascii s pos h ha]
    exact Nat.le_refl _
  · exact (decode_high s pos h (by omega)).2
theorem rcnt_le (s : ByteArray) : ∀ (f pos : Nat), rcnt s f pos ≤ f
  | 0, _ => Nat.le_refl _
  | f + 1, pos => by
    have := rcnt_le s f (pos + (Utf8.decode s pos).2)
    simp only [rcnt]; split <;> omega

set_option maxHeartbeats 2000000 in
theorem count_any (s : ByteArray) (w : World) (hs : s.size ≤ maxLen) : Calls Tryd.prog 72 #[.string s] w (Gives w (.int .i64 (rcnt s s.size 0 : Int))) := by
  have hle := rcnt_le s s.size 0
  unfold maxLen at hs
  obtain ⟨n, hn⟩ : ∃ n, n = rcnt s s.size 0 := ⟨_, rfl⟩
  rw [← hn] at hle ⊢
  go_enter Tryd.func72, Tryd.ntmps72
  go_wp2_with fail
  go_loopw [3] (fun s3 wr => ∃ (pos f acc : Nat), wr = w.iter s pos ∧ s3 = .int .i64 (acc : Int) ∧ acc + rcnt s f pos = n ∧ s.size ≤ pos + f) (fun _ wr => s.size - wr.iterPos w.heap.size)
  case atStart => exact ⟨0, s.size, 0, rfl, rfl, by omega, by omega⟩
  case round =>
    obtain ⟨pos, f, acc, rfl, rfl, hc, hf⟩ := hrel
    by_cases hp : pos < s.size
    · have hnx : ∀ ty, (Instr.next (.pointer (some ⟨w.heap.size, 0, none⟩)) true ty).run Tryd.prog (w.iter s pos) = _ := fun ty => run_next_any w s pos ty hp
      have hwd := width_pos s pos hp
      obtain ⟨f, rfl⟩ : ∃ f', f = f' + 1 := ⟨f - 1, by omega⟩
      simp only [rcnt, if_pos hp] at hc
      have hac : IntKind.i64.wrap ((acc : Int) + 1) = ((acc + 1 : Nat) : Int) := by rw [IntWalk.i64_in _ (by omega)]; omega
      have Hc := Lib.hid hc
      clear hc
      go_wp2_with fail
      go_roundw
      case rel =>
        exact ⟨pos + (Utf8.decode s pos).2, f, acc + 1, rfl, by first | rfl | go_num, by have := Hc.out; omega, by omega⟩
      case measure => simp; omega
    · have hnx : ∀ ty, (Instr.next (.pointer (some ⟨w.heap.size, 0, none⟩)) true ty).run Tryd.prog (w.iter s pos) = _ := fun ty => run_next_end w s pos ty hp
      rw [rcnt_end s f pos hp] at hc
      obtain rfl : acc = n := by omega
      go_wp2_with fail
      go_ret
      exact ⟨rfl, by unfold World.iter; ((repeat' first | with_reducible exact Below.refl _ _ | with_reducible assumption | with_reducible refine Below.alloc ?_ ?_ _ | with_reducible refine Below.setCell ?_ ?_ _ | with_reducible apply Below.drew | with_reducible apply below_drewN | with_reducible refine below_call ?_ (by with_reducible assumption) ?_) <;> (first | omega | (simp; done) | (simp; omega) | (simp at *; omega)))⟩
set_option maxHeartbeats 4000000 in
theorem clean_any (s : ByteArray) (w : World) (hs : s.size ≤ maxLen) (hT : Tabs w) : Calls Tryd.prog 73 #[.string s] w (Gives w (.bool (rclean s s.size 0))) := by
  obtain ⟨R, hR⟩ : ∃ R, R = rclean s s.size 0 := ⟨_, rfl⟩
  rw [← hR]
  have HT := Lib.hid hT
  clear hT
  go_enter Tryd.func73, Tryd.ntmps73
  go_wp2_with fail
  go_loopw [3] (fun s3 wr => ∃ (pos f : Nat), wr.heap[w.heap.size]? = some (.stringIter s pos) ∧ Below w.heap.size w wr ∧ R = rclean s f pos ∧ s.size ≤ pos + f) (fun _ wr => s.size - wr.iterPos w.heap.size)
  case atStart => exact ⟨0, s.size, World.iter_heap _ _ _, by unfold World.iter; ((repeat' first | with_reducible exact Below.refl _ _ | with_reducible assumption | with_reducible refine Below.alloc ?_ ?_ _ | with_reducible refine Below.setCell ?_ ?_ _ | with_reducible apply Below.drew | with_reducible apply below_drewN | with_reducible refine below_call ?_ (by with_reducible assumption) ?_) <;> (first | omega | (simp; done) | (simp; omega) | (simp at *; omega))), hR, by omega⟩
  case round =>
    obtain ⟨pos, f, hit, hbr, hc, hf⟩ := hrel
    have zb := hbr.size
    by_cases hp : pos < s.size
    · have hnx : ∀ ty, (Instr.next (.pointer (some ⟨w.heap.size, 0, none⟩)) true ty).run Tryd.prog wr = .ok (.tuple #[.bool true, .int .i64 pos, .int .i32 (Utf8.decode s pos).1]) (wr.iterAt w.heap.size s (pos + (Utf8.decode s pos).2)) := fun ty => Lib.run_next_any_at wr w.heap.size s pos ty hit hp
      have halone : ∀ W, Below w.heap.size w W → Calls Tryd.prog 92 #[.string s, .int .i64 (pos : Int), .int .i32 ((Utf8.decode s pos).1 : Int)] W (Gives W (.bool (lone s pos))) := fun W h => alone_any s pos W hp hs (HT.out.keep h)
      have hwd := width_pos s pos hp
      obtain ⟨f, rfl⟩ : ∃ f', f = f' + 1 := ⟨f - 1, by omega⟩
      simp only [rclean, if_pos hp, rbad] at hc
      have hbi : Below w.heap.size w (wr.iterAt w.heap.size s (pos + (Utf8.decode s pos).2)) := Lib.below_iterAt hbr (Nat.le_refl _) s _
      have hit2 := Lib.iterAt_heap wr w.heap.size s pos (pos + (Utf8.decode s pos).2) hit
      have hlt : w.heap.size < (wr.iterAt w.heap.size s (pos + (Utf8.decode s pos).2)).heap.size := by rw [Lib.iterAt_size]; exact (Array.getElem?_eq_some_iff.1 hit).1
      have hpos0 : wr.iterPos w.heap.size = pos := by simp [World.iterPos, hit]
      generalize lone s pos = lo at *
      generalize wr.iterAt w.heap.size s (pos + (Utf8.decode s pos).2) = wi at *
      generalize Utf8.decode s pos = y at *
      obtain ⟨c, l⟩ := y
      simp only at hc hwd hnx halone hit2
      have Hc := Lib.hid hc
      have Hpos0 := Lib.hid hpos0
      clear hc hR hpos0
      by_cases h32 : (c : Int) < 32
      · go_wp2_with fail
        go_ret
        exact ⟨by rw [Hc.out]; simp; omega, by ((repeat' first | with_reducible exact Below.refl _ _ | with_reducible assumption | with_reducible refine Below.alloc ?_ ?_ _ | with_reducible refine Below.setCell ?_ ?_ _ | with_reducible apply Below.drew | with_reducible apply below_drewN | with_reducible refine below_call ?_ (by with_reducible assumption) ?_) <;> (first | omega | (simp; done) | (simp; omega) | (simp at *; omega)))⟩
      · by_cases h127 : (c : Int) = 127
        · have h127' : ((c : Int) == 127) = true := by simp [h127]
          go_wp2_with fail
          go_ret
          exact ⟨by rw [Hc.out]; simp; omega, by ((repeat' first | with_reducible exact Below.refl _ _ | with_reducible assumption | with_reducible refine Below.alloc ?_ ?_ _ | with_reducible refine Below.setCell ?_ ?_ _ | with_reducible apply Below.drew | with_reducible apply below_drewN | with_reducible refine below_call ?_ (by with_reducible assumption) ?_) <;> (first | omega | (simp; done) | (simp; omega) | (simp at *; omega)))⟩
        · have h127' : ((c : Int) == 127) = false := by simp [h127]
          cases lo
          · go_wp2_with fail
            refine (halone _ hbi).mono ?_
            rintro e w1 ⟨rfl, hb1⟩
            have hit3 : w1.heap[w.heap.size]? = some (.stringIter s (pos + l)) := (hb1.block _ hlt).trans hit2
            have hpos3 : w1.iterPos w.heap.size = pos + l := by simp [World.iterPos, hit3]
            have hb3 := below_call hbi hb1 hbi.size
            have Hp3 := Lib.hid hpos3
            clear hpos3
            go_wp2_with fail
            go_roundw
            case rel => exact ⟨pos + l, f, hit3, hb3, (by rw [Hc.out]; simp; omega), by omega⟩
            case measure => rw [Hp3.out, Hpos0.out]; omega
          · go_wp2_with fail
            refine (halone _ hbi).mono ?_
            rintro e w1 ⟨rfl, hb1⟩
            have hb3 := below_call hbi hb1 hbi.size
            go_wp2_with fail
            go_ret
            exact ⟨by rw [Hc.out]; simp, hb3⟩
    · have hnx : ∀ ty, (Instr.next (.pointer (some ⟨w.heap.size, 0, none⟩)) true ty).run Tryd.prog wr = .ok (.tuple #[.bool false]) wr := fun ty => Lib.run_next_end_at wr w.heap.size s pos ty hit hp
      rw [rclean_end s f pos hp] at hc
      subst hc
      clear hR
      go_wp2_with fail
      go_ret
      exact ⟨rfl, hbr⟩

/-- What is wrong with a beginning; with a key. -/
def rbeg (s : ByteArray) : Nat := if decide (32 < rcnt s s.size 0) || !rclean s s.size 0 then 11 else 0
def rkey (s : ByteArray) : Nat := if s.toList = [] then 11 else rbeg s
set_option maxHeartbeats 2000000 in
theorem beginning_any (s : ByteArray) (w : World) (hs : s.size ≤ maxLen) (hT : Tabs w) : Calls Tryd.prog 53 #[.string s] w (Gives w (.int .i64 (rbeg s : Int))) := by
  have hc := fun W => count_any s W hs
  have hl : ∀ W, Below w.heap.size w W → Calls Tryd.prog 73 #[.string s] W (Gives W (.bool (rclean s s.size 0))) := fun W h => clean_any s W hs (hT.keep h)
  obtain ⟨R, hR⟩ : ∃ R, R = rbeg s := ⟨_, rfl⟩
  rw [← hR]
  unfold rbeg at hR
  generalize rcnt s s.size 0 = n at *
  generalize rclean s s.size 0 = b at *
  have HR := Lib.hid hR
  clear hR
  clear hT
  by_cases h : 32 < n
  · have h' : (32 : Int) < (n : Int) := by omega
    go_enter Tryd.func53, Tryd.ntmps53
    go_wp2_with fail
    refine (hc _).mono ?_
    rintro e w1 ⟨rfl, hb1⟩
    go_wp2_with fail
    go_ret
    exact ⟨by rw [HR.out]; simp [h], by ((repeat' first | with_reducible exact Below.refl _ _ | with_reducible assumption | with_reducible refine Below.alloc ?_ ?_ _ | with_reducible refine Below.setCell ?_ ?_ _ | with_reducible apply Below.drew | with_reducible apply below_drewN | with_reducible refine below_call ?_ (by with_reducible assumption) ?_) <;> (first | omega | (simp; done) | (simp; omega) | (simp at *; omega)))⟩
  · have h' : ¬ (32 : Int) < (n : Int) := by omega
    cases b
    · go_enter Tryd.func53, Tryd.ntmps53
      go_wp2_with fail
      refine (hc _).mono ?_
      rintro e w1 ⟨rfl, hb1⟩
      go_wp2_with fail
      refine (hl _ hb1).mono ?_
      rintro e w2 ⟨rfl, hb2⟩
      have z1 := hb1.size
      go_wp2_with fail
      go_ret
      exact ⟨by rw [HR.out]; simp [h], by ((repeat' first | with_reducible exact Below.refl _ _ | with_reducible assumption | with_reducible refine Below.alloc ?_ ?_ _ | with_reducible refine Below.setCell ?_ ?_ _ | with_reducible apply Below.drew | with_reducible apply below_drewN | with_reducible refine below_call ?_ (by with_reducible assumption) ?_) <;> (first | omega | (simp; done) | (simp; omega) | (simp at *; omega)))⟩
    · go_enter Tryd.func53, Tryd.ntmps53
      go_wp2_with fail
      refine (hc _).mono ?_
      rintro e w1 ⟨rfl, hb1⟩
      go_wp2_with fail
      refine (hl _ hb1).mono ?_
      rintro e w2 ⟨rfl, hb2⟩
      have z1 := hb1.size
      go_wp2_with fail
      go_ret
      exact ⟨by rw [HR.out]; simp [h], by ((repeat' first | with_reducible exact Below.refl _ _ | with_reducible assumption | with_reducible refine Below.alloc ?_ ?_ _ | with_reducible refine Below.setCell ?_ ?_ _ | with_reducible apply Below.drew | with_reducible apply below_drewN | with_reducible refine below_call ?_ (by with_reducible assumption) ?_) <;> (first | omega | (simp; done) | (simp; omega) | (simp at *; omega)))⟩
theorem key_any (s : ByteArray) (w : World) (hs : s.size ≤ maxLen) (hT : Tabs w) : Calls Tryd.prog 54 #[.string s] w (Gives w (.int .i64 (rkey s : Int))) := by
  have hb := fun W (h : Below w.heap.size w W) => beginning_any s W hs (hT.keep h)
  obtain ⟨R, hR⟩ : ∃ R, R = rkey s := ⟨_, rfl⟩
  rw [← hR]
  unfold rkey at hR
  generalize rbeg s = n at *
  have HR := Lib.hid hR
  clear hR
  clear hT
  by_cases h : s.toList = []
  · have h' : (s.toList == []) = true := by simp [h]
    go_enter Tryd.func54, Tryd.ntmps54
    go_wp2_with fail
    go_ret
    exact ⟨by rw [HR.out]; simp [h], by ((repeat' first | with_reducible exact Below.refl _ _ | with_reducible assumption | with_reducible refine Below.alloc ?_ ?_ _ | with_reducible refine Below.setCell ?_ ?_ _ | with_reducible apply Below.drew | with_reducible apply below_drewN | with_reducible refine below_call ?_ (by with_reducible assumption) ?_) <;> (first | omega | (simp; done) | (simp; omega) | (simp at *; omega)))⟩
  · have h' : (s.toList == []) = false := by simp [h]
    go_enter Tryd.func54, Tryd.ntmps54
    go_wp2_with fail
    refine (hb _ (Below.refl _ _)).mono ?_
    rintro e w1 ⟨rfl, hb1⟩
    go_wp2_with fail
    go_ret
    exact ⟨by rw [HR.out]; simp [h], by ((repeat' first | with_reducible exact Below.refl _ _ | with_reducible assumption | with_reducible refine Below.alloc ?_ ?_ _ | with_reducible refine Below.setCell ?_ ?_ _ | with_reducible apply Below.drew | with_reducible apply below_drewN | with_reducible refine below_call ?_ (by with_reducible assumption) ?_) <;> (first | omega | (simp; done) | (simp; omega) | (simp at *; omega)))⟩
end Go.Proofs.YtmgiholmhhjpaaaDoor
