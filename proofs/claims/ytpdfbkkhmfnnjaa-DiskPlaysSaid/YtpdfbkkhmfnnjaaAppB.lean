/- Rows of bytes that the call itself made: one store; make. -/
import Derived.Test.YtpdfbkkhmfnnjaaApp
namespace Go.Proofs.Ytpdfbkkhmfnnjaa
open Go.RowKit
theorem u8s_set (l : List Nat) (k c : Nat) : (u8s l).toArray.setIfInBounds k (.int .u8 (c : Int)) = (u8s (l.set k c)).toArray := by
  simp [u8s, List.map_set]
theorem u8s_get {l : List Nat} {k c : Nat} (h : l[k]? = some c) : (u8s l).toArray[k]? = some (.int .u8 (c : Int)) := by
  simp [u8s, h]
theorem made_u8s (n : Nat) : madeCells (Value.int .u8 0).cells (n * 1) = (u8s (List.replicate n 0)).toArray := by
  apply Array.ext'
  simp [madeCells, u8s, Value.cells]
  apply List.ext_getElem
  · simp
  · intro i h1 h2
    simp [Nat.mod_one]
theorem run_make_u8 {P : Program} (t e : TypeId) (i : TypeInfo) (ht : P.underlying t = some (.slice e)) (hi : P.info? e = some i) (hz : i.zero = some (.int .u8 0)) (hs : i.size = 1) (hb : i.bytes = 1)
    (n : Nat) (h : n ≤ 281474976710656) (w : World) :
    (Instr.makeSlice t (.int .i64 (n : Int)) (.int .i64 (n : Int))).run P w = .ok (.slice (some ⟨w.heap.size, 0, none⟩) n n) (w.alloc (.cells (u8s (List.replicate n 0)).toArray e)) := by
  have := run_make (P := P) w t e i _ ht hi hz .i64 .i64 (n : Int) (n : Int) (by omega) (by omega) (by rw [hb]; omega) (by omega)
  rw [this, hs, Int.toNat_natCast, made_u8s]
/-- A block of bytes of the call's own reads as its list. -/
theorem Blk.bytes {w : World} {g : Nat} {e : TypeId} {l : List Nat} (h : Blk w g e (u8s l).toArray) (hl : ∀ c ∈ l, c < 256) (hm : l.length ≤ maxLen) : Bytes w (some ⟨g, 0, none⟩) l.length l :=
  Bytes.of_block (fr := (0, 0)) h hl hm
end Go.Proofs.Ytpdfbkkhmfnnjaa
