/- The conversion of a text to bytes: what lies behind it. -/
import Derived.Test.YtfdfcceleaodaaaDoorAppC
import Derived.Test.YtfdfcceleaodaaaDoorTree
import Derived.Lib.ConvBytes
namespace Go.Proofs.YtfdfcceleaodaaaDoor
open Go.RowKit
set_option linter.unusedVariables false
set_option linter.unusedSimpArgs false
theorem text_below (w : World) (e : TypeId) (s : ByteArray) : Below w.heap.size w (Lib.bytesWorld w e s) :=
  ⟨rfl, rfl, rfl, by rw [Lib.bytesWorld_size]; omega, fun j hj => Lib.bytesWorld_at_old w e s j hj⟩
theorem text_bytes (w : World) (e : TypeId) (s : ByteArray) (hs : s.size ≤ maxLen) : Bytes (Lib.bytesWorld w e s) (some ⟨w.heap.size, 0, none⟩) s.size (txt s) :=
  ⟨(txt_length s).symm, hs, fun i c hi => ⟨txt_lt s c (List.mem_of_getElem? hi), _, rfl, by
    have hl : i < s.size := by
      rw [← txt_length s]
      rcases Nat.lt_or_ge i (txt s).length with h | h
      · exact h
      · rw [List.getElem?_eq_none h] at hi; cases hi
    have hadd : (⟨w.heap.size, 0, none⟩ : Addr).add i = ⟨w.heap.size, i, none⟩ := by unfold Addr.add; split <;> simp_all
    rw [hadd, Lib.bytesWorld_cell w e s i hl]
    have hg : s.data.toList[i]? = some (s.data.toList[i]'(by rw [Array.length_toList]; exact hl)) := List.getElem?_eq_getElem _
    simp only [txt, List.getElem?_map, hg, Option.map_some, Option.some.injEq] at hi
    simp only [List.getD, hg, Option.getD_some]
    rw [hi]⟩⟩
end Go.Proofs.YtfdfcceleaodaaaDoor
