/- What is done with a disk, as it came in. -/
import Derived.Test.YtpdfbkkhmfnnjaaDkLS
import Derived.Deep.Matrix
import Derived.ProofKit
import Derived.OpenShut
import Derived.Lib.SmallJoins
namespace Go.Proofs.Ytpdfbkkhmfnnjaa
open Go.RowKit Go.ChangeShapes Go.WideShapes Go.Joins Go.Deep Go.ChangeAt
set_option linter.unusedVariables false
set_option maxRecDepth 20000
set_option linter.unusedSimpArgs false

/-- An act: what is done; two names; bytes; a number; numbers. -/
structure DA where
  d : Int
  a : NmT
  b : NmT
  pA : Option Addr
  pm : Nat
  pc : Nat
  p : List Nat
  n : Int
  kA : Option Addr
  km : Nat
  kc : Nat
  ks : List Int
instance : Inhabited DA := ⟨⟨0, [], [], none, 0, 0, [], 0, none, 0, 0, []⟩⟩
structure DOk (w : World) (x : DA) : Prop where
  d : (Lit.int .i64 x.d).wf = true
  a : wfN x.a
  b : wfN x.b
  p : Bytes w x.pA x.pm x.p
  pc : x.pm ≤ x.pc
  n : (Lit.int .i64 x.n).wf = true
  k : KeepsAt w x.kA x.km x.ks
  kc : x.km ≤ x.kc
theorem DOk.keep {w w' : World} {x : DA} (h : DOk w x) (hb : Below w.heap.size w w') : DOk w' x := ⟨h.d, h.a, h.b, h.p.keep hb, h.pc, h.n, h.k.keep hb, h.kc⟩
def DActsAt (w : World) (A : Option Addr) (m : Nat) (l : List DA) : Prop :=
  m = l.length ∧ m ≤ maxLen ∧ ∀ (i : Nat) (x : DA), l[i]? = some x → DOk w x ∧
    ∃ b o, A = some ⟨b, o, none⟩ ∧ w.cell? ⟨b, o + i * 6, none⟩ = some (.int .i64 x.d) ∧ w.cell? ⟨b, o + i * 6 + 1, none⟩ = some (sV x.a) ∧ w.cell? ⟨b, o + i * 6 + 2, none⟩ = some (sV x.b) ∧
      w.cell? ⟨b, o + i * 6 + 3, none⟩ = some (.slice x.pA x.pm x.pc) ∧ w.cell? ⟨b, o + i * 6 + 4, none⟩ = some (.int .i64 x.n) ∧ w.cell? ⟨b, o + i * 6 + 5, none⟩ = some (.slice x.kA x.km x.kc)
theorem DActsAt.keep {w w' : World} {A : Option Addr} {m : Nat} {l : List DA} (h : DActsAt w A m l) (hb : Below w.heap.size w w') : DActsAt w' A m l :=
  ⟨h.1, h.2.1, fun i x hi => by
    obtain ⟨w1, b, o, e, h1, h2, h3, h4, h5, h6⟩ := h.2.2 i x hi
    exact ⟨w1.keep hb, b, o, e, cell_keep hb h1, cell_keep hb h2, cell_keep hb h3, cell_keep hb h4, cell_keep hb h5, cell_keep hb h6⟩⟩
theorem DActsAt.nil {w : World} {A : Option Addr} : DActsAt w A 0 [] := ⟨rfl, Nat.zero_le _, fun i x h => by simp at h⟩
theorem DActsAt.at_ {w : World} {A : Option Addr} {m : Nat} {l : List DA} (h : DActsAt w A m l) {i : Nat} (hi : i < m) :
    ∃ x b o, l[i]? = some x ∧ DOk w x ∧ A = some ⟨b, o, none⟩ ∧ w.cell? ⟨b, o + i * 6, none⟩ = some (.int .i64 x.d) ∧ w.cell? ⟨b, o + i * 6 + 1, none⟩ = some (sV x.a) ∧ w.cell? ⟨b, o + i * 6 + 2, none⟩ = some (sV x.b) ∧
      w.cell? ⟨b, o + i * 6 + 3, none⟩ = some (.slice x.pA x.pm x.pc) ∧ w.cell? ⟨b, o + i * 6 + 4, none⟩ = some (.int .i64 x.n) ∧ w.cell? ⟨b, o + i * 6 + 5, none⟩ = some (.slice x.kA x.km x.kc) := by
  have hl : i < l.length := by rw [← h.1]; exact hi
  obtain ⟨ok, b, o, e, h1⟩ := h.2.2 i l[i] (List.getElem?_eq_getElem hl)
  exact ⟨_, b, o, List.getElem?_eq_getElem hl, ok, e, h1⟩

section
variable {H : Type} {enc : TypeId × Value → H} {w : World} {base : Nat} {spare : Nat → Bool} {held : Bool}
theorem spot_none {w : World} {A : Addr} {v : Value} (h : w.cell? (A.add 0) = some v) : ∃ b o, A = ⟨b, o, none⟩ := by
  have := World.cell?_spot h
  rcases A with ⟨b, o, sp⟩
  exact ⟨b, o, by simpa [Addr.add] using this⟩
theorem open_u8s {fuel : Nat} {cs : List Value} {x : DataW H × List MemPlace} (h : DataW.trod enc Try.prog w base spare held fuel 60 cs = some x) : ∃ A m c p, cs = [.slice A m c] ∧ m ≤ c ∧ Bytes w A m p := by
  rcases open_ints Try.underlying60 Try.underlying5 (by kernel_rfl) h with ⟨e, _⟩ | ⟨a, l, c, zs, e, _, hl, hm, hz, _, hcell, hwz⟩
  · exact ⟨none, 0, 0, [], e, Nat.le_refl _, rfl, Nat.zero_le _, fun i c hi => by simp at hi⟩
  · exact ⟨some a, l, c, _, e, hl, Bytes.of_ints (ints_row (by omega) (by split at hz <;> omega) hcell hwz)⟩
theorem open_keeps {fuel : Nat} {cs : List Value} {x : DataW H × List MemPlace} (h : DataW.trod enc Try.prog w base spare held fuel 63 cs = some x) : ∃ A m c ks, cs = [.slice A m c] ∧ m ≤ c ∧ KeepsAt w A m ks := by
  rcases open_ints Try.underlying63 Try.underlying3 (by kernel_rfl) h with ⟨e, _⟩ | ⟨a, l, c, zs, e, _, hl, hm, hz, _, hcell, hwz⟩
  · exact ⟨none, 0, 0, [], e, Nat.le_refl _, rfl, Nat.zero_le _, fun i c hi => by simp at hi⟩
  · have hlz : l ≤ zs.length := by split at hz <;> omega
    refine ⟨some a, l, c, zs.take l, e, hl, by rw [List.length_take]; omega, by omega, fun i k hi => ?_⟩
    rw [List.getElem?_take] at hi
    split at hi
    · next hlt =>
      have hc := hcell i (by omega)
      have hg : zs.getD i 0 = k := by rw [List.getD_eq_getElem?_getD, hi]; rfl
      rw [hg] at hc
      obtain ⟨b, o, rfl⟩ := spot_none (hcell 0 (by omega))
      have hadd : (⟨b, o, none⟩ : Addr).add i = ⟨b, o + i, none⟩ := by unfold Addr.add; split <;> simp_all
      rw [hadd] at hc
      exact ⟨hwz k (List.mem_of_getElem? hi), b, o, rfl, hc⟩
    · cases hi
theorem list6 {α : Type} {l : List α} (h : l.length = 6) : ∃ c0 c1 c2 c3 c4 c5, l = [c0, c1, c2, c3, c4, c5] := by
  match l, h with
  | [c0, c1, c2, c3, c4, c5], _ => exact ⟨c0, c1, c2, c3, c4, c5, rfl⟩
theorem open_dact {fuel : Nat} {cs : List Value} {x : DataW H × List MemPlace} (h : DataW.trod enc Try.prog w base spare held fuel 65 cs = some x) :
    ∃ y : DA, cs = [.int .i64 y.d, sV y.a, sV y.b, .slice y.pA y.pm y.pc, .int .i64 y.n, .slice y.kA y.km y.kc] ∧ DOk w y := by
  obtain ⟨xs, n, _, _, hl, hlen, hf⟩ := DataW.trod_struct Try.underlying65 h
  have hC : Try.prog.cellsOf 65 = 6 := by kernel_rfl
  have h1 : Try.prog.cellsOf 3 = 1 := by kernel_rfl
  have h2 : Try.prog.cellsOf 9 = 1 := by kernel_rfl
  have h3 : Try.prog.cellsOf 60 = 1 := by kernel_rfl
  have h4 : Try.prog.cellsOf 63 = 1 := by kernel_rfl
  obtain ⟨c0, c1, c2, c3, c4, c5, rfl⟩ := list6 (hl.trans hC)
  match xs, hlen with
  | [y0, y1, y2, y3, y4, y5], _ =>
    have g0 : DataW.trod enc Try.prog w base spare held n 3 [c0] = some y0 := by simpa [h1, h2, h3, h4] using hf 0 _ rfl
    have g1 : DataW.trod enc Try.prog w base spare held n 9 [c1] = some y1 := by simpa [h1, h2, h3, h4] using hf 1 _ rfl
    have g2 : DataW.trod enc Try.prog w base spare held n 9 [c2] = some y2 := by simpa [h1, h2, h3, h4] using hf 2 _ rfl
    have g3 : DataW.trod enc Try.prog w base spare held n 60 [c3] = some y3 := by simpa [h1, h2, h3, h4] using hf 3 _ rfl
    have g4 : DataW.trod enc Try.prog w base spare held n 3 [c4] = some y4 := by simpa [h1, h2, h3, h4] using hf 4 _ rfl
    have g5 : DataW.trod enc Try.prog w base spare held n 63 [c5] = some y5 := by simpa [h1, h2, h3, h4] using hf 5 _ rfl
    obtain ⟨d, e0, _, wd⟩ := DataW.trod_int Try.underlying3 g0
    obtain ⟨a, e1, _, wa⟩ := DataW.trod_string Try.underlying9 g1
    obtain ⟨b, e2, _, wb⟩ := DataW.trod_string Try.underlying9 g2
    obtain ⟨pA, pm, pc, p, e3, hpc, hp⟩ := open_u8s g3
    obtain ⟨nn, e4, _, wn⟩ := DataW.trod_int Try.underlying3 g4
    obtain ⟨kA, km, kc, ks, e5, hkc, hk⟩ := open_keeps g5
    simp at e0 e1 e2 e3 e4 e5
    subst e0 e1 e2 e3 e4 e5
    obtain ⟨⟨al⟩⟩ := a
    obtain ⟨⟨bl⟩⟩ := b
    exact ⟨⟨d, al, bl, pA, pm, pc, p, nn, kA, km, kc, ks⟩, rfl, ⟨wd, wa, wb, hp, hpc, wn, hk, hkc⟩⟩
theorem open_dacts {fuel : Nat} {cs : List Value} {x : DataW H × List MemPlace} (h : DataW.trod enc Try.prog w base spare held fuel 54 cs = some x) :
    ∃ (A : Option Addr) (m c : Nat) (l : List DA), cs = [.slice A m c] ∧ m ≤ c ∧ c ≤ maxLen ∧ DActsAt w A m l := by
  rcases DataW.trod_slice Try.underlying54 h with ⟨e3, _⟩ | ⟨A, len, cap, elems, rest, q, hq, e3, _, hbA, hle, hcap, hel, helem, _, _⟩
  · exact ⟨none, 0, 0, [], e3, Nat.le_refl _, Nat.zero_le _, DActsAt.nil⟩
  · have hC : Try.prog.cellsOf 65 = 6 := by kernel_rfl
    have hspot : 0 < len → ∃ b o, A = ⟨b, o, none⟩ := fun h => by
      have key := helem 0 h
      rw [List.getElem?_eq_getElem (by omega), hC] at key
      obtain ⟨cs', h1', h2'⟩ := Option.bind_eq_some_iff.1 key
      obtain ⟨y, rfl, ok⟩ := open_dact h2'
      obtain ⟨_, hlc, hcell⟩ := World.cells?_some h1'
      have c0 := hcell 0 (by omega)
      rw [add_of_add] at c0
      exact spot_none (by simpa using c0)
    have hex : ∀ i, i < len → ∃ x : DA, DOk w x ∧ ∃ b o, A = ⟨b, o, none⟩ ∧ w.cell? ⟨b, o + i * 6, none⟩ = some (.int .i64 x.d) ∧ w.cell? ⟨b, o + i * 6 + 1, none⟩ = some (sV x.a) ∧ w.cell? ⟨b, o + i * 6 + 2, none⟩ = some (sV x.b) ∧
        w.cell? ⟨b, o + i * 6 + 3, none⟩ = some (.slice x.pA x.pm x.pc) ∧ w.cell? ⟨b, o + i * 6 + 4, none⟩ = some (.int .i64 x.n) ∧ w.cell? ⟨b, o + i * 6 + 5, none⟩ = some (.slice x.kA x.km x.kc) := by
      intro i hi
      have key := helem i hi
      rw [List.getElem?_eq_getElem (by omega), hC] at key
      obtain ⟨cs', h1', h2'⟩ := Option.bind_eq_some_iff.1 key
      obtain ⟨y, rfl, ok⟩ := open_dact h2'
      obtain ⟨_, hlc, hcell⟩ := World.cells?_some h1'
      have c0 := hcell 0 (by omega)
      have c1 := hcell 1 (by omega)
      have c2 := hcell 2 (by omega)
      have c3 := hcell 3 (by omega)
      have c4 := hcell 4 (by omega)
      have c5 := hcell 5 (by omega)
      rw [add_of_add] at c0 c1 c2 c3 c4 c5
      obtain ⟨b, o, rfl⟩ := hspot (by omega)
      have e : ∀ k, (Addr.mk b o none).add k = ⟨b, o + k, none⟩ := fun k => by
        unfold Addr.add
        split
        · simp_all
        · rfl
      rw [e] at c0 c1 c2 c3 c4 c5
      exact ⟨y, ok, b, o, rfl, c0, c1, c2, c3, c4, c5⟩
    obtain ⟨F, hF⟩ := choose_lt hex
    refine ⟨some A, len, cap, (List.range len).map F, e3, hle, hcap, by simp, by omega, fun i x hi => ?_⟩
    simp only [List.getElem?_map, Option.map_eq_some_iff] at hi
    obtain ⟨r, hr, rfl⟩ := hi
    obtain ⟨hlt, hv⟩ := List.getElem?_eq_some_iff.1 hr
    simp at hlt hv
    subst hv
    obtain ⟨w1, b, o, e, h1⟩ := hF i hlt
    exact ⟨w1, b, o, by rw [e], h1⟩
end
end Go.Proofs.Ytpdfbkkhmfnnjaa
