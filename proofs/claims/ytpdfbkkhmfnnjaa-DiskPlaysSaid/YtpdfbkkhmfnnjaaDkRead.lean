/- disk.Read, Names. -/
import Derived.Test.YtpdfbkkhmfnnjaaDkNames
import Derived.WalkKit
import Derived.WalkSpells
import Derived.WalkLawsBesides
import Derived.Deep.RegionHeld3
import Derived.Deep.DrawnRows
import Derived.Deep.DeepCutAuto
import Derived.Deep.DeepFit
import Derived.Lib.Hide
import Derived.BigQuiet
import Derived.Deep.QuietTactic
import Derived.Deep.RegionHeld3
namespace Go.Proofs.Ytpdfbkkhmfnnjaa
open Go.RowKit
set_option linter.unusedVariables false
set_option linter.unusedSimpArgs false
set_option maxRecDepth 20000
attribute [local go_sem ↓] Go.wp_at_zero Go.wp_at_succ
attribute [local go_sem] World.cell?_alloc_some frozen_alloc_some
open Go.Maps Go.Sort Go.Shelf

theorem clone_any (v : Value) (l : List Nat) (w : World) (h : OwnW w v l) (hl : l.length ≤ 1073741824) : Calls Try.prog 82 #[v] w (fun e w' => ∃ v', e = .returned v' ∧ OwnB w' w.heap.size 5 v' l ∧ Below w.heap.size w w') := by
  obtain ⟨i0, hi, hz0, hz1, hz2⟩ := u8info
  rcases h.2 with ⟨rfl, rfl⟩ | ⟨g, cap, cur, rfl, hg, h1, h2, h3, h4⟩
  · have hc := AnyE.slices_Clone_nil Try.cloneB 0 0 w
    refine Calls.mono (show Calls Try.prog 82 _ _ _ from hc) fun e w' ⟨h1, h2⟩ => ?_
    subst h2
    exact ⟨_, h1, OwnB.nil_ _ _ _, Below.refl _ _⟩
  · have hcell : ∀ (j : Nat) (u : Value), (u8s l)[j]? = some u → w.cell? ⟨g, 0 + j, none⟩ = some u := fun j u hj => by
      have hc := h.cells j u hj
      have hadd : (⟨g, 0, none⟩ : Addr).add j = ⟨g, 0 + j, none⟩ := by unfold Addr.add; split <;> simp_all
      rw [hadd] at hc
      exact hc
    have hc := AnyE.slices_Clone Try.cloneB i0 _ 1 1 hi hz0 hz1 hz2 rfl (by decide) Try.sizeOf5 g 0 l.length cap (u8s l) w (by rw [u8s_length, Nat.mul_one]) (by unfold maxLen; omega) (by omega) hcell (u8s_one l)
    refine Calls.mono (show Calls Try.prog 82 _ _ _ from hc) fun e w' ⟨v', he, hown, _, hb⟩ => ?_
    exact ⟨v', he, ⟨hown, h.1⟩, hb⟩
/-- What is read of a disk: bytes of its own, an error's number. -/
def Reads (w : World) (r : Option (List Nat) × Int) (e : Ending) (w' : World) : Prop := ∃ v, e = .returned (.tuple #[v, .int .i64 r.2]) ∧ OwnB w' w.heap.size 5 v (r.1.getD []) ∧ Below w.heap.size w w'
set_option maxHeartbeats 2000000 in
theorem dkread_any (F : Nat → Prop) (g b : Nat) (d : DkT) (s : NmT) (w : World) (h : DiskAt w F g b d) (hs : wfN s) : Calls Try.prog 49 #[.pointer (some ⟨g, 0, none⟩), sV s] w (Reads w (readD d s)) := by
  have hle : totD d.l ≤ 1073741824 := by have h1 := h.2.tot; have h2 := h.2.room1; omega
  obtain ⟨⟨gs, hg, hgs⟩, ok⟩ := h
  have hfd : findBy Prod.fst s d.l = (findBy GF.nm s gs).map GF.d := by rw [← hgs]; exact findBy_map (fun _ => rfl) s gs
  obtain ⟨l, room, fuse, down⟩ := d
  simp only at hg hgs hfd hle
  have pc := hg.hd.cell
  cases down
  · have hlk := hg.mp.look_ok (s := s) hs
    rcases look_gs hg s with ⟨f, hf, hfn, hff, hev, hha⟩ | ⟨hff, hev, hha⟩
    · rw [hev, hha] at hlk
      rw [hff] at hfd
      have hby : f.by_.length ≤ 1073741824 := by
        have h1 : f.d ∈ l := by rw [← hgs]; exact List.mem_map.2 ⟨f, hf, rfl⟩
        have h2 := totD_upd (u := fun _ => ((s, [], 0) : DF)) (s := s) (by rw [← hgs]; exact List.pairwise_map.2 hg.asc) h1 hfn
        simp only [List.length_nil] at h2
        omega
      have hfa := hg.fl f hf
      have hcl := fun W (hb : Below w.heap.size w W) => clone_any f.v f.by_ W (hfa.2.1.same fun r hr => hb.block r (hfa.2.1.lt hr)) hby
      have ec := hfa.1.cell
      have e : readD ⟨l, room, fuse, false⟩ s = (some f.by_, 0) := by simp [readD, hfd]
      rw [e]
      have HR := Lib.hid (Below.refl w.heap.size w)
      obtain ⟨A1, c1, hv1, _, _⟩ := hfa.2.1.form
      rw [hv1] at hcl ec
      clear hfa hff hev hha hf hfd hgs hg ok e hv1
      go_enter Try.func49, Try.ntmps49
      go_wp2_with (go_at_call 82; (with_reducible refine (hcl _ HR.out).mono ?_); rintro e w1 ⟨v', rfl, hown, hb1⟩)
      go_ret2
      exact ⟨v', rfl, hown, hb1⟩
    · rw [hev, hha] at hlk
      rw [hff] at hfd
      have e : readD ⟨l, room, fuse, false⟩ s = (none, 8) := by simp [readD, hfd]
      rw [e]
      clear hff hev hha hfd hgs hg ok e
      go_enter Try.func49, Try.ntmps49
      go_wp2_with fail
      go_ret2
      exact ⟨_, rfl, OwnB.nil_ _ _ _, Below.refl _ _⟩
  · have e : readD ⟨l, room, fuse, true⟩ s = (none, 15) := by simp [readD]
    rw [e]
    clear hfd hgs hg ok e
    go_enter Try.func49, Try.ntmps49
    go_wp2_with fail
    go_ret2
    exact ⟨_, rfl, OwnB.nil_ _ _ _, Below.refl _ _⟩
theorem gs_nms {w : World} {F : Nat → Prop} {g b : Nat} {gs : List GF} {room fuse : Int} {down : Bool} (h : DiskG w F g b gs room fuse down) : (gs.map GF.nm).Pairwise (· < ·) ∧ ∀ s, s ∈ gs.map GF.nm ↔ hasF (gs.map GF.fl) s = true := by
  refine ⟨List.pairwise_map.2 h.asc, fun s => ?_⟩
  rw [hasF_iff]
  constructor
  · intro hs
    obtain ⟨f, hf, rfl⟩ := List.mem_map.1 hs
    exact ⟨f.fl, List.mem_map.2 ⟨f, hf, rfl⟩, rfl⟩
  · rintro ⟨t, ht, rfl⟩
    obtain ⟨f, hf, rfl⟩ := List.mem_map.1 ht
    exact List.mem_map.2 ⟨f, hf, rfl⟩
def namesD (d : DkT) : List NmT := if d.down = true then [] else d.l.map Prod.fst
/-- Names, sorted, in a row of the call's own. -/
def NamesAt (w : World) (base : Nat) (v : Value) (nms : List NmT) : Prop := w.ownsRow base 9 1 v nms.length (nms.map sV)
set_option maxHeartbeats 2000000 in
theorem dknames_any (F : Nat → Prop) (g b : Nat) (d : DkT) (w : World) (h : DiskAt w F g b d) : Calls Try.prog 62 #[.pointer (some ⟨g, 0, none⟩)] w (fun e w' => ∃ v, e = .returned v ∧ NamesAt w' w.heap.size v (namesD d) ∧ Below w.heap.size w w') := by
  obtain ⟨⟨gs, hg, hgs⟩, ok⟩ := h
  have hlen := ok.len
  obtain ⟨l, room, fuse, down⟩ := d
  simp only at hg hgs hlen
  have pc := hg.hd.cell
  have hl : gs.length = l.length := by rw [← hgs, List.length_map]
  obtain ⟨n1, n2⟩ := gs_nms hg
  have hN : gs.map GF.nm = l.map Prod.fst := by rw [← hgs, List.map_map]; rfl
  cases down
  · have hk := fun W => keys_any b W
    have hsr := sorted_any b (gs.map GF.fl) (gs.map GF.nm) w hg.mp (by rw [List.length_map]; omega) n1 n2
    have e : namesD ⟨l, room, fuse, false⟩ = gs.map GF.nm := by rw [hN]; rfl
    rw [e]
    generalize gs.map GF.nm = nms at *
    clear hN n1 n2 hgs hg ok e hl hlen
    go_enter Try.func62, Try.ntmps62
    go_wp2_with (first | (go_at_call 81; (with_reducible refine (hk _).mono ?_); rintro e w1 ⟨rfl, rfl⟩) | (go_at_call 80; (with_reducible refine hsr.mono ?_); rintro e w2 ⟨v, rfl, hrow, hb2⟩))
    go_ret
    exact ⟨v, rfl, hrow, hb2⟩
  · have e : namesD ⟨l, room, fuse, true⟩ = [] := rfl
    rw [e]
    clear hN n1 n2 hgs hg ok e
    go_enter Try.func62, Try.ntmps62
    go_wp2_with fail
    go_ret
    exact ⟨_, rfl, World.ownsRow_nil _ _ _ _, Below.refl _ _⟩
end Go.Proofs.Ytpdfbkkhmfnnjaa
