/- disk.Boot. -/
import Derived.Test.YtpdfbkkhmfnnjaaDkRead
import Derived.WalkKit
import Derived.WalkSpells
import Derived.WalkLawsBesides
import Derived.Deep.RegionHeld3
import Derived.Deep.DrawnRows
import Derived.Deep.DeepCutAuto
import Derived.Deep.DeepFit
import Derived.Lib.Hide
import Derived.BigQuiet
import Derived.Deep.QuietTactic
import Derived.Deep.RegionHeld3
namespace Go.Proofs.Ytpdfbkkhmfnnjaa
open Go.RowKit
set_option linter.unusedVariables false
set_option linter.unusedSimpArgs false
set_option maxRecDepth 20000
attribute [local go_sem ↓] Go.wp_at_zero Go.wp_at_succ
attribute [local go_sem] World.cell?_alloc_some frozen_alloc_some
open Go.Maps Go.Sort Go.Shelf

/-- A slice of ints, as it lies. -/
def KeepsAt (w : World) (A : Option Addr) (m : Nat) (ks : List Int) : Prop := m = ks.length ∧ m ≤ maxLen ∧ ∀ (i : Nat) (k : Int), ks[i]? = some k → (Lit.int .i64 k).wf = true ∧ ∃ b o, A = some ⟨b, o, none⟩ ∧ w.cell? ⟨b, o + i, none⟩ = some (.int .i64 k)
theorem KeepsAt.turn {w w' : World} {F : Nat → Prop} {A : Option Addr} {m : Nat} {ks : List Int} (h : KeepsAt w A m ks) (k : Turn F w w') (hF : ∀ ad, A = some ad → 0 < m → ¬ F ad.block) : KeepsAt w' A m ks :=
  ⟨h.1, h.2.1, fun i x hi => by
    obtain ⟨h1, b, o, e, h2⟩ := h.2.2 i x hi
    have hm : 0 < m := by have h3 := (List.getElem?_eq_some_iff.1 hi).1; have := h.1; omega
    exact ⟨h1, b, o, e, k.cell h2 (hF ⟨b, o, none⟩ e hm)⟩⟩
theorem KeepsAt.keep {w w' : World} {A : Option Addr} {m : Nat} {ks : List Int} (h : KeepsAt w A m ks) (k : Below w.heap.size w w') : KeepsAt w' A m ks :=
  h.turn (F := fun _ => False) (Turn.of_below k) (fun _ _ _ h => h)
theorem KeepsAt.tail {w : World} {A : Option Addr} {m c : Nat} {k : Int} {ks : List Int} (h : KeepsAt w A m (k :: ks)) (hc : m ≤ c) : KeepsAt w (if c = 1 then A else A.map (·.add 1)) (m - 1) ks := by
  refine ⟨by have := h.1; simp at this; omega, by have := h.2.1; omega, fun i x hi => ?_⟩
  obtain ⟨h1, b, o, rfl, h2⟩ := h.2.2 (i + 1) x (by simpa using hi)
  have hm : 1 < m := by
    have h3 := h.1
    have h4 := (List.getElem?_eq_some_iff.1 hi).1
    simp at h3
    omega
  rw [if_neg (by omega)]
  refine ⟨h1, b, o + 1, ?_, by rw [show o + 1 + i = o + (i + 1) by omega]; exact h2⟩
  simp [Addr.add]
/-- The loop of Boot under way: i files are done. -/
structure BootS (w W : World) (F : Nat → Prop) (g b : Nat) (room fuse : Int) (down : Bool) (l : List DF) (ks : List Int) (i : Nat) (gs : List GF) (A : Option Addr) (m : Nat) (ks' : List Int) (vN : Value) : Prop where
  D : DiskG W F g b gs room fuse down
  e : gs.map GF.d = (bootGo (l.take i) ks).1 ++ l.drop i
  k : ks' = (bootGo (l.take i) ks).2
  ka : KeepsAt W A m ks'
  kF : ∀ ad, A = some ad → 0 < m → ¬ F ad.block
  nm : NamesAt W w.heap.size vN (l.map Prod.fst)
  kt : Turn F w W
  bw : ∀ k, F k → k < w.heap.size
theorem BootS.drew {w W : World} {F : Nat → Prop} {g b : Nat} {room fuse : Int} {down : Bool} {l : List DF} {ks : List Int} {i : Nat} {gs : List GF} {A : Option Addr} {m : Nat} {ks' : List Int} {vN : Value} (h : BootS w W F g b room fuse down l ks i gs A m ks' vN) :
    BootS w W.drew F g b room fuse down l ks i gs A m ks' vN :=
  ⟨h.D.keep (Below.refl _ _).drew, h.e, h.k, h.ka.keep (Below.refl _ _).drew, h.kF, h.nm, h.kt.trans (Turn.of_below (F := F) (Below.refl _ _).drew) (fun i hi => .inl hi), h.bw⟩
theorem names_turn {W W' : World} {F : Nat → Prop} {base : Nat} {v : Value} {nms : List NmT} (h : NamesAt W base v nms) (k : Turn F W W') (hF : ∀ k, F k → k < base) : NamesAt W' base v nms := by
  refine ⟨h.1, ?_⟩
  rcases h.2 with h0 | ⟨g, cap, cur, e, h1, h2, h3⟩
  · exact .inl h0
  · exact .inr ⟨g, cap, cur, e, h1, (k.block g (Array.getElem?_eq_some_iff.1 h2).1 (fun e => by have := hF g e; omega)).trans h2, h3⟩
theorem names_form {w : World} {base n : Nat} {v : Value} {nms : List NmT} (h : w.ownsRow base 9 1 v nms.length (nms.map sV)) (hn : nms.length = n) : ∃ A c, v = .slice A n c ∧ n ≤ c := by
  subst hn
  rcases h.2 with ⟨rfl, e⟩ | ⟨g, cap, cur, rfl, _, _, h1, _⟩
  · exact ⟨none, 0, by rw [e], by omega⟩
  · exact ⟨_, _, rfl, h1⟩
theorem names_cell {w : World} {base : Nat} {A : Option Addr} {n c : Nat} {nms : List NmT} (h : NamesAt w base (.slice A n c) nms) {i : Nat} (hi : i < nms.length) : ∃ g, A = some ⟨g, 0, none⟩ ∧ w.cell? ⟨g, i, none⟩ = some (sV nms[i]) := by
  rcases h.2 with ⟨e, hl⟩ | ⟨g, cap, cur, e, _⟩
  · omega
  · injection e with e1 e2 e3
    subst e1 e2 e3
    refine ⟨g, rfl, ?_⟩
    have hc := World.ownsRow.cells h (g := g) rfl i (sV nms[i]) (by simp [hi])
    have hadd : (⟨g, 0, none⟩ : Addr).add i = ⟨g, i, none⟩ := by unfold Addr.add; split <;> simp_all
    rw [hadd] at hc
    exact hc
theorem boot_at {gs : List GF} {P l : List DF} {i : Nat} (h : gs.map GF.d = P ++ l.drop i) (hP : P.length = i) (hi : i < l.length) : ∃ f ∈ gs, f.d = l[i] := by
  have h1 : (gs.map GF.d)[i]? = some l[i] := by
    rw [h, List.getElem?_append_right (by omega), hP, Nat.sub_self, List.getElem?_drop, Nat.add_zero, List.getElem?_eq_getElem hi]
  rw [List.getElem?_map] at h1
  obtain ⟨f, hf, e⟩ := Option.map_eq_some_iff.1 h1
  exact ⟨f, List.mem_of_getElem? hf, e⟩
/-- A file is done. -/
theorem boot_step {gs : List GF} {l : List DF} {ks : List Int} {i : Nat} (ha : AscBy GF.nm gs) (h : gs.map GF.d = (bootGo (l.take i) ks).1 ++ l.drop i) (hi : i < l.length) {f f' : GF} (hf : f ∈ gs) (hfd : f.d = l[i]) (hf' : f'.d = (bootF l[i] (bootGo (l.take i) ks).2).1) :
    (updBy GF.nm f.nm (fun _ => f') gs).map GF.d = (bootGo (l.take (i + 1)) ks).1 ++ l.drop (i + 1) ∧ (bootGo (l.take (i + 1)) ks).2 = (bootF l[i] (bootGo (l.take i) ks).2).2 := by
  have ht : l.take (i + 1) = l.take i ++ [l[i]] := by rw [List.take_add_one, List.getElem?_eq_getElem hi]; rfl
  rw [ht, bootGo_snoc]
  refine ⟨?_, rfl⟩
  rw [updBy_map (nm' := Prod.fst) (d := GF.d) (fun _ => rfl) f.nm (u' := fun _ => f'.d) (fun _ _ _ => rfl), h, List.drop_eq_getElem_cons hi]
  have hn : f.nm = (l[i]).1 := by rw [← hfd]
  rw [hn]
  have ha2 : AscBy Prod.fst ((bootGo (l.take i) ks).1 ++ l[i] :: l.drop (i + 1)) := by
    rw [← List.drop_eq_getElem_cons hi, ← h]
    exact List.pairwise_map.2 ha
  rw [upd_mid ha2, hf', List.append_assoc]
  rfl
theorem boot_cut {f : GF} {k0 : Int} {kt : List Int} {tl tn : Nat} (h : f.by_.length = f.su + tl) (h0 : 0 < tl) (hn : (min (max k0 0) (tl : Int)).toNat = tn) : bootF f.d (k0 :: kt) = ((f.nm, f.by_.take (f.su + tn), f.su + tn), kt) := by
  have h1 : f.by_.length - f.su = tl := by omega
  unfold bootF
  simp only [GF.d]
  rw [if_pos (by omega), h1, hn]
theorem boot_all {f : GF} {ks : List Int} {tl : Nat} (h : f.by_.length = f.su + tl) (h0 : tl = 0 ∨ ks = []) : bootF f.d ks = ((f.nm, f.by_, f.by_.length), ks) := by
  unfold bootF
  simp only [GF.d]
  split
  · rcases h0 with h0 | h0
    · omega
    · subst h0; rfl
  · rfl
theorem boot_round {w we : World} {F : Nat → Prop} {g b : Nat} {room fuse : Int} {down : Bool} {l : List DF} {ks : List Int} {i : Nat} {gs : List GF} {ab ao m : Nat} {k0 : Int} {kt : List Int} {vN : Value} (B : BootS w we F g b room fuse down l ks i gs (some ⟨ab, ao, none⟩) m (k0 :: kt) vN)
    {f : GF} (hf : f ∈ gs) {hlt : i < l.length} (hfd : f.d = l[i]) {A1 : Option Addr} {c1 n1 tl tn : Nat} (hv : f.v = .slice A1 f.by_.length c1) (hT : f.by_.length = f.su + tl) (h0 : 0 < tl) (htn : (min (max k0 0) (tl : Int)).toNat = tn) (hn : n1 = f.su + tn ∧ n1 ≤ f.by_.length) (hc1 : f.by_.length ≤ c1) :
    ∀ (c : Nat) (A2 : Option Addr), m ≤ c → (if c = 1 then some (⟨ab, ao, none⟩ : Addr) else some ⟨ab, ao + 1, none⟩) = A2 →
      BootS w ((we.setCell ⟨f.e, 0, none⟩ (.slice A1 n1 c1)).setCell ⟨f.e, 1, none⟩ (.int .i64 (n1 : Int))) F g b room fuse down l ks (i + 1) (updBy GF.nm f.nm (fun _ => { f with by_ := f.by_.take n1, v := .slice A1 n1 c1, su := n1 }) gs) A2 (m - 1) kt vN := by
  intro c A2 hc hA2
  obtain ⟨g1, g2⟩ := cut_file B.D hf hv hn.2 (Nat.le_trans hn.2 hc1) (Nat.le_refl c1)
  have hf2 : { f with by_ := f.by_.take n1, v := .slice A1 n1 c1 } ∈ updBy GF.nm f.nm (fun _ => { f with by_ := f.by_.take n1, v := .slice A1 n1 c1 }) gs := by
    unfold updBy
    exact List.mem_map.2 ⟨f, hf, by simp⟩
  obtain ⟨g3, g4⟩ := sure_file g1 hf2 n1
  have hT2 := g2.trans g4 (fun i hi => .inl hi)
  simp only at g3
  rw [updBy_upd (nm := GF.nm) (u := fun _ => { f with by_ := f.by_.take n1, v := .slice A1 n1 c1 }) (u' := fun _ => { f with by_ := f.by_.take n1, v := .slice A1 n1 c1, su := n1 }) (fun x hx e => rfl)] at g3
  obtain ⟨s1, s2⟩ := boot_step B.D.asc B.e hlt hf hfd (f' := { f with by_ := f.by_.take n1, v := .slice A1 n1 c1, su := n1 }) (by rw [← B.k, ← hfd, boot_cut hT h0 htn, ← hn.1])
  have hk : KeepsAt _ _ _ _ := (B.ka.turn hT2 B.kF).tail hc
  have hA3 : (if c = 1 then some (⟨ab, ao, none⟩ : Addr) else (some (⟨ab, ao, none⟩ : Addr)).map (·.add 1)) = A2 := by
    rw [← hA2]
    simp [Addr.add]
  rw [hA3] at hk
  refine ⟨g3, s1, by rw [s2, ← B.k, ← hfd, boot_cut hT h0 htn], hk, fun ad e hm => ?_, names_turn B.nm hT2 B.bw, B.kt.trans hT2 (fun i hi => .inl hi), B.bw⟩
  have h1 := B.kF _ rfl (by omega)
  simp only at h1
  rw [← hA2] at e
  split at e <;> (injection e with e; subst e; exact h1)
theorem boot_round2 {w we : World} {F : Nat → Prop} {g b : Nat} {room fuse : Int} {down : Bool} {l : List DF} {ks : List Int} {i : Nat} {gs : List GF} {A : Option Addr} {m : Nat} {ks' : List Int} {vN : Value} (B : BootS w we F g b room fuse down l ks i gs A m ks' vN)
    {f : GF} (hf : f ∈ gs) {hlt : i < l.length} (hfd : f.d = l[i]) {tl : Nat} (hT : f.by_.length = f.su + tl) (h0 : tl = 0 ∨ ks' = []) :
    BootS w (we.setCell ⟨f.e, 1, none⟩ (.int .i64 (f.by_.length : Int))) F g b room fuse down l ks (i + 1) (updBy GF.nm f.nm (fun _ => { f with su := f.by_.length }) gs) A m ks' vN := by
  obtain ⟨g3, g4⟩ := sure_file B.D hf f.by_.length
  obtain ⟨s1, s2⟩ := boot_step B.D.asc B.e hlt hf hfd (f' := { f with su := f.by_.length }) (by rw [← B.k, ← hfd, boot_all hT h0])
  exact ⟨g3, s1, by rw [s2, ← B.k, ← hfd, boot_all hT h0], B.ka.turn g4 B.kF, B.kF, names_turn B.nm g4 B.bw, B.kt.trans g4 (fun i hi => .inl hi), B.bw⟩
set_option maxHeartbeats 8000000 in
theorem dkboot_any (F : Nat → Prop) (g b : Nat) (d : DkT) (A : Option Addr) (m c : Nat) (ks : List Int) (w : World) (h : DiskAt w F g b d) (hk : KeepsAt w A m ks) (hc : m ≤ c) (hkF : ∀ ad, A = some ad → 0 < m → ¬ F ad.block) :
    Calls Try.prog 48 #[.pointer (some ⟨g, 0, none⟩), .slice A m c] w (Deeds w F g b (.tuple #[]) (bootD d ks)) := by
  have hok := bootD_ok h.2 ks
  have hlen := h.2.len
  have hsure := h.2.sure
  have hasc := h.2.asc
  have hle : totD d.l ≤ 1073741824 := by have h1 := h.2.tot; have h2 := h.2.room1; omega
  have hnms := h.2.nms
  have hbw := h.lt
  obtain ⟨⟨gs, hg, hgs⟩, ok⟩ := h
  obtain ⟨l, room, fuse, down⟩ := d
  simp only at hg hgs hlen hsure hasc hle hnms
  obtain ⟨n1, n2⟩ := gs_nms hg
  have hN : gs.map GF.nm = l.map Prod.fst := by rw [← hgs, List.map_map]; rfl
  have hl : gs.length = l.length := by rw [← hgs, List.length_map]
  have hkk := fun W => keys_any b W
  have hsr := sorted_any b (gs.map GF.fl) (gs.map GF.nm) w hg.mp (by rw [List.length_map]; omega) n1 n2
  rw [hN] at hsr
  have pc := hg.hd.cell
  have Hok := Lib.hid hok
  have HS := Lib.hid (show (∀ f ∈ l, f.2.2 ≤ f.2.1.length) ∧ AscBy Prod.fst l ∧ totD l ≤ 1073741824 ∧ ∀ f ∈ l, f.1.length ≤ 16 from ⟨hsure, hasc, hle, hnms⟩)
  have HKK := Lib.hid (show KeepsAt w A m ks ∧ (∀ ad, A = some ad → 0 < m → ¬ F ad.block) from ⟨hk, hkF⟩)
  have HG := Lib.hid (show DiskG w F g b gs room fuse down ∧ gs.map GF.d = l ∧ (∀ k, F k → k < w.heap.size) from ⟨hg, hgs, hbw⟩)
  clear hok hsure hasc hle hnms hg hgs ok hk hkF n1 n2 hN hl hbw
  have hl100 : l.length ≤ 100 := by omega
  go_enter Try.func48, Try.ntmps48
  go_wp2_with (first | (go_at_call 81; (with_reducible refine (hkk _).mono ?_); rintro e w1 ⟨rfl, rfl⟩) | (go_at_call 80; (with_reducible refine hsr.mono ?_); rintro e w2 ⟨v, rfl, hrow, hb2⟩; obtain ⟨vA, vc, rfl, hvc⟩ := names_form hrow (List.length_map _); clear hsr hkk pc))
  go_loopw [1, 15] (fun s1 s15 wr => ∃ (i : Nat) (A' : Option Addr) (m' c' : Nat) (ks' : List Int) (gs' : List GF), i ≤ l.length ∧ s15 = .int .i64 i ∧ s1 = .slice A' m' c' ∧ m' ≤ c' ∧ BootS w wr F g b room fuse down l ks i gs' A' m' ks' (.slice vA l.length vc)) (fun _ s15 _ => l.length - (intOf s15).toNat)
  case atStart => exact ⟨0, A, m, c, ks, gs, Nat.zero_le _, rfl, rfl, hc, ⟨HG.out.1.keep hb2, by simpa [bootGo] using HG.out.2.1, rfl, HKK.out.1.keep hb2, HKK.out.2, hrow, Turn.of_below hb2, HG.out.2.2⟩⟩
  case round =>
    clear hrow hb2 HG HKK hvc
    obtain ⟨i, A', m', c', ks', gs', hi, rfl, rfl, hmc, B⟩ := hrel
    by_cases hlt : i < l.length
    · have i0 : (0 : Int) ≤ (i : Int) := by omega
      have i1 : (i : Int) < (l.length : Int) := by omega
      obtain ⟨f, hf, hfd⟩ := boot_at B.e (by rw [bootGo_length, List.length_take]; omega) hlt
      obtain ⟨gn, hvA, nc⟩ := names_cell B.nm (i := i) (by rw [List.length_map]; exact hlt)
      have hin : (l.map Prod.fst)[i]'(by rw [List.length_map]; exact hlt) = f.nm := by rw [List.getElem_map, ← hfd]
      rw [hin] at nc
      subst hvA
      have hsu : f.su ≤ f.by_.length := by have := HS.out.1 l[i] (List.getElem_mem hlt); rw [← hfd] at this; exact this
      have hby : f.by_.length ≤ 1073741824 := by
        have h2 := totD_upd (u := fun _ => ((f.nm, [], 0) : DF)) (s := f.nm) HS.out.2.1 (List.getElem_mem hlt) (by rw [← hfd])
        simp only [← hfd, List.length_nil, GF.d] at h2
        have := HS.out.2.2.1
        omega
      have hlk := B.D.mp.look (s := f.nm) (show f.nm.length ≤ maxLen by have := HS.out.2.2.2 l[i] (List.getElem_mem hlt); rw [← hfd] at this; simp only [GF.d] at this; unfold maxLen; omega)
      rw [show entV (gs'.map GF.fl) f.nm = eV f.e from entV_hit B.D.mp.nms (List.mem_map.2 ⟨f, hf, rfl⟩)] at hlk
      have hpc := B.D.hd.cell
      have HI := Lib.hid (show f ∈ gs' ∧ f.d = l[i] from ⟨hf, hfd⟩)
      obtain ⟨tl, htl⟩ : ∃ tl, f.by_.length = f.su + tl := ⟨f.by_.length - f.su, by omega⟩
      have hsub : IntKind.i64.wrap ((f.by_.length : Int) - (f.su : Int)) = (tl : Int) := by rw [wrap_in (by omega) (by omega)]; omega
      have HT := Lib.hid htl
      have hsu2 : f.su ≤ 1073741824 := by omega
      have htl2 : tl ≤ 1073741824 := by omega
      clear hf hfd hin htl hsu
      go_upto_region 4 with fail
      clear hlk nc hpc
      replace B := B.drew
      have hfa := B.D.fl f HI.out.1
      obtain ⟨A1, c1, hv1, hc1, _⟩ := hfa.2.1.form
      have eb := hfa.1
      rw [hv1] at eb
      have Hv := Lib.hid hv1
      clear hv1 hfa
      (refine wp_region_held_drew (S := (S1 f.e #[.slice A1 f.by_.length c1, .int .i64 (f.su : Int)])) (by kernel_rfl) ?_ (fun hHeld => ?_); (· exact eb.cell))
      (refine take_op (i := 0) (v := ?_) rfl (by kernel_rfl) (by kernel_rfl) (by kernel_rfl) (fun _ _ _ h => h) (by rfl) ?_ hHeld ?_; rotate_left; (· (intro wS hSw; (try dsimp only at hSw); go_simp; first | done | with_reducible rfl)); simp only [Act.put, List.setIfInBounds_toArray, List.set_cons_zero, List.set_cons_succ]); (refine take_op (i := 1) (v := ?_) rfl (by kernel_rfl) (by kernel_rfl) (by kernel_rfl) (fun _ _ _ h => h) (by rfl) ?_ hHeld ?_; rotate_left; (· (intro wS hSw; (try dsimp only at hSw); go_simp; first | done | with_reducible rfl)); simp only [Act.put, List.setIfInBounds_toArray, List.set_cons_zero, List.set_cons_succ]); (refine take_op (i := 2) (v := ?_) rfl (by kernel_rfl) (by kernel_rfl) (by kernel_rfl) (fun _ _ _ h => h) (by rfl) ?_ hHeld ?_; rotate_left; (· (intro wS hSw; (try dsimp only at hSw); go_simp; first | done | with_reducible rfl)); simp only [Act.put, List.setIfInBounds_toArray, List.set_cons_zero, List.set_cons_succ]); (refine take_op (i := 3) (v := ?_) rfl (by kernel_rfl) (by kernel_rfl) (by kernel_rfl) (fun _ _ _ h => h) (by rfl) ?_ hHeld ?_; rotate_left; (· (intro wS hSw; (try dsimp only at hSw); go_simp; first | done | with_reducible rfl)); simp only [Act.put, List.setIfInBounds_toArray, List.set_cons_zero, List.set_cons_succ]); (refine take_op (i := 4) (v := ?_) rfl (by kernel_rfl) (by kernel_rfl) (by kernel_rfl) (fun _ _ _ h => h) (by rfl) ?_ hHeld ?_; rotate_left; (· (intro wS hSw; (try dsimp only at hSw); go_simp; first | done | with_reducible rfl)); simp only [Act.put, List.setIfInBounds_toArray, List.set_cons_zero, List.set_cons_succ]); (refine take_op (i := 5) (v := ?_) rfl (by kernel_rfl) (by kernel_rfl) (by kernel_rfl) (fun _ _ _ h => h) (by rfl) ?_ hHeld ?_; rotate_left; (· (intro wS hSw; (try dsimp only at hSw); go_simp; first | done | with_reducible rfl)); simp only [Act.put, List.setIfInBounds_toArray, List.set_cons_zero, List.set_cons_succ]); (refine take_op (i := 6) (v := ?_) rfl (by kernel_rfl) (by kernel_rfl) (by kernel_rfl) (fun _ _ _ h => h) (by rfl) ?_ hHeld ?_; rotate_left; (· (intro wS hSw; (try dsimp only at hSw); go_simp; first | done | with_reducible rfl)); simp only [Act.put, List.setIfInBounds_toArray, List.set_cons_zero, List.set_cons_succ]); (refine take_op (i := 7) (v := ?_) rfl (by kernel_rfl) (by kernel_rfl) (by kernel_rfl) (fun _ _ _ h => h) (by rfl) ?_ hHeld ?_; rotate_left; (· (intro wS hSw; (try dsimp only at hSw); go_simp; first | done | with_reducible rfl)); simp only [Act.put, List.setIfInBounds_toArray, List.set_cons_zero, List.set_cons_succ]); (refine take_op (i := 8) (v := ?_) rfl (by kernel_rfl) (by kernel_rfl) (by kernel_rfl) (fun _ _ _ h => h) (by rfl) ?_ hHeld ?_; rotate_left; (· (intro wS hSw; (try dsimp only at hSw); go_simp; first | done | with_reducible rfl)); simp only [Act.put, List.setIfInBounds_toArray, List.set_cons_zero, List.set_cons_succ]); (refine take_op (i := 9) (v := ?_) rfl (by kernel_rfl) (by kernel_rfl) (by kernel_rfl) (fun _ _ _ h => h) (by rfl) ?_ hHeld ?_; rotate_left; (· (intro wS hSw; (try dsimp only at hSw); go_simp; first | done | with_reducible rfl)); simp only [Act.put, List.setIfInBounds_toArray, List.set_cons_zero, List.set_cons_succ]); (refine take_op (i := 10) (v := ?_) rfl (by kernel_rfl) (by kernel_rfl) (by kernel_rfl) (fun _ _ _ h => h) (by rfl) ?_ hHeld ?_; rotate_left; (· (intro wS hSw; (try dsimp only at hSw); go_simp; first | done | with_reducible rfl)); simp only [Act.put, List.setIfInBounds_toArray, List.set_cons_zero, List.set_cons_succ])
      (refine wpAnyH_done (by kernel_rfl) ?_ _)
      clear hHeld hsub
      revert B eb
      generalize World.drew _ = wd
      intro B eb
      by_cases hcut : 0 < tl ∧ 0 < m'
      · obtain ⟨ht0, hm0⟩ := hcut
        obtain ⟨k0, kt, rfl⟩ : ∃ k0 kt, ks' = k0 :: kt := by
          cases ks' with
          | nil => have := B.ka.1; simp at this; omega
          | cons k0 kt => exact ⟨k0, kt, rfl⟩
        have t0 : (0 : Int) < (tl : Int) := by omega
        have m0 : (0 : Int) < (m' : Int) := by omega
        go_upto_region 6 with fail
        replace B := B.drew
        replace eb := Blk.keep eb (Below.refl _ _).drew
        obtain ⟨wk0, ab, ao, rfl, hk0⟩ := B.ka.2.2 0 k0 rfl
        simp only [Nat.add_zero] at hk0
        have ec := eb.cell
        (refine wp_region_held_drew (S := (S2 ⟨f.e, 1, none⟩ ⟨ab, ao, none⟩ (.int .i64 (f.su : Int)) (.int .i64 k0))) (by kernel_rfl) ?_ (fun hHeld => ?_); (· exact ⟨eb.cell 1, hk0⟩))
        obtain ⟨tn, htn⟩ : ∃ tn : Nat, (min (max k0 0) (tl : Int)).toNat = tn := ⟨_, rfl⟩
        obtain ⟨n1, hn1⟩ : ∃ n1 : Nat, n1 = f.su + tn := ⟨_, rfl⟩
        have hw : IntKind.i64.wrap ((f.su : Int) + min (max k0 0) (tl : Int)) = (n1 : Int) := by rw [wrap_in (by omega) (by omega)]; omega
        have hnl : n1 ≤ f.by_.length := by have := HT.out; omega
        have hnc : n1 ≤ c1 := by omega
        have HN := Lib.hid (show (min (max k0 0) (tl : Int)).toNat = tn ∧ n1 = f.su + tn from ⟨htn, hn1⟩)
        clear htn hn1
        (refine take_op (i := 0) (v := ?_) rfl (by kernel_rfl) (by kernel_rfl) (by kernel_rfl) (fun _ _ _ h => h) (by rfl) ?_ hHeld ?_; rotate_left; (· (intro wS hSw; (try dsimp only at hSw); go_simp; first | done | with_reducible rfl)); simp only [Act.put, List.setIfInBounds_toArray, List.set_cons_zero, List.set_cons_succ]); (refine take_op (i := 1) (v := ?_) rfl (by kernel_rfl) (by kernel_rfl) (by kernel_rfl) (fun _ _ _ h => h) (by rfl) ?_ hHeld ?_; rotate_left; (· (intro wS hSw; (try dsimp only at hSw); go_simp; first | done | with_reducible rfl)); simp only [Act.put, List.setIfInBounds_toArray, List.set_cons_zero, List.set_cons_succ]); (refine take_op (i := 2) (v := ?_) rfl (by kernel_rfl) (by kernel_rfl) (by kernel_rfl) (fun _ _ _ h => h) (by rfl) ?_ hHeld ?_; rotate_left; (· (intro wS hSw; (try dsimp only at hSw); go_simp; first | done | with_reducible rfl)); simp only [Act.put, List.setIfInBounds_toArray, List.set_cons_zero, List.set_cons_succ]); (refine take_op (i := 3) (v := ?_) rfl (by kernel_rfl) (by kernel_rfl) (by kernel_rfl) (fun _ _ _ h => h) (by rfl) ?_ hHeld ?_; rotate_left; (· (intro wS hSw; (try dsimp only at hSw); go_simp; first | done | with_reducible rfl)); simp only [Act.put, List.setIfInBounds_toArray, List.set_cons_zero, List.set_cons_succ]); (refine take_op (i := 5) (v := ?_) rfl (by kernel_rfl) (by kernel_rfl) (by kernel_rfl) (fun _ _ _ h => h) (by rfl) ?_ hHeld ?_; rotate_left; (· (intro wS hSw; (try dsimp only at hSw); go_simp; first | done | with_reducible rfl)); simp only [Act.put, List.setIfInBounds_toArray, List.set_cons_zero, List.set_cons_succ]); (refine take_op (i := 6) (v := ?_) rfl (by kernel_rfl) (by kernel_rfl) (by kernel_rfl) (fun _ _ _ h => h) (by rfl) ?_ hHeld ?_; rotate_left; (· (intro wS hSw; (try dsimp only at hSw); go_simp; first | done | with_reducible rfl)); simp only [Act.put, List.setIfInBounds_toArray, List.set_cons_zero, List.set_cons_succ]); (refine take_op (i := 7) (v := ?_) rfl (by kernel_rfl) (by kernel_rfl) (by kernel_rfl) (fun _ _ _ h => h) (by rfl) ?_ hHeld ?_; rotate_left; (· (intro wS hSw; (try dsimp only at hSw); go_simp; first | done | with_reducible rfl)); simp only [Act.put, List.setIfInBounds_toArray, List.set_cons_zero, List.set_cons_succ]); (refine take_op (i := 8) (v := ?_) rfl (by kernel_rfl) (by kernel_rfl) (by kernel_rfl) (fun _ _ _ h => h) (by rfl) ?_ hHeld ?_; rotate_left; (· (intro wS hSw; (try dsimp only at hSw); go_simp; first | done | with_reducible rfl)); simp only [Act.put, List.setIfInBounds_toArray, List.set_cons_zero, List.set_cons_succ]); (refine take_op (i := 9) (v := ?_) rfl (by kernel_rfl) (by kernel_rfl) (by kernel_rfl) (fun _ _ _ h => h) (by rfl) ?_ hHeld ?_; rotate_left; (· (intro wS hSw; (try dsimp only at hSw); go_simp; first | done | with_reducible rfl)); simp only [Act.put, List.setIfInBounds_toArray, List.set_cons_zero, List.set_cons_succ]); (refine take_op (i := 10) (v := ?_) rfl (by kernel_rfl) (by kernel_rfl) (by kernel_rfl) (fun _ _ _ h => h) (by rfl) ?_ hHeld ?_; rotate_left; (· (intro wS hSw; (try dsimp only at hSw); go_simp; first | done | with_reducible rfl)); simp only [Act.put, List.setIfInBounds_toArray, List.set_cons_zero, List.set_cons_succ]); (refine take_op (i := 11) (v := ?_) rfl (by kernel_rfl) (by kernel_rfl) (by kernel_rfl) (fun _ _ _ h => h) (by rfl) ?_ hHeld ?_; rotate_left; (· (intro wS hSw; (try dsimp only at hSw); go_simp; first | done | with_reducible rfl)); simp only [Act.put, List.setIfInBounds_toArray, List.set_cons_zero, List.set_cons_succ]); (refine take_op (i := 12) (v := ?_) rfl (by kernel_rfl) (by kernel_rfl) (by kernel_rfl) (fun _ _ _ h => h) (by rfl) ?_ hHeld ?_; rotate_left; (· (intro wS hSw; (try dsimp only at hSw); go_simp; first | done | with_reducible rfl)); simp only [Act.put, List.setIfInBounds_toArray, List.set_cons_zero, List.set_cons_succ]); (refine take_op (i := 13) (v := ?_) rfl (by kernel_rfl) (by kernel_rfl) (by kernel_rfl) (fun _ _ _ h => h) (by rfl) ?_ hHeld ?_; rotate_left; (· (intro wS hSw; (try dsimp only at hSw); go_simp; first | done | with_reducible rfl)); simp only [Act.put, List.setIfInBounds_toArray, List.set_cons_zero, List.set_cons_succ]); (refine take_op (i := 14) (v := ?_) rfl (by kernel_rfl) (by kernel_rfl) (by kernel_rfl) (fun _ _ _ h => h) (by rfl) ?_ hHeld ?_; rotate_left; (· (intro wS hSw; (try dsimp only at hSw); go_simp; first | done | with_reducible rfl)); simp only [Act.put, List.setIfInBounds_toArray, List.set_cons_zero, List.set_cons_succ]); (refine take_op (i := 15) (v := ?_) rfl (by kernel_rfl) (by kernel_rfl) (by kernel_rfl) (fun _ _ _ h => h) (by rfl) ?_ hHeld ?_; rotate_left; (· (intro wS hSw; (try dsimp only at hSw); go_simp; first | done | with_reducible rfl)); simp only [Act.put, List.setIfInBounds_toArray, List.set_cons_zero, List.set_cons_succ])
        clear hk0 hw
        revert B eb ec hHeld
        generalize World.drew _ = we
        intro eb B ec hHeld
        (refine call_op (i := 4) rfl (by kernel_rfl) (by rfl) (fun K hK => ?_); go_simp; skip; refine hK.out _ _ hHeld (fun hHeld2 => ?_); clear hK K hHeld; have hHeld := hHeld2; clear hHeld2; (try simp only [Act.put, List.setIfInBounds_toArray, List.set_cons_zero, List.set_cons_succ]))
        (refine take_op (i := 16) (v := ?_) rfl (by kernel_rfl) (by kernel_rfl) (by kernel_rfl) (fun _ _ _ h => h) (by rfl) ?_ hHeld ?_; rotate_left; (· (intro wS hSw; (try dsimp only at hSw); go_simp; first | done | with_reducible rfl)); simp only [Act.put, List.setIfInBounds_toArray, List.set_cons_zero, List.set_cons_succ]); (refine take_op (i := 17) (v := ?_) rfl (by kernel_rfl) (by kernel_rfl) (by kernel_rfl) (fun _ _ _ h => h) (by rfl) ?_ hHeld ?_; rotate_left; (· (intro wS hSw; (try dsimp only at hSw); go_simp; first | done | with_reducible rfl)); simp only [Act.put, List.setIfInBounds_toArray, List.set_cons_zero, List.set_cons_succ]); (refine take_op (i := 18) (v := ?_) rfl (by kernel_rfl) (by kernel_rfl) (by kernel_rfl) (fun _ _ _ h => h) (by rfl) ?_ hHeld ?_; rotate_left; (· (intro wS hSw; (try dsimp only at hSw); go_simp; first | done | with_reducible rfl)); simp only [Act.put, List.setIfInBounds_toArray, List.set_cons_zero, List.set_cons_succ])
        have ef := eb.frozen
        have T1 := Turn.setCell eb 0 (.slice A1 n1 c1)
        have eb1 := eb.set_ 0 (.slice A1 n1 c1)
        simp only [List.setIfInBounds_toArray, List.set_cons_zero] at eb1
        have hkc := T1.cell hHeld.2 (fun e => B.kF _ rfl hm0 (by rw [e]; exact (B.D.fl f HI.out.1).2.2.1))
        have G8 := boot_round B HI.out.1 HI.out.2 Hv.out HT.out ht0 HN.out.1 ⟨HN.out.2, hnl⟩ hc1
        (refine call_op (i := 19) rfl (by kernel_rfl) (by rfl) (fun K hK => ?_); go_simp; skip; refine hK.out _ _ ⟨eb1.cell 1, hkc⟩ (fun hHeld2 => ?_); clear hK K hHeld; have hHeld := hHeld2; clear hHeld2; (try simp only [Act.put, List.setIfInBounds_toArray, List.set_cons_zero, List.set_cons_succ]))
        (refine wpAnyH_done (by kernel_rfl) ?_ _)
        clear hHeld ef T1 hkc B eb ec
        have hm1 : (1 : Int) ≤ (m' : Int) := by omega
        have GG := Lib.hid G8
        clear G8
        revert eb1 GG
        generalize World.setCell we _ _ = w8
        intro eb1 GG
        have ec := eb1.cell
        have ef := eb1.frozen
        obtain ⟨A2, hA2⟩ : ∃ A2, (if c' = 1 then some (⟨ab, ao, none⟩ : Addr) else some ⟨ab, ao + 1, none⟩) = A2 := ⟨_, rfl⟩
        go_wp2_with fail
        go_roundw
        case rel => exact ⟨i + 1, A2, m' - 1, c' - 1, kt, _, by omega, by go_num, rfl, by omega, GG.out c' A2 hmc hA2⟩
        case measure => simp [intOf]; omega
      · have h0 : tl = 0 ∨ ks' = [] := by
          by_cases ht : tl = 0
          · exact .inl ht
          · right
            have hm0 : m' = 0 := by omega
            have := B.ka.1
            rw [hm0] at this
            exact List.eq_nil_of_length_eq_zero this.symm
        have GG := Lib.hid (boot_round2 B HI.out.1 HI.out.2 HT.out h0)
        have ec := eb.cell
        have ef := eb.frozen
        clear B h0
        by_cases ht : tl = 0
        · subst ht
          go_wp2_with fail
          go_roundw
          case rel => exact ⟨i + 1, A', m', c', ks', _, by omega, by go_num, rfl, hmc, GG.out⟩
          case measure => simp [intOf]; omega
        · have hm0 : m' = 0 := by omega
          subst hm0
          have t0 : (0 : Int) < (tl : Int) := by omega
          go_wp2_with fail
          go_roundw
          case rel => exact ⟨i + 1, A', 0, c', ks', _, by omega, by go_num, rfl, hmc, GG.out⟩
          case measure => simp [intOf]; omega
    · obtain rfl : i = l.length := by omega
      have ni : ¬ ((l.length : Nat) : Int) < (l.length : Int) := by omega
      have eb := B.D.hd
      have ec := eb.cell
      have ef := eb.frozen
      have T1 := Turn.setCell eb 3 (.bool false)
      have eb1 := eb.set_ 3 (.bool false)
      have T2 := Turn.setCell eb1 2 (.int .i64 (-1))
      have eb2 := eb1.set_ 2 (.int .i64 (-1))
      have ec1 := eb1.cell
      have ef1 := eb1.frozen
      have TT := T1.trans T2 (fun i hi => .inl hi)
      simp only [List.setIfInBounds_toArray, List.set_cons_zero, List.set_cons_succ] at eb2
      have hfin : Deeds w F g b (.tuple #[]) (bootD ⟨l, room, fuse, down⟩ ks) (.returned (.tuple #[])) ((wr.setCell ⟨g, 3, none⟩ (.bool false)).setCell ⟨g, 2, none⟩ (.int .i64 (-1))) := by
        have he := B.e
        rw [List.take_length, List.drop_length, List.append_nil] at he
        exact ⟨rfl, F, ⟨⟨gs', B.D.head TT eb2, he⟩, Hok.out⟩, fun i hi => .inl hi, B.kt.trans (TT.mono (F' := F) fun k _ e => by rw [e]; exact B.D.Fg) (fun i hi => .inl hi)⟩
      have Hfin := Lib.hid hfin
      clear hfin T1 T2 TT eb2 B eb eb1
      go_wp2_with fail
      go_end0
      exact Hfin.out
end Go.Proofs.Ytpdfbkkhmfnnjaa
