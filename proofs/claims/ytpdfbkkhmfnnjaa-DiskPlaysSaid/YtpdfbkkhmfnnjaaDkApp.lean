/- disk.Append: its closure. -/
import Derived.Test.YtpdfbkkhmfnnjaaDiskOk
import Derived.Test.YtpdfbkkhmfnnjaaDeed
import Derived.Test.YtpdfbkkhmfnnjaaIsName
import Derived.WalkKit
import Derived.WalkSpells
import Derived.WalkLawsBesides
import Derived.Deep.RegionHeld3
import Derived.Deep.DrawnRows
import Derived.Deep.DeepCutAuto
import Derived.Deep.DeepFit
import Derived.Lib.Hide
import Derived.BigQuiet
import Derived.Deep.QuietTactic
import Derived.Deep.RegionHeld3
namespace Go.Proofs.Ytpdfbkkhmfnnjaa
open Go.RowKit
set_option linter.unusedVariables false
set_option linter.unusedSimpArgs false
set_option maxRecDepth 20000
attribute [local go_sem ↓] Go.wp_at_zero Go.wp_at_succ
attribute [local go_sem] World.cell?_alloc_some frozen_alloc_some
open Go.Maps

theorem wp_appW {P : Program} (w : World) {o : Oper} {a : Act} {K : Act → World → Prop} {Q : Exit → Act → World → Prop} (s x : Operand) (t : TypeId)
    (ho : o.op = .call { callee := .builtin .append, args := #[s, x], argTypes := #[t, t] })
    (i : TypeInfo) (z : Value) (ht : P.underlying t = some (.slice 5)) (hi : P.info? 5 = some i) (hz : i.zero = some z) (hsize : i.size = 1) (hby : i.bytes = 1) (hzs : z.cells.size = 1)
    (v : Value) (l : List Nat) (hs : a.eval s = v) (hown : OwnW w v l) (A : Option Addr) (m c : Nat) (p : List Nat) (hx : a.eval x = .slice A m c) (hp : Bytes w A m p) (hb : l.length + m ≤ 140737488355328)
    (h : ∀ v' w', OwnW w' v' (l ++ p) → w.grownBy w' v.ownBlock → (v'.ownBlock = v.ownBlock ∨ v'.ownBlock = some w.heap.size) → K (a.put o.dst v') w') : o.wp P a w K Q := by
  obtain ⟨v', w', hr, h2, h3, h4⟩ := run_appW (P := P) w t o.type i z ht hi hz hsize hby hzs v l hown A m c p hp hb
  unfold Oper.wp execOp
  simp only [ho, resolve, invoke, builtin, Sem.run_bind, Sem.run_pure, Result.andThen_ok, List.map_toArray, List.map_cons, List.map_nil, hs, hx, hr]
  exact h v' w' h2 h3 h4
theorem u8info : ∃ i, Try.prog.info? 5 = some i ∧ i.zero = some (.int .u8 0) ∧ i.size = 1 ∧ i.bytes = 1 := by
  have h : (Try.prog.info? 5).map (fun i => (i.zero, i.size, i.bytes)) = some (some (.int .u8 0), 1, 1) := by kernel_rfl
  obtain ⟨i, hi, e⟩ := Option.map_eq_some_iff.1 h
  simp only [Prod.mk.injEq] at e
  exact ⟨i, hi, e.1, e.2.1, e.2.2⟩
/-- A deed's closure under way: the disk, and what the closure has caught: the disk's pointer, a name. -/
structure Cl2 (W : World) (F : Nat → Prop) (g b : Nat) (gs : List GF) (room fuse : Int) (down : Bool) (B1 B2 : Nat) (s : NmT) : Prop where
  D : DiskG W F g b gs room fuse down
  b1 : Blk W B1 56 #[.pointer (some ⟨g, 0, none⟩)]
  b2 : Blk W B2 9 #[sV s]
theorem Cl2.keep {W W' : World} {F : Nat → Prop} {g b : Nat} {gs : List GF} {room fuse : Int} {down : Bool} {B1 B2 : Nat} {s : NmT} (h : Cl2 W F g b gs room fuse down B1 B2 s) (hb : Below W.heap.size W W') : Cl2 W' F g b gs room fuse down B1 B2 s :=
  ⟨h.D.keep hb, h.b1.keep hb, h.b2.keep hb⟩
/-- Behind a store into the map. -/
theorem blk_map {w w' : World} {b e : Nat} {cs : Array Value} {t : TypeId} {es : Array MapEntry} {c : Nat} (hm : w.heap[b]? = some (.map es c)) (hg : w.grownBy w' (some b)) (h : Blk w e t cs) : Blk w' e t cs :=
  (hg.block e h.lt (fun e2 => by
    injection e2 with e2
    subst e2
    have := hm.symm.trans h
    cases this)).trans h
theorem bytes_map {w w' : World} {b : Nat} {A : Option Addr} {m : Nat} {l : List Nat} {es : Array MapEntry} {c : Nat} (hm : w.heap[b]? = some (.map es c)) (hg : w.grownBy w' (some b)) (h : Bytes w A m l) : Bytes w' A m l :=
  ⟨h.1, h.2.1, fun i x hi => by
    obtain ⟨h1, ad, e, h2⟩ := h.2.2 i x hi
    refine ⟨h1, ad, e, ?_⟩
    have hlt := World.block_lt_of_cell? _ _ h2
    rw [World.cell?_of_block (hg.block _ hlt (fun e2 => ?_))]
    · exact h2
    · injection e2 with e2
      rw [← e2] at hm
      simp [World.cell?, hm] at h2⟩
abbrev SDk (g : Nat) (cg : Array Value) (B1 : Nat) (c1 : Array Value) (B2 : Nat) (c2 : Array Value) (b : Nat) (s : NmT) (v : Value) (k : Bool) (wx : World) : Prop :=
  (∀ i, wx.cell? ⟨g, i, none⟩ = cg[i]?) ∧ (∀ i, wx.cell? ⟨B1, i, none⟩ = c1[i]?) ∧ (∀ i, wx.cell? ⟨B2, i, none⟩ = c2[i]?) ∧ (Instr.lookup 93 (.map (some b)) (sV s) true).run Try.prog wx = .ok (.tuple #[v, .bool k]) wx
abbrev SDk2 (g : Nat) (cg : Array Value) (B1 : Nat) (c1 : Array Value) (B2 : Nat) (c2 : Array Value) (wx : World) : Prop := (∀ i, wx.cell? ⟨g, i, none⟩ = cg[i]?) ∧ (∀ i, wx.cell? ⟨B1, i, none⟩ = c1[i]?) ∧ ∀ i, wx.cell? ⟨B2, i, none⟩ = c2[i]?
theorem look_gs {w : World} {F : Nat → Prop} {g b : Nat} {gs : List GF} {room fuse : Int} {down : Bool} (h : DiskG w F g b gs room fuse down) (s : NmT) :
    (∃ f, f ∈ gs ∧ f.nm = s ∧ findBy GF.nm s gs = some f ∧ entV (gs.map GF.fl) s = eV f.e ∧ hasF (gs.map GF.fl) s = true) ∨ (findBy GF.nm s gs = none ∧ entV (gs.map GF.fl) s = .pointer none ∧ hasF (gs.map GF.fl) s = false) := by
  cases hf : findBy GF.nm s gs with
  | some f =>
    left
    obtain ⟨h1, h2⟩ := findBy_some hf
    have hm : f.fl ∈ gs.map GF.fl := List.mem_map.2 ⟨f, h1, rfl⟩
    refine ⟨f, h1, h2, rfl, ?_, ?_⟩
    · rw [← h2]; exact entV_hit h.mp.nms hm
    · rw [← h2]; exact hasF_mem hm
  | none =>
    right
    have hn : hasF (gs.map GF.fl) s = false := by
      cases hh : hasF (gs.map GF.fl) s
      · rfl
      · obtain ⟨t, ht, e⟩ := hasF_iff.1 hh
        obtain ⟨f, hfm, rfl⟩ := List.mem_map.1 ht
        exact absurd e (findBy_none.1 hf f hfm)
    exact ⟨rfl, entV_miss hn, hn⟩
theorem wrap_in {x : Int} (h0 : -9223372036854775808 ≤ x) (h1 : x ≤ 9223372036854775807) : IntKind.i64.wrap x = x := by rw [IntKind.wrap_i64]; omega
/-- The file behind an append and the store of its slice. -/
theorem app_file {w w1 : World} {F : Nat → Prop} {g b : Nat} {gs : List GF} {room fuse : Int} {down : Bool} (h : DiskG w F g b gs room fuse down) {f : GF} (hf : f ∈ gs) {v2 : Value} {p : List Nat} (hown : OwnW w1 v2 (f.by_ ++ p)) (hgrow : w.grownBy w1 f.v.ownBlock)
    (hat : v2.ownBlock = f.v.ownBlock ∨ v2.ownBlock = some w.heap.size) :
    ∃ F2, DiskG (w1.setCell ⟨f.e, 0, none⟩ v2) F2 g b (updBy GF.nm f.nm (fun _ => { f with by_ := f.by_ ++ p, v := v2 }) gs) room fuse down ∧ (∀ k, F2 k → F k ∨ w.heap.size ≤ k) ∧ Turn F w (w1.setCell ⟨f.e, 0, none⟩ v2) := by
  have hfa := h.fl f hf
  have T1 : Turn (fun i => some i = f.v.ownBlock) w w1 := Turn.of_grown hgrow fun k e => e.symm
  have eb := T1.blk hfa.1 fun e => hfa.row_ne hfa.1 (by decide) e.symm
  have T2 := Turn.setCell eb 0 v2
  have hsz : (w1.setCell ⟨f.e, 0, none⟩ v2).heap.size = w1.heap.size := by simp
  have T : Turn (fun i => i = f.e ∨ f.v.ownBlock = some i) w (w1.setCell ⟨f.e, 0, none⟩ v2) := (T1.mono fun k _ e => .inr e.symm).trans T2 fun i e => .inl (.inl e)
  refine ⟨fun k => F k ∨ (w.heap.size ≤ k ∧ k < w1.heap.size), h.file (f' := { f with by_ := f.by_ ++ p, v := v2 }) hf T (fun i hi => .inl hi) (fun i hi => ?_) ?_ rfl rfl ?_, fun k hk => hk.imp id fun e => e.1, T.mono fun k _ e => ?_⟩
  · rw [hsz]
    rcases hi with hi | hi
    · exact Nat.lt_of_lt_of_le (h.lt i hi) hgrow.size
    · exact hi.2
  · have hne : ∀ r, v2.ownBlock = some r → r ≠ f.e := fun r hr e => by
      subst e
      obtain ⟨cur, hc⟩ := hown.typed hr
      have := hc.symm.trans eb
      simp only [Option.some.injEq, Obj.cells.injEq] at this
      exact absurd this.2.1 (by decide)
    refine ⟨?_, hown.same fun r hr => T2.block r (hown.lt hr) (hne r hr), .inl hfa.2.2.1, fun r hr => ?_⟩
    · have := eb.set_ 0 v2
      simpa using this
    · rcases hat with e | e
      · exact .inl (hfa.2.2.2 r (by rw [← e]; exact hr))
      · simp only at hr
        rw [e] at hr
        injection hr with hr
        subst hr
        exact .inr ⟨Nat.le_refl _, hown.lt (by rw [e])⟩
  · rcases hat with e | e
    · exact .inl e
    · right
      intro r hr
      simp only at hr
      rw [e] at hr
      injection hr with hr
      omega
  · rcases e with e | e
    · rw [e]; exact hfa.2.2.1
    · exact hfa.2.2.2 k e
/-- A new file, without bytes. -/
theorem new_file {w w1 : World} {F : Nat → Prop} {g b : Nat} {gs : List GF} {room fuse : Int} {down : Bool} (h : DiskG w F g b gs room fuse down) {s : NmT} {e : Nat} (he : Blk w e 124 #[.slice none 0 0, .int .i64 0]) (hF : ¬ F e) (hn : findBy GF.nm s gs = none)
    (hg : w.grownBy w1 (some b)) (hm : FmAt w1 b ((insBy GF.nm ⟨s, [], 0, e, .slice none 0 0⟩ gs).map GF.fl)) :
    DiskG w1 (fun k => F k ∨ k = e) g b (insBy GF.nm ⟨s, [], 0, e, .slice none 0 0⟩ gs) room fuse down := by
  obtain ⟨es, c, hmp⟩ := h.mp.is_map
  have he1 := blk_map hmp hg he
  refine h.put (f := ⟨s, [], 0, e, .slice none 0 0⟩) (Turn.of_grown hg fun k e => by injection e with e; exact e.symm) (fun i hi => .inl hi) (fun i hi => ?_) hm ⟨he1, OwnW.nil_ _, .inr rfl, fun r hr => by cases hr⟩ (findBy_none.1 hn) (fun x hx e2 => hF (by have h9 := (h.fl x hx).2.2.1; rw [e2] at h9; exact h9)) (fun x hx r hr hr2 => by cases hr2)
  rcases hi with hi | rfl
  · exact Nat.lt_of_lt_of_le (h.lt i hi) hg.size
  · exact he1.lt
theorem ins_fl {gs : List GF} (ha : AscBy GF.nm gs) {s : NmT} (hn : findBy GF.nm s gs = none) (e : Nat) (v : Value) (by_ : List Nat) (su : Nat) :
    (∀ u, u ∈ (insBy GF.nm ⟨s, by_, su, e, v⟩ gs).map GF.fl ↔ u = (s, e) ∨ u ∈ outF (gs.map GF.fl) s) ∧ Nms1 ((insBy GF.nm ⟨s, by_, su, e, v⟩ gs).map GF.fl) ∧ ((insBy GF.nm ⟨s, by_, su, e, v⟩ gs).map GF.fl).length = (outF (gs.map GF.fl) s).length + 1 := by
  have hs : outF (gs.map GF.fl) s = gs.map GF.fl := outF_same fun t ht => by
    obtain ⟨f, hf, rfl⟩ := List.mem_map.1 ht
    exact findBy_none.1 hn f hf
  rw [hs]
  refine ⟨fun u => ?_, ?_, ?_⟩
  · simp only [List.mem_map, mem_insBy]
    constructor
    · rintro ⟨x, rfl | hx, rfl⟩
      · exact .inl rfl
      · exact .inr ⟨x, hx, rfl⟩
    · rintro (rfl | ⟨x, hx, rfl⟩)
      · exact ⟨_, .inl rfl, rfl⟩
      · exact ⟨x, .inr hx, rfl⟩
  · exact List.pairwise_map.2 (List.Pairwise.imp (fun {a b} (hab : a.nm < b.nm) (e2 : a.nm = b.nm) => nm_irrefl b.nm (by rw [e2] at hab; exact hab)) (insBy_asc ha (f := ⟨s, by_, su, e, v⟩) (findBy_none.1 hn)))
  · rw [List.length_map, insBy_length, List.length_map]
theorem upd_ins {gs : List GF} {s : NmT} (hn : findBy GF.nm s gs = none) {f f' : GF} (hf : f.nm = s) (hf' : f'.nm = s) : updBy GF.nm s (fun _ => f') (insBy GF.nm f gs) = insBy GF.nm f' gs := by
  unfold updBy
  rw [insBy_map (nm' := GF.nm) (d := fun t => if t.nm = s then f' else t) (fun x => by split; · next h => rw [hf', h]
                                                                                       · rfl), if_pos hf]
  congr 1
  conv => rhs; rw [← List.map_id gs]
  apply List.map_congr_left
  intro x hx
  rw [if_neg (findBy_none.1 hn x hx)]
  rfl
set_option maxHeartbeats 4000000 in
theorem append1_any (F : Nat → Prop) (g b B1 B2 B3 : Nat) (d : DkT) (s : NmT) (A : Option Addr) (m c : Nat) (p : List Nat) (w : World) (h : DiskAt w F g b d) (h1 : Blk w B1 56 #[.pointer (some ⟨g, 0, none⟩)]) (h2 : Blk w B2 9 #[sV s]) (h3 : Blk w B3 60 #[.slice A m c]) (hp : Bytes w A m p) (hs : wfN s) (hpl : p.length ≤ 1073741824) :
    Calls Try.prog 76 #[.pointer (some ⟨B1, 0, none⟩), .pointer (some ⟨B2, 0, none⟩), .pointer (some ⟨B3, 0, none⟩)] w (Deeds w F g b (.int .i64 (appC d.room d.l s p).1) { d with l := (appC d.room d.l s p).2 }) := by
  have hok := appC_ok (s := s) h.2 p
  have hle : totD d.l ≤ 1073741824 := by have h1 := h.2.tot; have h2 := h.2.room1; omega
  have hr0 := h.2.room0
  have hr1 := h.2.room1
  have hlen := h.2.len
  obtain ⟨⟨gs, hg, hgs⟩, ok⟩ := h
  have hl : gs.length = d.l.length := by rw [← hgs, List.length_map]
  have hfd : findBy Prod.fst s d.l = (findBy GF.nm s gs).map GF.d := by rw [← hgs]; exact findBy_map (fun _ => rfl) s gs
  obtain ⟨l, room, fuse, down⟩ := d
  simp only at hg hgs hl hfd hle hr0 hr1 hlen hok ⊢
  obtain rfl : m = p.length := hp.1
  have P : Cl2 w F g b gs room fuse down B1 B2 s := ⟨hg, h1, h2⟩
  have htot := fun W (h : DiskG W F g b gs room fuse down) => dktotal_any F g b gs room fuse down W h (by rw [hgs]; exact hle)
  rw [hgs] at htot
  have hin := fun W => isname_any s W hs
  have hlk := fun W (h : DiskG W F g b gs room fuse down) => h.mp.look_ok (s := s) hs
  have hlooks := look_gs hg s
  obtain ⟨v, hv⟩ : ∃ v, entV (gs.map GF.fl) s = v := ⟨_, rfl⟩
  obtain ⟨k, hk⟩ : ∃ k, hasF (gs.map GF.fl) s = k := ⟨_, rfl⟩
  rw [hv, hk] at hlooks
  simp only [hv, hk] at hlk
  have HL := Lib.hid hlooks
  have Hlk := Lib.hid hlk
  have Hgs := Lib.hid hgs
  have Hfd := Lib.hid hfd
  have Hok := Lib.hid hok
  have KT := Lib.hid (Turn.refl F w)
  obtain ⟨i0, hi, hz0, hz1, hz2⟩ := u8info
  clear hv hk hlk hlooks hg hgs ok h1 h2 hok
  obtain ⟨R, hR⟩ : ∃ R, appC room l s p = R := ⟨_, rfl⟩
  rw [hR] at Hok ⊢
  have HR := Lib.hid hR
  clear hR hfd
  go_enter Try.func76, Try.ntmps76
  go_upto_region 1 with fail
  replace P := P.keep (Below.refl _ _).drew
  replace h3 := Blk.keep h3 (Below.refl _ _).drew
  replace hp := Bytes.keep hp (Below.refl _ _).drew
  replace KT := Lib.hid (KT.out.trans (Turn.of_below (F := F) (Below.refl _ _).drew) (fun i hi => .inl hi))
  have hlook := Hlk.out _ P.D
  (refine wp_region_held_drew (S := (SDk g #[.map (some b), .int .i64 room, .int .i64 fuse, .bool down] B1 #[.pointer (some ⟨g, 0, none⟩)] B2 #[sV s] b s v k)) (by kernel_rfl) ?_ (fun hHeld => ?_); (· exact ⟨P.D.hd.cell, P.b1.cell, P.b2.cell, hlook⟩))
  (refine take_op (i := 0) (v := ?_) rfl (by kernel_rfl) (by kernel_rfl) (by kernel_rfl) (fun _ _ _ h => h) (by rfl) ?_ hHeld ?_; rotate_left; (· (intro wS hSw; (try dsimp only at hSw); go_simp; first | done | with_reducible rfl)); simp only [Act.put, List.setIfInBounds_toArray, List.set_cons_zero, List.set_cons_succ]); (refine take_op (i := 1) (v := ?_) rfl (by kernel_rfl) (by kernel_rfl) (by kernel_rfl) (fun _ _ _ h => h) (by rfl) ?_ hHeld ?_; rotate_left; (· (intro wS hSw; (try dsimp only at hSw); go_simp; first | done | with_reducible rfl)); simp only [Act.put, List.setIfInBounds_toArray, List.set_cons_zero, List.set_cons_succ]); (refine take_op (i := 2) (v := ?_) rfl (by kernel_rfl) (by kernel_rfl) (by kernel_rfl) (fun _ _ _ h => h) (by rfl) ?_ hHeld ?_; rotate_left; (· (intro wS hSw; (try dsimp only at hSw); go_simp; first | done | with_reducible rfl)); simp only [Act.put, List.setIfInBounds_toArray, List.set_cons_zero, List.set_cons_succ]); (refine take_op (i := 3) (v := ?_) rfl (by kernel_rfl) (by kernel_rfl) (by kernel_rfl) (fun _ _ _ h => h) (by rfl) ?_ hHeld ?_; rotate_left; (· (intro wS hSw; (try dsimp only at hSw); go_simp; first | done | with_reducible rfl)); simp only [Act.put, List.setIfInBounds_toArray, List.set_cons_zero, List.set_cons_succ]); (refine take_op (i := 4) (v := ?_) rfl (by kernel_rfl) (by kernel_rfl) (by kernel_rfl) (fun _ _ _ h => h) (by rfl) ?_ hHeld ?_; rotate_left; (· (intro wS hSw; (try dsimp only at hSw); go_simp; first | done | with_reducible rfl)); simp only [Act.put, List.setIfInBounds_toArray, List.set_cons_zero, List.set_cons_succ]); (refine take_op (i := 5) (v := ?_) rfl (by kernel_rfl) (by kernel_rfl) (by kernel_rfl) (fun _ _ _ h => h) (by rfl) ?_ hHeld ?_; rotate_left; (· (intro wS hSw; (try dsimp only at hSw); go_simp; first | done | with_reducible rfl)); simp only [Act.put, List.setIfInBounds_toArray, List.set_cons_zero, List.set_cons_succ]); (refine take_op (i := 6) (v := ?_) rfl (by kernel_rfl) (by kernel_rfl) (by kernel_rfl) (fun _ _ _ h => h) (by rfl) ?_ hHeld ?_; rotate_left; (· (intro wS hSw; (try dsimp only at hSw); go_simp; first | done | with_reducible rfl)); simp only [Act.put, List.setIfInBounds_toArray, List.set_cons_zero, List.set_cons_succ]); (refine take_op (i := 7) (v := ?_) rfl (by kernel_rfl) (by kernel_rfl) (by kernel_rfl) (fun _ _ _ h => h) (by rfl) ?_ hHeld ?_; rotate_left; (· (intro wS hSw; (try dsimp only at hSw); go_simp; first | done | with_reducible rfl)); simp only [Act.put, List.setIfInBounds_toArray, List.set_cons_zero, List.set_cons_succ]); (refine take_op (i := 8) (v := ?_) rfl (by kernel_rfl) (by kernel_rfl) (by kernel_rfl) (fun _ _ _ h => h) (by rfl) ?_ hHeld ?_; rotate_left; (· (intro wS hSw; (try dsimp only at hSw); go_simp; first | done | with_reducible rfl)); simp only [Act.put, List.setIfInBounds_toArray, List.set_cons_zero, List.set_cons_succ]); (refine take_op (i := 9) (v := ?_) rfl (by kernel_rfl) (by kernel_rfl) (by kernel_rfl) (fun _ _ _ h => h) (by rfl) ?_ hHeld ?_; rotate_left; (· (intro wS hSw; (try dsimp only at hSw); go_simp; first | done | with_reducible rfl)); simp only [Act.put, List.setIfInBounds_toArray, List.set_cons_zero, List.set_cons_succ]); (refine take_op (i := 10) (v := ?_) rfl (by kernel_rfl) (by kernel_rfl) (by kernel_rfl) (fun _ _ _ h => h) (by rfl) ?_ hHeld ?_; rotate_left; (· (intro wS hSw; (try dsimp only at hSw); go_simp; first | done | with_reducible rfl)); simp only [Act.put, List.setIfInBounds_toArray, List.set_cons_zero, List.set_cons_succ])
  (refine wpAnyH_done (by kernel_rfl) ?_ _)
  clear hHeld hlook Hlk
  revert P h3 hp KT
  generalize World.drew _ = wd
  intro P h3 hp KT
  have c2 := P.b2.cell
  by_cases hn : isNm s = true
  · rw [hn] at hin
    go_upto_region 4 with (go_at_call 77; (with_reducible refine (hin _).mono ?_); rintro e w2 ⟨rfl, hb2⟩; replace P := P.keep hb2; replace h3 := Blk.keep h3 hb2; replace hp := Bytes.keep hp hb2; replace KT := Lib.hid (KT.out.trans (Turn.of_below (F := F) hb2) (fun i hi => .inl hi)); clear c2 hb2)
    clear hin
    replace P := P.keep (Below.refl _ _).drew
    replace h3 := Blk.keep h3 (Below.refl _ _).drew
    replace hp := Bytes.keep hp (Below.refl _ _).drew
    replace KT := Lib.hid (KT.out.trans (Turn.of_below (F := F) (Below.refl _ _).drew) (fun i hi => .inl hi))
    (refine wp_region_held_drew (S := (SDk2 g #[.map (some b), .int .i64 room, .int .i64 fuse, .bool down] B1 #[.pointer (some ⟨g, 0, none⟩)] B3 #[.slice A p.length c])) (by kernel_rfl) ?_ (fun hHeld => ?_); (· exact ⟨P.D.hd.cell, P.b1.cell, h3.cell⟩))
    (refine take_op (i := 0) (v := ?_) rfl (by kernel_rfl) (by kernel_rfl) (by kernel_rfl) (fun _ _ _ h => h) (by rfl) ?_ hHeld ?_; rotate_left; (· (intro wS hSw; (try dsimp only at hSw); go_simp; first | done | with_reducible rfl)); simp only [Act.put, List.setIfInBounds_toArray, List.set_cons_zero, List.set_cons_succ]); (refine take_op (i := 1) (v := ?_) rfl (by kernel_rfl) (by kernel_rfl) (by kernel_rfl) (fun _ _ _ h => h) (by rfl) ?_ hHeld ?_; rotate_left; (· (intro wS hSw; (try dsimp only at hSw); go_simp; first | done | with_reducible rfl)); simp only [Act.put, List.setIfInBounds_toArray, List.set_cons_zero, List.set_cons_succ]); (refine take_op (i := 2) (v := ?_) rfl (by kernel_rfl) (by kernel_rfl) (by kernel_rfl) (fun _ _ _ h => h) (by rfl) ?_ hHeld ?_; rotate_left; (· (intro wS hSw; (try dsimp only at hSw); go_simp; first | done | with_reducible rfl)); simp only [Act.put, List.setIfInBounds_toArray, List.set_cons_zero, List.set_cons_succ]); (refine take_op (i := 3) (v := ?_) rfl (by kernel_rfl) (by kernel_rfl) (by kernel_rfl) (fun _ _ _ h => h) (by rfl) ?_ hHeld ?_; rotate_left; (· (intro wS hSw; (try dsimp only at hSw); go_simp; first | done | with_reducible rfl)); simp only [Act.put, List.setIfInBounds_toArray, List.set_cons_zero, List.set_cons_succ]); (refine take_op (i := 4) (v := ?_) rfl (by kernel_rfl) (by kernel_rfl) (by kernel_rfl) (fun _ _ _ h => h) (by rfl) ?_ hHeld ?_; rotate_left; (· (intro wS hSw; (try dsimp only at hSw); go_simp; first | done | with_reducible rfl)); simp only [Act.put, List.setIfInBounds_toArray, List.set_cons_zero, List.set_cons_succ]); (refine take_op (i := 5) (v := ?_) rfl (by kernel_rfl) (by kernel_rfl) (by kernel_rfl) (fun _ _ _ h => h) (by rfl) ?_ hHeld ?_; rotate_left; (· (intro wS hSw; (try dsimp only at hSw); go_simp; first | done | with_reducible rfl)); simp only [Act.put, List.setIfInBounds_toArray, List.set_cons_zero, List.set_cons_succ]); (refine take_op (i := 6) (v := ?_) rfl (by kernel_rfl) (by kernel_rfl) (by kernel_rfl) (fun _ _ _ h => h) (by rfl) ?_ hHeld ?_; rotate_left; (· (intro wS hSw; (try dsimp only at hSw); go_simp; first | done | with_reducible rfl)); simp only [Act.put, List.setIfInBounds_toArray, List.set_cons_zero, List.set_cons_succ])
    (refine call_op (i := 7) rfl (by kernel_rfl) (by rfl) (fun K hK => ?_); go_simp; (go_at_call 78; (with_reducible refine (htot _ P.D).mono ?_); rintro e w3 ⟨rfl, hb3⟩; replace P := P.keep hb3; replace h3 := Blk.keep h3 hb3; replace hp := Bytes.keep hp hb3; replace KT := Lib.hid (KT.out.trans (Turn.of_below (F := F) hb3) (fun i hi => .inl hi)); clear hb3); refine hK.out _ _ ⟨P.D.hd.cell, P.b1.cell, h3.cell⟩ (fun hHeld2 => ?_); clear hK K hHeld; have hHeld := hHeld2; clear hHeld2; (try simp only [Act.put, List.setIfInBounds_toArray, List.set_cons_zero, List.set_cons_succ]))
    (refine take_op (i := 8) (v := ?_) rfl (by kernel_rfl) (by kernel_rfl) (by kernel_rfl) (fun _ _ _ h => h) (by rfl) ?_ hHeld ?_; rotate_left; (· (intro wS hSw; (try dsimp only at hSw); go_simp; first | done | with_reducible rfl)); simp only [Act.put, List.setIfInBounds_toArray, List.set_cons_zero, List.set_cons_succ]); (refine take_op (i := 9) (v := ?_) rfl (by kernel_rfl) (by kernel_rfl) (by kernel_rfl) (fun _ _ _ h => h) (by rfl) ?_ hHeld ?_; rotate_left; (· (intro wS hSw; (try dsimp only at hSw); go_simp; first | done | with_reducible rfl)); simp only [Act.put, List.setIfInBounds_toArray, List.set_cons_zero, List.set_cons_succ]); (refine take_op (i := 10) (v := ?_) rfl (by kernel_rfl) (by kernel_rfl) (by kernel_rfl) (fun _ _ _ h => h) (by rfl) ?_ hHeld ?_; rotate_left; (· (intro wS hSw; (try dsimp only at hSw); go_simp; first | done | with_reducible rfl)); simp only [Act.put, List.setIfInBounds_toArray, List.set_cons_zero, List.set_cons_succ])
    (refine wpAnyH_done (by kernel_rfl) ?_ _)
    clear hHeld htot
    have hwr : IntKind.i64.wrap (room - (totD l : Int)) = room - (totD l : Int) := wrap_in (by omega) (by omega)
    by_cases hfull : room - (totD l : Int) < (p.length : Int)
    · obtain rfl : R = (7, l) := by rw [← HR.out]; simp [appC, hn, hfull]
      go_wp2_with fail
      go_ret
      exact ⟨rfl, F, ⟨⟨gs, P.D, Hgs.out⟩, Hok.out⟩, fun i hi => .inl hi, KT.out⟩
    · have HN := Lib.hid hn
      have HFu := Lib.hid hfull
      rcases HL.out with ⟨f, hf, hfn, hff, rfl, rfl⟩ | ⟨hff, rfl, rfl⟩
      · obtain rfl : R = (0, updBy Prod.fst s (fun f => (f.1, f.2.1 ++ p, f.2.2)) l) := by
          have hfd2 := Hfd.out
          rw [hff] at hfd2
          rw [← HR.out]
          simp [appC, hn, hfull, hfd2]
        have HU : Hid (∀ v2, (updBy GF.nm f.nm (fun _ => { f with by_ := f.by_ ++ p, v := v2 }) gs).map GF.d = updBy Prod.fst s (fun f => (f.1, f.2.1 ++ p, f.2.2)) l) := Lib.hid fun v2 => by
          rw [updBy_map (nm' := Prod.fst) (d := GF.d) (fun _ => rfl) f.nm (u' := fun f => (f.1, f.2.1 ++ p, f.2.2)) (fun x hx e => by rw [asc_one P.D.asc hx hf e]), Hgs.out, hfn]
        have HF : Hid (∀ k, F k → F k ∨ w.heap.size ≤ k) := Lib.hid fun k hk => .inl hk
        have hby : f.by_.length ≤ 1073741824 := by
          have h1 : f.d ∈ l := by rw [← Hgs.out]; exact List.mem_map.2 ⟨f, hf, rfl⟩
          have h2 := totD_upd (u := fun _ => ((s, [], 0) : DF)) (s := s) (by rw [← Hgs.out]; exact List.pairwise_map.2 P.D.asc) h1 hfn
          simp only [List.length_nil] at h2
          omega
        clear hff HL HFu
        obtain ⟨nm, by1, su, e, v1⟩ := f
        simp only at hf hfn hby HU
        subst hfn
        have hfa := P.D.fl _ hf
        obtain ⟨A1, c1, hv1, _, _⟩ := hfa.2.1.form
        simp only at hv1
        subst hv1
        have Hf := Lib.hid hf
        clear hf hfa
        go_upto_region 11 with fail
        replace P := P.keep (Below.refl _ _).drew
        replace h3 := Blk.keep h3 (Below.refl _ _).drew
        replace hp := Bytes.keep hp (Below.refl _ _).drew
        replace KT := Lib.hid (KT.out.trans (Turn.of_below (F := F) (Below.refl _ _).drew) (fun i hi => .inl hi))
        have hfa := P.D.fl _ Hf.out
        have eb := hfa.1
        simp only at eb
        have ec := eb.cell
        (refine wp_region_held_drew (S := (S1 B3 #[.slice A p.length c])) (by kernel_rfl) ?_ (fun hHeld => ?_); (· exact h3.cell))
        (refine take_op (i := 0) (v := ?_) rfl (by kernel_rfl) (by kernel_rfl) (by kernel_rfl) (fun _ _ _ h => h) (by rfl) ?_ hHeld ?_; rotate_left; (· (intro wS hSw; (try dsimp only at hSw); go_simp; first | done | with_reducible rfl)); simp only [Act.put, List.setIfInBounds_toArray, List.set_cons_zero, List.set_cons_succ]); (refine take_op (i := 1) (v := ?_) rfl (by kernel_rfl) (by kernel_rfl) (by kernel_rfl) (fun _ _ _ h => h) (by rfl) ?_ hHeld ?_; rotate_left; (· (intro wS hSw; (try dsimp only at hSw); go_simp; first | done | with_reducible rfl)); simp only [Act.put, List.setIfInBounds_toArray, List.set_cons_zero, List.set_cons_succ]); (refine take_op (i := 2) (v := ?_) rfl (by kernel_rfl) (by kernel_rfl) (by kernel_rfl) (fun _ _ _ h => h) (by rfl) ?_ hHeld ?_; rotate_left; (· (intro wS hSw; (try dsimp only at hSw); go_simp; first | done | with_reducible rfl)); simp only [Act.put, List.setIfInBounds_toArray, List.set_cons_zero, List.set_cons_succ]); (refine take_op (i := 3) (v := ?_) rfl (by kernel_rfl) (by kernel_rfl) (by kernel_rfl) (fun _ _ _ h => h) (by rfl) ?_ hHeld ?_; rotate_left; (· (intro wS hSw; (try dsimp only at hSw); go_simp; first | done | with_reducible rfl)); simp only [Act.put, List.setIfInBounds_toArray, List.set_cons_zero, List.set_cons_succ]); (refine take_op (i := 5) (v := ?_) rfl (by kernel_rfl) (by kernel_rfl) (by kernel_rfl) (fun _ _ _ h => h) (by rfl) ?_ hHeld ?_; rotate_left; (· (intro wS hSw; (try dsimp only at hSw); go_simp; first | done | with_reducible rfl)); simp only [Act.put, List.setIfInBounds_toArray, List.set_cons_zero, List.set_cons_succ])
        revert P h3 hp KT hfa eb ec hHeld
        generalize World.drew _ = wd
        intro P h3 hp KT hfa eb ec hHeld
        (refine call_op (i := 4) rfl (by kernel_rfl) (by rfl) (fun K hK => ?_); go_simp; skip; refine hK.out _ _ hHeld (fun hHeld2 => ?_); clear hK K hHeld; have hHeld := hHeld2; clear hHeld2; (try simp only [Act.put, List.setIfInBounds_toArray, List.set_cons_zero, List.set_cons_succ]))
        (refine call_op (i := 6) rfl (by kernel_rfl) (by rfl) (fun K hK => ?_); (refine wp_appW _ (.tmp 56) (.tmp 57) 60 rfl i0 _ Try.underlying60 hi hz0 hz1 hz2 rfl _ by1 rfl hfa.2.1 _ _ _ p rfl hp (by omega) ?_; intro v2 w1 hown2 hgrow2 hat2; obtain ⟨A2, cc2, hv2, _, _⟩ := hown2.form; rw [List.length_append] at hv2; subst hv2; have T1 := Turn.of_grown (F := fun i => some i = (Value.slice A1 by1.length c1).ownBlock) hgrow2 (fun k e => e.symm); have eb1 := T1.blk eb (fun e => hfa.row_ne eb (by decide) e.symm); have h31 := T1.blk h3 (fun e => hfa.row_ne h3 (by decide) e.symm); clear ec; have ec := eb1.cell; have ef := eb1.frozen); refine hK.out _ _ h31.cell (fun hHeld2 => ?_); clear hK K hHeld; have hHeld := hHeld2; clear hHeld2; (try simp only [Act.put, List.setIfInBounds_toArray, List.set_cons_zero, List.set_cons_succ]))
        have h32 := (Turn.setCell eb1 0 (.slice A2 (by1.length + p.length) cc2)).blk h31 (fun e2 => blk_ne h31 eb1 (by decide) e2)
        (refine take_op (i := 7) (v := ?_) rfl (by kernel_rfl) (by kernel_rfl) (by kernel_rfl) (fun _ _ _ h => h) (by rfl) ?_ hHeld ?_; rotate_left; (· (intro wS hSw; (try dsimp only at hSw); go_simp; first | done | with_reducible rfl)); simp only [Act.put, List.setIfInBounds_toArray, List.set_cons_zero, List.set_cons_succ]); (refine take_op (i := 8) (v := ?_) rfl (by kernel_rfl) (by kernel_rfl) (by kernel_rfl) (fun _ _ _ h => h) (by rfl) ?_ hHeld ?_; rotate_left; (· (intro wS hSw; (try dsimp only at hSw); go_simp; first | done | with_reducible rfl)); simp only [Act.put, List.setIfInBounds_toArray, List.set_cons_zero, List.set_cons_succ])
        (refine call_op (i := 9) rfl (by kernel_rfl) (by rfl) (fun K hK => ?_); go_simp; skip; refine hK.out _ _ h32.cell (fun hHeld2 => ?_); clear hK K hHeld; have hHeld := hHeld2; clear hHeld2; (try simp only [Act.put, List.setIfInBounds_toArray, List.set_cons_zero, List.set_cons_succ]))
        (refine wpAnyH_done (by kernel_rfl) ?_ _)
        obtain ⟨F2, g1, g2, g3⟩ := app_file P.D Hf.out hown2 hgrow2 hat2
        have G1 := Lib.hid g1
        have G2 := Lib.hid (KT.out.trans g3 (fun i hi => HF.out i hi))
        have G3 := Lib.hid g2
        have HZ := Lib.hid KT.out.size
        clear hHeld g1 g2 g3 hown2 hgrow2 hat2 T1 h31 h32 eb1 ec ef hfa eb h3 hp
        go_wp2_with fail
        go_ret
        exact ⟨rfl, F2, ⟨⟨_, G1.out, HU.out _⟩, Hok.out⟩, fun k hk => (G3.out k hk).elim (fun h => HF.out k h) (fun h => .inr (Nat.le_trans HZ.out h)), G2.out⟩
      · have hnf := Hfd.out
        rw [hff] at hnf
        simp only [Option.map_none] at hnf
        have hsz := fun ty => P.D.mp.size_ ty
        simp only [List.length_map] at hsz
        have pc := P.D.hd.cell
        have b1c := P.b1.cell
        by_cases h16 : gs.length = 16
        · have h16' : ((gs.length : Nat) : Int) = 16 := by omega
          obtain rfl : R = (12, l) := by rw [← HR.out]; simp [appC, hn, hfull, hnf, ← hl, h16]
          go_wp2_with fail
          go_ret
          exact ⟨rfl, F, ⟨⟨gs, P.D, Hgs.out⟩, Hok.out⟩, fun i hi => .inl hi, KT.out⟩
        · have h16' : ¬ ((gs.length : Nat) : Int) = 16 := by omega
          obtain rfl : R = (0, insBy Prod.fst (s, p, 0) l) := by rw [← HR.out]; simp [appC, hn, hfull, hnf, ← hl, h16]
          go_upto_region 10 with fail
          have hFe : ¬ F w3.heap.size := fun h => by have := P.D.lt _ h; omega
          have he0 : w.heap.size ≤ w3.heap.size := KT.out.size
          have hk := below_one (w := w3) (.cells #[.slice none 0 0, .int .i64 0] 124)
          have he := Blk.new w3 124 #[.slice none 0 0, .int .i64 0]
          replace P := P.keep hk
          replace h3 := Blk.keep h3 hk
          replace hp := Bytes.keep hp hk
          replace KT := Lib.hid (KT.out.trans (Turn.of_below (F := F) hk) (fun i hi => .inl hi))
          clear hk pc b1c hsz
          revert hFe he0 he P h3 hp KT
          generalize World.alloc w3 _ = w4
          generalize w3.heap.size = e0
          intro hFe he0 he P h3 hp KT
          replace P := P.keep (Below.refl _ _).drew
          replace h3 := Blk.keep h3 (Below.refl _ _).drew
          replace he := Blk.keep he (Below.refl _ _).drew
          replace hp := Bytes.keep hp (Below.refl _ _).drew
          replace KT := Lib.hid (KT.out.trans (Turn.of_below (F := F) (Below.refl _ _).drew) (fun i hi => .inl hi))
          (refine wp_region_held_drew (S := (SDk2 g #[.map (some b), .int .i64 room, .int .i64 fuse, .bool down] B1 #[.pointer (some ⟨g, 0, none⟩)] B2 #[sV s])) (by kernel_rfl) ?_ (fun hHeld => ?_); (· exact ⟨P.D.hd.cell, P.b1.cell, P.b2.cell⟩))
          (refine take_op (i := 0) (v := ?_) rfl (by kernel_rfl) (by kernel_rfl) (by kernel_rfl) (fun _ _ _ h => h) (by rfl) ?_ hHeld ?_; rotate_left; (· (intro wS hSw; (try dsimp only at hSw); go_simp; first | done | with_reducible rfl)); simp only [Act.put, List.setIfInBounds_toArray, List.set_cons_zero, List.set_cons_succ]); (refine take_op (i := 1) (v := ?_) rfl (by kernel_rfl) (by kernel_rfl) (by kernel_rfl) (fun _ _ _ h => h) (by rfl) ?_ hHeld ?_; rotate_left; (· (intro wS hSw; (try dsimp only at hSw); go_simp; first | done | with_reducible rfl)); simp only [Act.put, List.setIfInBounds_toArray, List.set_cons_zero, List.set_cons_succ]); (refine take_op (i := 2) (v := ?_) rfl (by kernel_rfl) (by kernel_rfl) (by kernel_rfl) (fun _ _ _ h => h) (by rfl) ?_ hHeld ?_; rotate_left; (· (intro wS hSw; (try dsimp only at hSw); go_simp; first | done | with_reducible rfl)); simp only [Act.put, List.setIfInBounds_toArray, List.set_cons_zero, List.set_cons_succ]); (refine take_op (i := 3) (v := ?_) rfl (by kernel_rfl) (by kernel_rfl) (by kernel_rfl) (fun _ _ _ h => h) (by rfl) ?_ hHeld ?_; rotate_left; (· (intro wS hSw; (try dsimp only at hSw); go_simp; first | done | with_reducible rfl)); simp only [Act.put, List.setIfInBounds_toArray, List.set_cons_zero, List.set_cons_succ]); (refine take_op (i := 4) (v := ?_) rfl (by kernel_rfl) (by kernel_rfl) (by kernel_rfl) (fun _ _ _ h => h) (by rfl) ?_ hHeld ?_; rotate_left; (· (intro wS hSw; (try dsimp only at hSw); go_simp; first | done | with_reducible rfl)); simp only [Act.put, List.setIfInBounds_toArray, List.set_cons_zero, List.set_cons_succ]); (refine take_op (i := 5) (v := ?_) rfl (by kernel_rfl) (by kernel_rfl) (by kernel_rfl) (fun _ _ _ h => h) (by rfl) ?_ hHeld ?_; rotate_left; (· (intro wS hSw; (try dsimp only at hSw); go_simp; first | done | with_reducible rfl)); simp only [Act.put, List.setIfInBounds_toArray, List.set_cons_zero, List.set_cons_succ])
          revert he P h3 hp KT hHeld
          generalize World.drew _ = wd
          intro P h3 he hp KT hHeld
          obtain ⟨hy1, hy2, hy3⟩ := ins_fl P.D.asc hff e0 (.slice none 0 0) [] 0
          obtain ⟨w5, hrun, hm5, hg5⟩ := P.D.mp.store (t := (s, e0)) (by rw [List.length_map]; unfold maxLen; omega) hs hy1 hy2 hy3
          obtain ⟨es, cl, hmp⟩ := P.D.mp.is_map
          have P5 : Cl2 w5 (fun k => F k ∨ k = e0) g b (insBy GF.nm ⟨s, [], 0, e0, .slice none 0 0⟩ gs) room fuse down B1 B2 s := ⟨new_file P.D he hFe hff hg5 hm5, blk_map hmp hg5 P.b1, blk_map hmp hg5 P.b2⟩
          have h35 := blk_map hmp hg5 h3
          have hp5 := bytes_map hmp hg5 hp
          have KT5 := Lib.hid (KT.out.trans (Turn.of_grown (F := F) hg5 (fun k e => by injection e with e; rw [← e]; exact P.D.Fb)) (fun i hi => .inl hi))
          simp only at hrun
          clear hy1 hy2 hy3 hm5 hg5 hmp
          (refine call_op (i := 6) rfl (by kernel_rfl) (by rfl) (fun K hK => ?_); go_simp; skip; refine hK.out _ _ ⟨P5.D.hd.cell, P5.b1.cell, P5.b2.cell⟩ (fun hHeld2 => ?_); clear hK K hHeld; have hHeld := hHeld2; clear hHeld2; (try simp only [Act.put, List.setIfInBounds_toArray, List.set_cons_zero, List.set_cons_succ]))
          (refine wpAnyH_done (by kernel_rfl) ?_ _)
          clear hHeld hrun P h3 hp KT he
          have P := P5
          have h3 := h35
          have hp := hp5
          have KT := KT5
          clear P5 h35 hp5 KT5
          obtain ⟨f, hfd⟩ : ∃ f : GF, f = ⟨s, [], 0, e0, .slice none 0 0⟩ := ⟨_, rfl⟩
          have hef : e0 = f.e := by rw [hfd]
          have hfn : f.nm = s := by rw [hfd]
          have hby : f.by_.length ≤ 1073741824 := by rw [hfd]; simp
          have HU : Hid (∀ v2, (updBy GF.nm f.nm (fun _ => { f with by_ := f.by_ ++ p, v := v2 }) (insBy GF.nm f gs)).map GF.d = insBy Prod.fst (s, p, 0) l) := Lib.hid fun v2 => by
            rw [show updBy GF.nm f.nm = updBy GF.nm s by rw [hfn], upd_ins hff hfn (f' := { f with by_ := f.by_ ++ p, v := v2 }) hfn, insBy_map (nm' := Prod.fst) (d := GF.d) (fun _ => rfl), Hgs.out, hfd]
            rfl
          rw [← hfd] at P
          have hf : f ∈ insBy GF.nm f gs := mem_insBy.2 (.inl rfl)
          have HF : Hid (∀ k, (F k ∨ k = e0) → F k ∨ w.heap.size ≤ k) := Lib.hid fun k hk => hk.imp id fun e => by omega
          clear hfd hff hFe he0 HL HFu hnf
          subst hef
          obtain ⟨nm, by1, su, e, v1⟩ := f
          simp only at hf hfn hby HU
          subst hfn
          have hfa := P.D.fl _ hf
          obtain ⟨A1, c1, hv1, _, _⟩ := hfa.2.1.form
          simp only at hv1
          subst hv1
          have Hf := Lib.hid hf
          clear hf hfa
          go_upto_region 11 with fail
          replace P := P.keep (Below.refl _ _).drew
          replace h3 := Blk.keep h3 (Below.refl _ _).drew
          replace hp := Bytes.keep hp (Below.refl _ _).drew
          replace KT := Lib.hid (KT.out.trans (Turn.of_below (F := F) (Below.refl _ _).drew) (fun i hi => .inl hi))
          have hfa := P.D.fl _ Hf.out
          have eb := hfa.1
          simp only at eb
          have ec := eb.cell
          (refine wp_region_held_drew (S := (S1 B3 #[.slice A p.length c])) (by kernel_rfl) ?_ (fun hHeld => ?_); (· exact h3.cell))
          (refine take_op (i := 0) (v := ?_) rfl (by kernel_rfl) (by kernel_rfl) (by kernel_rfl) (fun _ _ _ h => h) (by rfl) ?_ hHeld ?_; rotate_left; (· (intro wS hSw; (try dsimp only at hSw); go_simp; first | done | with_reducible rfl)); simp only [Act.put, List.setIfInBounds_toArray, List.set_cons_zero, List.set_cons_succ]); (refine take_op (i := 1) (v := ?_) rfl (by kernel_rfl) (by kernel_rfl) (by kernel_rfl) (fun _ _ _ h => h) (by rfl) ?_ hHeld ?_; rotate_left; (· (intro wS hSw; (try dsimp only at hSw); go_simp; first | done | with_reducible rfl)); simp only [Act.put, List.setIfInBounds_toArray, List.set_cons_zero, List.set_cons_succ]); (refine take_op (i := 2) (v := ?_) rfl (by kernel_rfl) (by kernel_rfl) (by kernel_rfl) (fun _ _ _ h => h) (by rfl) ?_ hHeld ?_; rotate_left; (· (intro wS hSw; (try dsimp only at hSw); go_simp; first | done | with_reducible rfl)); simp only [Act.put, List.setIfInBounds_toArray, List.set_cons_zero, List.set_cons_succ]); (refine take_op (i := 3) (v := ?_) rfl (by kernel_rfl) (by kernel_rfl) (by kernel_rfl) (fun _ _ _ h => h) (by rfl) ?_ hHeld ?_; rotate_left; (· (intro wS hSw; (try dsimp only at hSw); go_simp; first | done | with_reducible rfl)); simp only [Act.put, List.setIfInBounds_toArray, List.set_cons_zero, List.set_cons_succ]); (refine take_op (i := 5) (v := ?_) rfl (by kernel_rfl) (by kernel_rfl) (by kernel_rfl) (fun _ _ _ h => h) (by rfl) ?_ hHeld ?_; rotate_left; (· (intro wS hSw; (try dsimp only at hSw); go_simp; first | done | with_reducible rfl)); simp only [Act.put, List.setIfInBounds_toArray, List.set_cons_zero, List.set_cons_succ])
          revert P h3 hp KT hfa eb ec hHeld
          generalize World.drew _ = wd
          intro P h3 hp KT hfa eb ec hHeld
          (refine call_op (i := 4) rfl (by kernel_rfl) (by rfl) (fun K hK => ?_); go_simp; skip; refine hK.out _ _ hHeld (fun hHeld2 => ?_); clear hK K hHeld; have hHeld := hHeld2; clear hHeld2; (try simp only [Act.put, List.setIfInBounds_toArray, List.set_cons_zero, List.set_cons_succ]))
          (refine call_op (i := 6) rfl (by kernel_rfl) (by rfl) (fun K hK => ?_); (refine wp_appW _ (.tmp 56) (.tmp 57) 60 rfl i0 _ Try.underlying60 hi hz0 hz1 hz2 rfl _ by1 rfl hfa.2.1 _ _ _ p rfl hp (by omega) ?_; intro v2 w1 hown2 hgrow2 hat2; obtain ⟨A2, cc2, hv2, _, _⟩ := hown2.form; rw [List.length_append] at hv2; subst hv2; have T1 := Turn.of_grown (F := fun i => some i = (Value.slice A1 by1.length c1).ownBlock) hgrow2 (fun k e => e.symm); have eb1 := T1.blk eb (fun e => hfa.row_ne eb (by decide) e.symm); have h31 := T1.blk h3 (fun e => hfa.row_ne h3 (by decide) e.symm); clear ec; have ec := eb1.cell; have ef := eb1.frozen); refine hK.out _ _ h31.cell (fun hHeld2 => ?_); clear hK K hHeld; have hHeld := hHeld2; clear hHeld2; (try simp only [Act.put, List.setIfInBounds_toArray, List.set_cons_zero, List.set_cons_succ]))
          have h32 := (Turn.setCell eb1 0 (.slice A2 (by1.length + p.length) cc2)).blk h31 (fun e2 => blk_ne h31 eb1 (by decide) e2)
          (refine take_op (i := 7) (v := ?_) rfl (by kernel_rfl) (by kernel_rfl) (by kernel_rfl) (fun _ _ _ h => h) (by rfl) ?_ hHeld ?_; rotate_left; (· (intro wS hSw; (try dsimp only at hSw); go_simp; first | done | with_reducible rfl)); simp only [Act.put, List.setIfInBounds_toArray, List.set_cons_zero, List.set_cons_succ]); (refine take_op (i := 8) (v := ?_) rfl (by kernel_rfl) (by kernel_rfl) (by kernel_rfl) (fun _ _ _ h => h) (by rfl) ?_ hHeld ?_; rotate_left; (· (intro wS hSw; (try dsimp only at hSw); go_simp; first | done | with_reducible rfl)); simp only [Act.put, List.setIfInBounds_toArray, List.set_cons_zero, List.set_cons_succ])
          (refine call_op (i := 9) rfl (by kernel_rfl) (by rfl) (fun K hK => ?_); go_simp; skip; refine hK.out _ _ h32.cell (fun hHeld2 => ?_); clear hK K hHeld; have hHeld := hHeld2; clear hHeld2; (try simp only [Act.put, List.setIfInBounds_toArray, List.set_cons_zero, List.set_cons_succ]))
          (refine wpAnyH_done (by kernel_rfl) ?_ _)
          obtain ⟨F2, g1, g2, g3⟩ := app_file P.D Hf.out hown2 hgrow2 hat2
          have G1 := Lib.hid g1
          have G2 := Lib.hid (KT.out.trans g3 (fun i hi => HF.out i hi))
          have G3 := Lib.hid g2
          have HZ := Lib.hid KT.out.size
          clear hHeld g1 g2 g3 hown2 hgrow2 hat2 T1 h31 h32 eb1 ec ef hfa eb h3 hp
          go_wp2_with fail
          go_ret
          exact ⟨rfl, F2, ⟨⟨_, G1.out, HU.out _⟩, Hok.out⟩, fun k hk => (G3.out k hk).elim (fun h => HF.out k h) (fun h => .inr (Nat.le_trans HZ.out h)), G2.out⟩
  · have hn' : isNm s = false := by simpa using hn
    rw [hn'] at hin
    obtain rfl : R = (1, l) := by rw [← HR.out]; simp [appC, hn']
    go_wp2_with (go_at_call 77; (with_reducible refine (hin _).mono ?_); rintro e w2 ⟨rfl, hb2⟩; replace P := P.keep hb2; replace KT := Lib.hid (KT.out.trans (Turn.of_below (F := F) hb2) (fun i hi => .inl hi)))
    go_ret
    exact ⟨rfl, F, ⟨⟨gs, P.D, Hgs.out⟩, Hok.out⟩, fun i hi => .inl hi, KT.out⟩
end Go.Proofs.Ytpdfbkkhmfnnjaa
