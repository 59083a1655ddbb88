/- The walk of msg.Put. The walk of msg.Take: the message of any bytes. The walk of stonecroplaw10.awake. -/
import Derived.Test.YtlolnakeancenaaDoorMsgFramesQ41
import Derived.Test.YtlolnakeancenaaDoorMsgFramesQ19
import Derived.Test.YtlolnakeancenaaDoorMsgFramesQ39
import Derived.WalkKit
import Derived.WalkSpells
import Derived.WalkLawsBesides
import Derived.Deep.RegionHeld3
import Derived.Deep.DrawnRows
import Derived.Deep.DeepCutAuto
import Derived.Deep.DeepFit
import Derived.Lib.Hide
import Derived.BigQuiet
import Derived.Deep.QuietTactic
namespace Go.Proofs.YtlolnakeancenaaDoor
open Go.RowKit
set_option linter.unusedVariables false
set_option linter.unusedSimpArgs false
set_option maxRecDepth 20000
attribute [local go_sem ↓] Go.wp_at_zero Go.wp_at_succ
attribute [local go_sem] World.cell?_alloc_some frozen_alloc_some
attribute [local go_sem ↓ high] loadVar_msg storeVar_msg msg_store_new

/-- The bytes of a message's new form, and the error's number. -/
def putL (M : MsgT) : List Nat := if mok M = true then (if perr (ltree (mparts M)) = 0 then mframe 2 (pform (ltree (mparts M))) else []) else []
def putE (M : MsgT) : Nat := if mok M = true then perr (ltree (mparts M)) else 4
set_option maxHeartbeats 4000000 in
theorem put10_any (M : MsgT) (w : World) (hK : KindsAt w) (ha : M.Ok w) (hT : Tabs w) (hy : M.cy.size ≤ 60000) :
  Calls Tryd.prog 17 #[M.v] w (Puts w .i64 5 (putL M) (putE M)) := by
 have hck := fun W (h : Below w.heap.size w W) => check10_any M W (hK.keep h) (ha.keep h) (hT.keep h)
 cases hm : mok M
 case false =>
  have e1 : putL M = [] := by unfold putL; rw [hm]; rfl
  have e2 : putE M = 4 := by unfold putE; rw [hm]; rfl
  rw [e1, e2]
  rw [hm] at hck
  clear e1 e2 hm hK ha hT hy
  obtain ⟨k, i, n, br, bb, tr, tb, st, ck, cc, cq, cy, cx, cr, A, m, cap, sq, tg, ver, l⟩ := M
  simp only [MsgT.v] at hck ⊢
  have Hck := Lib.hid hck
  clear hck
  have X : Blk (w.alloc (.cells #[.int .i64 k, .int .i64 i, .int .i64 n, .int .i64 br, .int .i64 bb, .int .i64 tr, .int .i64 tb, .int .i64 st, .int .i64 ck, .int .i64 cc, .int .i64 cq, .string cy, .string cx, .int .i64 cr, .slice A m cap, .int .i64 sq, .int .i64 tg, .int .i64 ver] 50)) w.heap.size 50 #[.int .i64 k, .int .i64 i, .int .i64 n, .int .i64 br, .int .i64 bb, .int .i64 tr, .int .i64 tb, .int .i64 st, .int .i64 ck, .int .i64 cc, .int .i64 cq, .string cy, .string cx, .int .i64 cr, .slice A m cap, .int .i64 sq, .int .i64 tg, .int .i64 ver] := Blk.new w _ _
  have kk : Below w.heap.size w (w.alloc (.cells #[.int .i64 k, .int .i64 i, .int .i64 n, .int .i64 br, .int .i64 bb, .int .i64 tr, .int .i64 tb, .int .i64 st, .int .i64 ck, .int .i64 cc, .int .i64 cq, .string cy, .string cx, .int .i64 cr, .slice A m cap, .int .i64 sq, .int .i64 tg, .int .i64 ver] 50)) := below_one _
  have l1 := msg_load X
  clear X
  go_enter Tryd.func17, Tryd.ntmps17
  go_wp2_with (go_at_call 25; (with_reducible refine (Hck.out _ kk).mono ?_); rintro e w1 ⟨rfl, hb1⟩; replace kk := below_call kk hb1 kk.size; clear hb1)
  refine bodyPost_ret (v := .tuple #[.slice none 0 0, .int .i64 4]) (by simp [results, Tryd.results17, go_sem, *] <;> rfl) rfl ?_
  exact ⟨_, rfl, OwnB.nil_ _ _ _, kk⟩
 have hz := mparts_size hm
 have hln := mok_len hm
 have hit := fun W (h : Below w.heap.size w W) => item10_any M W (mok_parts hm).1 (mok_cmd hm) (by rw [ha.l.1]; omega) (hK.keep h) (ha.keep h)
 have hfr : ∀ v W, Holds W (ltree (mparts M)) v → Calls Tryd.prog 10 #[.int .u8 2, v] W (Puts W .i64 5 (if perr (ltree (mparts M)) = 0 then mframe 2 (pform (ltree (mparts M))) else []) (perr (ltree (mparts M)))) := fun v W h => frame_any 2 (by decide) (ltree (mparts M)) v W (by omega) h
 have e1 : putL M = if perr (ltree (mparts M)) = 0 then mframe 2 (pform (ltree (mparts M))) else [] := if_pos hm
 have e2 : putE M = perr (ltree (mparts M)) := if_pos hm
 rw [← e1, ← e2] at hfr
 rw [hm] at hck
 clear hz hln e1 e2 hm hK ha hT hy
 generalize putL M = L at *
 generalize putE M = E at *
 generalize ltree (mparts M) = T at *
 obtain ⟨k, i, n, br, bb, tr, tb, st, ck, cc, cq, cy, cx, cr, A, m, cap, sq, tg, ver, l⟩ := M
 simp only [MsgT.v] at hck hit ⊢
 have Hck := Lib.hid hck
 have Hit := Lib.hid hit
 have Hfr := Lib.hid hfr
 clear hck hit hfr
 have X : Blk (w.alloc (.cells #[.int .i64 k, .int .i64 i, .int .i64 n, .int .i64 br, .int .i64 bb, .int .i64 tr, .int .i64 tb, .int .i64 st, .int .i64 ck, .int .i64 cc, .int .i64 cq, .string cy, .string cx, .int .i64 cr, .slice A m cap, .int .i64 sq, .int .i64 tg, .int .i64 ver] 50)) w.heap.size 50 #[.int .i64 k, .int .i64 i, .int .i64 n, .int .i64 br, .int .i64 bb, .int .i64 tr, .int .i64 tb, .int .i64 st, .int .i64 ck, .int .i64 cc, .int .i64 cq, .string cy, .string cx, .int .i64 cr, .slice A m cap, .int .i64 sq, .int .i64 tg, .int .i64 ver] := Blk.new w _ _
 have kk : Below w.heap.size w (w.alloc (.cells #[.int .i64 k, .int .i64 i, .int .i64 n, .int .i64 br, .int .i64 bb, .int .i64 tr, .int .i64 tb, .int .i64 st, .int .i64 ck, .int .i64 cc, .int .i64 cq, .string cy, .string cx, .int .i64 cr, .slice A m cap, .int .i64 sq, .int .i64 tg, .int .i64 ver] 50)) := below_one _
 have l1 := msg_load X
 go_enter Tryd.func17, Tryd.ntmps17
 go_wp2_with (first
  | (go_at_call 25; (with_reducible refine (Hck.out _ kk).mono ?_); rintro e w1 ⟨rfl, hb1⟩; replace kk := below_call kk hb1 kk.size; have l2 := msg_load (X.keep hb1); clear hb1 l1 X)
  | (go_at_call 35; (with_reducible refine (Hit.out _ kk).mono ?_); rintro e w2 ⟨A2, m2, c2, rfl, hin, hb2⟩; replace kk := below_call kk hb2 kk.size; have hh := hin.holds; clear hb2 l2 hin)
  | (go_at_call 10; (with_reducible refine (Hfr.out _ _ hh).mono ?_); rintro e w3 ⟨v3, rfl, own3, hb3⟩; have kz := kk.size; replace kk := below_call kk hb3 kk.size; clear hb3))
 refine bodyPost_ret (v := .tuple #[v3, .int .i64 (E : Int)]) (by simp [results, Tryd.results17, go_sem, *] <;> rfl) rfl ?_
 exact ⟨_, rfl, own3.lower kz, kk⟩
end Go.Proofs.YtlolnakeancenaaDoor

namespace Go.Proofs.YtlolnakeancenaaDoor
open Go.RowKit
set_option linter.unusedVariables false
set_option linter.unusedSimpArgs false
set_option maxRecDepth 20000
attribute [local go_sem ↓] Go.wp_at_zero Go.wp_at_succ
attribute [local go_sem] World.cell?_alloc_some frozen_alloc_some
attribute [local go_sem ↓ high] loadVar_msg storeVar_msg msg_store_new

def tkids : Tree → List Tree | .mk _ _ _ l => l
noncomputable def mtakeT (t : Tree) (e : Nat) : MsgT × Nat := if e ≠ 0 then (mzero 0, e) else if mok (mread (tkids t)) = true ∧ tsame t (ltree (mparts (mread (tkids t)))) = true then (mread (tkids t), 0) else (mzero 0, 4)
noncomputable def mtake (L : List Nat) : MsgT × Nat := mtakeT (mopen 2 L).1 (mopen 2 L).2
/-- A message that was taken, and the error's number. -/
def Takes (w : World) (x : MsgT × Nat) (r : Ending) (w' : World) : Prop :=
 ∃ A c, r = .returned (.tuple #[(x.1.at A x.1.l.length c).v, .int .i64 (x.2 : Int)]) ∧ IdsAt w' A x.1.l.length x.1.l ∧ x.1.l.length ≤ c ∧ (∀ ad, A = some ad → w.heap.size ≤ ad.block) ∧ Below w.heap.size w w'
theorem results_msg2 {fn : Func} {p q : Tmp} {tmps : Array Value} {w : World} {g : Nat} {e : Int} {d0 d1 d2 d3 d4 d5 d6 d7 d8 d9 d10 d11 d12 d13 d14 d15 d16 d17 : Value} (h : fn.results = #[.cell p 50, .tmp q]) (hp : tmps.getD p undef = .pointer (some ⟨g, 0, none⟩)) (hq : tmps.getD q undef = .int .i64 e)
  (hb : Blk w g 50 #[d0, d1, d2, d3, d4, d5, d6, d7, d8, d9, d10, d11, d12, d13, d14, d15, d16, d17]) : (results fn tmps).run Tryd.prog w = .ok (.tuple #[.agg #[d0, d1, d2, d3, d4, d5, d6, d7, d8, d9, d10, d11, d12, d13, d14, d15, d16, d17], .int .i64 e]) w := by
 have hl := msg_load hb
 rw [results_cell_tmp h, hp, hq]
 show ((loadMsg ⟨g, 0, none⟩).run Tryd.prog w).andThen _ = _
 rw [hl]
 rfl

/-- What the walk of msg.Take keeps: the zero message at g2, the item at g4. -/
structure TkM (w : World) (g4 : Nat) (t : Tree) (v : Value) (W : World) : Prop where
 kk : Below w.heap.size w W
 X : Blk W w.heap.size 50 #[.int .i64 0, .int .i64 0, .int .i64 0, .int .i64 0, .int .i64 0, .int .i64 0, .int .i64 0, .int .i64 0, .int .i64 0, .int .i64 0, .int .i64 0, .string ⟨#[]⟩, .string ⟨#[]⟩, .int .i64 0, .slice none 0 0, .int .i64 0, .int .i64 0, .int .i64 0]
 I : Blk W g4 25 v.cells
 h : Holds W t v
 ne : w.heap.size < g4
theorem TkM.keep {w W w1 : World} {g4 : Nat} {t : Tree} {v : Value} (S : TkM w g4 t v W) (hb : Below W.heap.size W w1) : TkM w g4 t v w1 :=
 ⟨below_call S.kk hb S.kk.size, S.X.keep hb, S.I.keep hb, S.h.keep hb, S.ne⟩
set_option maxHeartbeats 8000000 in
theorem take10_any (A : Option Addr) (m cap : Nat) (L : List Nat) (w : World) (hb : Bytes w A m L) (hnc : m ≤ cap) (hcm : cap ≤ maxLen) (hK : KindsAt w) (hT : Tabs w) :
  Calls Tryd.prog 19 #[.slice A m cap] w (Takes w (mtake L)) := by
 have hop : ∀ W, Below w.heap.size w W → Calls Tryd.prog 12 #[.int .u8 2, .slice A m cap] W (Opens W (mopen 2 L)) := fun W h => open_any 2 (by decide) A m cap L W (hb.keep h) hnc hcm
 unfold mtake
 generalize mopen 2 L = x at *
 obtain ⟨t, e⟩ := x
 dsimp only at hop ⊢
 clear hb hnc hcm
 have X0 := Blk.new w 50 #[.int .i64 0, .int .i64 0, .int .i64 0, .int .i64 0, .int .i64 0, .int .i64 0, .int .i64 0, .int .i64 0, .int .i64 0, .int .i64 0, .int .i64 0, .string ⟨#[]⟩, .string ⟨#[]⟩, .int .i64 0, .slice none 0 0, .int .i64 0, .int .i64 0, .int .i64 0]
 have k0 := below_one (w := w) (.cells #[.int .i64 0, .int .i64 0, .int .i64 0, .int .i64 0, .int .i64 0, .int .i64 0, .int .i64 0, .int .i64 0, .int .i64 0, .int .i64 0, .int .i64 0, .string ⟨#[]⟩, .string ⟨#[]⟩, .int .i64 0, .slice none 0 0, .int .i64 0, .int .i64 0, .int .i64 0] 50)
 have Hop := Lib.hid hop
 clear hop
 obtain ⟨R0, hR0⟩ : ∃ R0, mtakeT t e = R0 := ⟨_, rfl⟩
 rw [hR0]
 unfold mtakeT at hR0
 by_cases he : e = 0
 case neg =>
  rw [if_pos he] at hR0
  subst hR0
  have he' : ((e : Int) != 0) = true := by simp; omega
  clear hK hT
  go_enter Tryd.func19, Tryd.ntmps19
  go_upto_region 2 with (go_at_call 12; (with_reducible refine (Hop.out _ k0).mono ?_); rintro r w1 ⟨v, rfl, hin, hb1⟩; have X1 := X0.keep hb1; have k1 := below_call k0 hb1 k0.size; obtain ⟨k4, n4, s4, A4, m4, c4, rfl⟩ := hin.form)
  have X2 := X1.alloc (.cells #[.int .i64 k4, .int .u64 n4, .string s4, .slice A4 m4 c4] 25)
  have k2 := k1.alloc k1.size (.cells #[.int .i64 k4, .int .u64 n4, .string s4, .slice A4 m4 c4] 25)
  clear hin hb1 X0 k0 X1 k1 Hop
  revert X2 k2
  generalize World.alloc w1 _ = W
  intro X2 k2
  have l2 := msg_store X2 rfl
  go_wp2_with fail
  refine bodyPost_ret (results_msg2 rfl rfl rfl (X2.msgSet rfl)) rfl ?_
  exact ⟨none, 0, rfl, IdsAt.nil, Nat.le_refl _, (fun _ h => by cases h), below_msgSet k2 (Nat.le_refl _) _⟩
 subst he
 rw [if_neg (by simp)] at hR0
 have HK := Lib.hid hK
 have HT := Lib.hid hT
 clear hK hT
 have HR0 := Lib.hid hR0
 clear hR0
 obtain ⟨k4, n4, s4, l4⟩ := t
 go_enter Tryd.func19, Tryd.ntmps19
 go_upto_region 2 with (go_at_call 12; (with_reducible refine (Hop.out _ k0).mono ?_); rintro r w1 ⟨v, rfl, hin, hb1⟩; have X1 := X0.keep hb1; have k1 := below_call k0 hb1 k0.size; have z1 := hb1.size; have hh := hin.holds; obtain ⟨A4, m4, c4, rfl, -, -, -, hm4, -, -, -⟩ := hh.open_; subst hm4)
 have S0 : TkM w w1.heap.size (.mk k4 n4 s4 l4) (.agg #[.int .i64 k4, .int .u64 (n4 : Int), .string s4, .slice A4 l4.length c4]) (w1.alloc (.cells #[.int .i64 k4, .int .u64 (n4 : Int), .string s4, .slice A4 l4.length c4] 25)) :=
  ⟨k1.alloc k1.size _, X1.alloc _, Blk.new w1 _ _, hh.keep (below_one _), by simp at z1; omega⟩
 clear hin hb1 X0 k0 X1 k1 Hop hh z1
 revert S0
 generalize World.alloc w1 _ = W
 generalize w1.heap.size = g4
 intro S
 have cI := S.I.cell
 simp only [Value.cells] at cI
 have hrd := fun (W : World) (kk : Below w.heap.size w W) (h : Items W A4 l4.length c4 l4) => read10_any A4 c4 l4 W h (HK.out.keep kk) (HT.out.keep kk)
 have hmo := fun (W w' : World) (A : Option Addr) (c : Nat) (h : Items W A4 l4.length c4 l4) (hI : IdsAt w' A (mread l4).l.length (mread l4).l) (hc : (mread l4).l.length ≤ c) => mread_ok h hI hc
 have hr0 : (if mok (mread l4) = true ∧ tsame (Tree.mk k4 n4 s4 l4) (ltree (mparts (mread l4))) = true then (mread l4, 0) else (mzero 0, 4)) = R0 := HR0.out
 clear HR0
 obtain ⟨R, hR⟩ : ∃ R, mread l4 = R := ⟨_, rfl⟩
 rw [hR] at hrd hr0
 simp only [hR] at hmo
 have HRD := Lib.hid hrd
 have HMO := Lib.hid hmo
 have HR0 := Lib.hid hr0
 clear hrd hmo hr0 hR
 go_upto_region 5 with (go_at_call 36; (with_reducible refine (HRD.out _ S.kk S.h.items).mono ?_); rintro e w2 ⟨A6, c6, rfl, hI6, hc6, hA6, hb6⟩; have S2 := S.keep hb6; have hne6 : ∀ ad, A6 = some ad → w.heap.size < ad.block := (fun ad e => by have h1 := hA6 ad e; have h2 := S.X.lt; omega); clear hA6; have ok6 := HMO.out _ _ _ _ S.h.items hI6 hc6; simp only [MsgT.v, MsgT.at])
 have X6 := Blk.new w2 50 #[.int .i64 R.k, .int .i64 R.i, .int .i64 R.n, .int .i64 R.br, .int .i64 R.bb, .int .i64 R.tr, .int .i64 R.tb, .int .i64 R.st, .int .i64 R.ck, .int .i64 R.cc, .int .i64 R.cq, .string R.cy, .string R.cx, .int .i64 R.cr, .slice A6 R.l.length c6, .int .i64 R.sq, .int .i64 R.tg, .int .i64 R.ver]
 have hba := below_one (w := w2) (.cells #[.int .i64 R.k, .int .i64 R.i, .int .i64 R.n, .int .i64 R.br, .int .i64 R.bb, .int .i64 R.tr, .int .i64 R.tb, .int .i64 R.st, .int .i64 R.ck, .int .i64 R.cc, .int .i64 R.cq, .string R.cy, .string R.cx, .int .i64 R.cr, .slice A6 R.l.length c6, .int .i64 R.sq, .int .i64 R.tg, .int .i64 R.ver] 50)
 have n6 := S2.X.lt
 have S3 := S2.keep hba
 replace ok6 := ok6.keep hba
 clear hba S2 S cI hI6 hb6 HRD HMO
 revert X6 S3 ok6 n6
 generalize World.alloc w2 _ = W3
 generalize w2.heap.size = g6
 intro X6 n6 S3 ok6
 have hck := fun W (h : Below W3.heap.size W3 W) => check10_any (R.at A6 R.l.length c6) W (HK.out.keep (below_call S3.kk h S3.kk.size)) (ok6.keep h) (HT.out.keep (below_call S3.kk h S3.kk.size))
 rw [mok_at] at hck
 simp only [MsgT.v, MsgT.at] at hck
 have kw := Below.refl W3.heap.size W3
 cases hm : mok R
 case false =>
  rw [hm] at hck
  have Hck := Lib.hid hck
  have hr0 := HR0.out
  rw [if_neg (by rw [hm]; simp)] at hr0
  subst hr0
  clear hck HR0 HK HT ok6 hm
  replace X6 := blk_drewp X6
  replace S3 := S3.keep (Below.refl _ _).drew
  replace kw := kw.drew
  (refine wp_region_held_drew (S := (fun wx => SM g6 #[.int .i64 R.k, .int .i64 R.i, .int .i64 R.n, .int .i64 R.br, .int .i64 R.bb, .int .i64 R.tr, .int .i64 R.tb, .int .i64 R.st, .int .i64 R.ck, .int .i64 R.cc, .int .i64 R.cq, .string R.cy, .string R.cx, .int .i64 R.cr, .slice A6 R.l.length c6, .int .i64 R.sq, .int .i64 R.tg, .int .i64 R.ver] wx ∧ ∀ i, wx.cell? ⟨g4, i, none⟩ = #[.int .i64 k4, .int .u64 (n4 : Int), .string s4, .slice A4 l4.length c4][i]?)) (by kernel_rfl) ?_ (fun hHeld => ?_); (· exact ⟨X6.sm, S3.I.cell⟩))
  revert hHeld X6 S3 kw
  generalize World.drew _ = wd
  intro X6 S3 kw hHeld
  (refine take_op (i := 0) (v := ?_) rfl (by kernel_rfl) (by kernel_rfl) (by kernel_rfl) (fun _ _ _ h => h) (by rfl) ?_ hHeld ?_; rotate_left; (· (intro wS hSw; (try dsimp only at hSw); go_simp; first | done | with_reducible rfl)); simp only [Act.put, sta_, scz_, scs_])
  (refine call_op (i := 1) rfl (by kernel_rfl) (by rfl) (fun K hK => ?_); go_simp; (go_at_call 25; (with_reducible refine (Hck.out _ kw).mono ?_); rintro e w3 ⟨rfl, hb⟩; replace S3 := S3.keep hb; replace X6 := X6.keep hb; replace kw := below_call kw hb kw.size; clear hb); refine hK.out _ _ ⟨X6.sm, S3.I.cell⟩ (fun hHeld2 => ?_); clear hK K hHeld; have hHeld := hHeld2; clear hHeld2; (try simp only [Act.put, sta_, scz_, scs_]))
  (refine take_op (i := 2) (v := ?_) rfl (by kernel_rfl) (by kernel_rfl) (by kernel_rfl) (fun _ _ _ h => h) (by rfl) ?_ hHeld ?_; rotate_left; (· (intro wS hSw; (try dsimp only at hSw); go_simp; first | done | with_reducible rfl)); simp only [Act.put, sta_, scz_, scs_]); (refine take_op (i := 3) (v := ?_) rfl (by kernel_rfl) (by kernel_rfl) (by kernel_rfl) (fun _ _ _ h => h) (by rfl) ?_ hHeld ?_; rotate_left; (· (intro wS hSw; (try dsimp only at hSw); go_simp; first | done | with_reducible rfl)); simp only [Act.put, sta_, scz_, scs_])
  (refine skip_op (i := 4) rfl (by kernel_rfl) (by kernel_rfl) (by kernel_rfl) (fun _ _ _ h => h) (by rfl) hHeld ?_; simp only [Act.put, sta_, scz_, scs_]); (refine skip_op (i := 5) rfl (by kernel_rfl) (by kernel_rfl) (by kernel_rfl) (fun _ _ _ h => h) (by rfl) hHeld ?_; simp only [Act.put, sta_, scz_, scs_]); (refine skip_op (i := 6) rfl (by kernel_rfl) (by kernel_rfl) (by kernel_rfl) (fun _ _ _ h => h) (by rfl) hHeld ?_; simp only [Act.put, sta_, scz_, scs_]); (refine skip_op (i := 7) rfl (by kernel_rfl) (by kernel_rfl) (by kernel_rfl) (fun _ _ _ h => h) (by rfl) hHeld ?_; simp only [Act.put, sta_, scz_, scs_]); (refine skip_op (i := 8) rfl (by kernel_rfl) (by kernel_rfl) (by kernel_rfl) (fun _ _ _ h => h) (by rfl) hHeld ?_; simp only [Act.put, sta_, scz_, scs_])
  (refine take_op (i := 9) (v := ?_) rfl (by kernel_rfl) (by kernel_rfl) (by kernel_rfl) (fun _ _ _ h => h) (by rfl) ?_ hHeld ?_; rotate_left; (· (intro wS hSw; (try dsimp only at hSw); go_simp; first | done | with_reducible rfl)); simp only [Act.put, sta_, scz_, scs_])
  (refine wpAnyH_done (by kernel_rfl) ?_ _)
  clear hHeld
  have X2 := S3.X
  have k2 := S3.kk
  have l2 := msg_store X2 rfl
  go_wp2_with fail
  refine bodyPost_ret (results_msg2 rfl rfl rfl (X2.msgSet rfl)) rfl ?_
  exact ⟨none, 0, rfl, IdsAt.nil, Nat.le_refl _, (fun _ h => by cases h), below_msgSet k2 (Nat.le_refl _) _⟩
 rw [hm] at hck
 have hit := fun W (h : Below W3.heap.size W3 W) => item10_any (R.at A6 R.l.length c6) W (mok_parts hm).1 (mok_cmd hm) (by have := mok_len hm; show R.l.length ≤ 1000000; omega) (HK.out.keep (below_call S3.kk h S3.kk.size)) (ok6.keep h)
 rw [mparts_at] at hit
 simp only [MsgT.v, MsgT.at] at hit
 have hsm := fun W v (h : Holds W (Tree.mk k4 n4 s4 l4) (.agg #[.int .i64 k4, .int .u64 (n4 : Int), .string s4, .slice A4 l4.length c4])) (h2 : Holds W (ltree (mparts R)) v) => codecsame_any (Tree.mk k4 n4 s4 l4) (ltree (mparts R)) _ _ W h h2
 have hids := ok6.l
 have hcl := ok6.m
 have hr0 := HR0.out
 rw [hm] at hr0
 have Hck := Lib.hid hck
 have Hit := Lib.hid hit
 have Hsm := Lib.hid hsm
 clear hck hit hsm HR0 HK HT ok6
 cases hs : tsame (Tree.mk k4 n4 s4 l4) (ltree (mparts R))
 case false =>
  rw [hs] at Hsm hr0
  rw [if_neg (by simp)] at hr0
  subst hr0
  clear hm hs hids
  replace X6 := blk_drewp X6
  replace S3 := S3.keep (Below.refl _ _).drew
  replace kw := kw.drew
  (refine wp_region_held_drew (S := (fun wx => SM g6 #[.int .i64 R.k, .int .i64 R.i, .int .i64 R.n, .int .i64 R.br, .int .i64 R.bb, .int .i64 R.tr, .int .i64 R.tb, .int .i64 R.st, .int .i64 R.ck, .int .i64 R.cc, .int .i64 R.cq, .string R.cy, .string R.cx, .int .i64 R.cr, .slice A6 R.l.length c6, .int .i64 R.sq, .int .i64 R.tg, .int .i64 R.ver] wx ∧ ∀ i, wx.cell? ⟨g4, i, none⟩ = #[.int .i64 k4, .int .u64 (n4 : Int), .string s4, .slice A4 l4.length c4][i]?)) (by kernel_rfl) ?_ (fun hHeld => ?_); (· exact ⟨X6.sm, S3.I.cell⟩))
  revert hHeld X6 S3 kw
  generalize World.drew _ = wd
  intro X6 S3 kw hHeld
  (refine take_op (i := 0) (v := ?_) rfl (by kernel_rfl) (by kernel_rfl) (by kernel_rfl) (fun _ _ _ h => h) (by rfl) ?_ hHeld ?_; rotate_left; (· (intro wS hSw; (try dsimp only at hSw); go_simp; first | done | with_reducible rfl)); simp only [Act.put, sta_, scz_, scs_])
  (refine call_op (i := 1) rfl (by kernel_rfl) (by rfl) (fun K hK => ?_); go_simp; (go_at_call 25; (with_reducible refine (Hck.out _ kw).mono ?_); rintro e w3 ⟨rfl, hb⟩; replace S3 := S3.keep hb; replace X6 := X6.keep hb; replace kw := below_call kw hb kw.size; clear hb); refine hK.out _ _ ⟨X6.sm, S3.I.cell⟩ (fun hHeld2 => ?_); clear hK K hHeld; have hHeld := hHeld2; clear hHeld2; (try simp only [Act.put, sta_, scz_, scs_]))
  (refine take_op (i := 2) (v := ?_) rfl (by kernel_rfl) (by kernel_rfl) (by kernel_rfl) (fun _ _ _ h => h) (by rfl) ?_ hHeld ?_; rotate_left; (· (intro wS hSw; (try dsimp only at hSw); go_simp; first | done | with_reducible rfl)); simp only [Act.put, sta_, scz_, scs_]); (refine take_op (i := 3) (v := ?_) rfl (by kernel_rfl) (by kernel_rfl) (by kernel_rfl) (fun _ _ _ h => h) (by rfl) ?_ hHeld ?_; rotate_left; (· (intro wS hSw; (try dsimp only at hSw); go_simp; first | done | with_reducible rfl)); simp only [Act.put, sta_, scz_, scs_]); (refine take_op (i := 4) (v := ?_) rfl (by kernel_rfl) (by kernel_rfl) (by kernel_rfl) (fun _ _ _ h => h) (by rfl) ?_ hHeld ?_; rotate_left; (· (intro wS hSw; (try dsimp only at hSw); go_simp; first | done | with_reducible rfl)); simp only [Act.put, sta_, scz_, scs_]); (refine take_op (i := 5) (v := ?_) rfl (by kernel_rfl) (by kernel_rfl) (by kernel_rfl) (fun _ _ _ h => h) (by rfl) ?_ hHeld ?_; rotate_left; (· (intro wS hSw; (try dsimp only at hSw); go_simp; first | done | with_reducible rfl)); simp only [Act.put, sta_, scz_, scs_])
  (refine call_op (i := 6) rfl (by kernel_rfl) (by rfl) (fun K hK => ?_); go_simp; (go_at_call 35; (with_reducible refine (Hit.out _ kw).mono ?_); rintro e w4 ⟨A7, m7, c7, rfl, hin, hb⟩; replace S3 := S3.keep hb; replace X6 := X6.keep hb; replace kw := below_call kw hb kw.size; have hh7 := hin.holds; clear hin; clear hb); refine hK.out _ _ ⟨X6.sm, S3.I.cell⟩ (fun hHeld2 => ?_); clear hK K hHeld; have hHeld := hHeld2; clear hHeld2; (try simp only [Act.put, sta_, scz_, scs_]))
  (refine call_op (i := 7) rfl (by kernel_rfl) (by rfl) (fun K hK => ?_); go_simp; (go_at_call 15; (with_reducible refine (Hsm.out _ _ S3.h hh7).mono ?_); rintro e w5 ⟨rfl, hb⟩; replace S3 := S3.keep hb; replace X6 := X6.keep hb; replace kw := below_call kw hb kw.size; clear hb); refine hK.out _ _ ⟨X6.sm, S3.I.cell⟩ (fun hHeld2 => ?_); clear hK K hHeld; have hHeld := hHeld2; clear hHeld2; (try simp only [Act.put, sta_, scz_, scs_]))
  (refine take_op (i := 8) (v := ?_) rfl (by kernel_rfl) (by kernel_rfl) (by kernel_rfl) (fun _ _ _ h => h) (by rfl) ?_ hHeld ?_; rotate_left; (· (intro wS hSw; (try dsimp only at hSw); go_simp; first | done | with_reducible rfl)); simp only [Act.put, sta_, scz_, scs_]); (refine take_op (i := 9) (v := ?_) rfl (by kernel_rfl) (by kernel_rfl) (by kernel_rfl) (fun _ _ _ h => h) (by rfl) ?_ hHeld ?_; rotate_left; (· (intro wS hSw; (try dsimp only at hSw); go_simp; first | done | with_reducible rfl)); simp only [Act.put, sta_, scz_, scs_])
  (refine wpAnyH_done (by kernel_rfl) ?_ _)
  clear hHeld hh7
  have X2 := S3.X
  have k2 := S3.kk
  have l2 := msg_store X2 rfl
  go_wp2_with fail
  refine bodyPost_ret (results_msg2 rfl rfl rfl (X2.msgSet rfl)) rfl ?_
  exact ⟨none, 0, rfl, IdsAt.nil, Nat.le_refl _, (fun _ h => by cases h), below_msgSet k2 (Nat.le_refl _) _⟩
 rw [hs] at Hsm hr0
 rw [if_pos ⟨rfl, rfl⟩] at hr0
 subst hr0
 clear hm hs
 have hidk : ∀ W, Below W3.heap.size W3 W → IdsAt W A6 R.l.length R.l := fun W h => hids.keep h
 have Hid := Lib.hid hidk
 clear hidk hids
 replace X6 := blk_drewp X6
 replace S3 := S3.keep (Below.refl _ _).drew
 replace kw := kw.drew
 (refine wp_region_held_drew (S := (fun wx => SM g6 #[.int .i64 R.k, .int .i64 R.i, .int .i64 R.n, .int .i64 R.br, .int .i64 R.bb, .int .i64 R.tr, .int .i64 R.tb, .int .i64 R.st, .int .i64 R.ck, .int .i64 R.cc, .int .i64 R.cq, .string R.cy, .string R.cx, .int .i64 R.cr, .slice A6 R.l.length c6, .int .i64 R.sq, .int .i64 R.tg, .int .i64 R.ver] wx ∧ ∀ i, wx.cell? ⟨g4, i, none⟩ = #[.int .i64 k4, .int .u64 (n4 : Int), .string s4, .slice A4 l4.length c4][i]?)) (by kernel_rfl) ?_ (fun hHeld => ?_); (· exact ⟨X6.sm, S3.I.cell⟩))
 revert hHeld X6 S3 kw
 generalize World.drew _ = wd
 intro X6 S3 kw hHeld
 (refine take_op (i := 0) (v := ?_) rfl (by kernel_rfl) (by kernel_rfl) (by kernel_rfl) (fun _ _ _ h => h) (by rfl) ?_ hHeld ?_; rotate_left; (· (intro wS hSw; (try dsimp only at hSw); go_simp; first | done | with_reducible rfl)); simp only [Act.put, sta_, scz_, scs_])
 (refine call_op (i := 1) rfl (by kernel_rfl) (by rfl) (fun K hK => ?_); go_simp; (go_at_call 25; (with_reducible refine (Hck.out _ kw).mono ?_); rintro e w3 ⟨rfl, hb⟩; replace S3 := S3.keep hb; replace X6 := X6.keep hb; replace kw := below_call kw hb kw.size; clear hb); refine hK.out _ _ ⟨X6.sm, S3.I.cell⟩ (fun hHeld2 => ?_); clear hK K hHeld; have hHeld := hHeld2; clear hHeld2; (try simp only [Act.put, sta_, scz_, scs_]))
 (refine take_op (i := 2) (v := ?_) rfl (by kernel_rfl) (by kernel_rfl) (by kernel_rfl) (fun _ _ _ h => h) (by rfl) ?_ hHeld ?_; rotate_left; (· (intro wS hSw; (try dsimp only at hSw); go_simp; first | done | with_reducible rfl)); simp only [Act.put, sta_, scz_, scs_]); (refine take_op (i := 3) (v := ?_) rfl (by kernel_rfl) (by kernel_rfl) (by kernel_rfl) (fun _ _ _ h => h) (by rfl) ?_ hHeld ?_; rotate_left; (· (intro wS hSw; (try dsimp only at hSw); go_simp; first | done | with_reducible rfl)); simp only [Act.put, sta_, scz_, scs_]); (refine take_op (i := 4) (v := ?_) rfl (by kernel_rfl) (by kernel_rfl) (by kernel_rfl) (fun _ _ _ h => h) (by rfl) ?_ hHeld ?_; rotate_left; (· (intro wS hSw; (try dsimp only at hSw); go_simp; first | done | with_reducible rfl)); simp only [Act.put, sta_, scz_, scs_]); (refine take_op (i := 5) (v := ?_) rfl (by kernel_rfl) (by kernel_rfl) (by kernel_rfl) (fun _ _ _ h => h) (by rfl) ?_ hHeld ?_; rotate_left; (· (intro wS hSw; (try dsimp only at hSw); go_simp; first | done | with_reducible rfl)); simp only [Act.put, sta_, scz_, scs_])
 (refine call_op (i := 6) rfl (by kernel_rfl) (by rfl) (fun K hK => ?_); go_simp; (go_at_call 35; (with_reducible refine (Hit.out _ kw).mono ?_); rintro e w4 ⟨A7, m7, c7, rfl, hin, hb⟩; replace S3 := S3.keep hb; replace X6 := X6.keep hb; replace kw := below_call kw hb kw.size; have hh7 := hin.holds; clear hin; clear hb); refine hK.out _ _ ⟨X6.sm, S3.I.cell⟩ (fun hHeld2 => ?_); clear hK K hHeld; have hHeld := hHeld2; clear hHeld2; (try simp only [Act.put, sta_, scz_, scs_]))
 (refine call_op (i := 7) rfl (by kernel_rfl) (by rfl) (fun K hK => ?_); go_simp; (go_at_call 15; (with_reducible refine (Hsm.out _ _ S3.h hh7).mono ?_); rintro e w5 ⟨rfl, hb⟩; replace S3 := S3.keep hb; replace X6 := X6.keep hb; replace kw := below_call kw hb kw.size; clear hb); refine hK.out _ _ ⟨X6.sm, S3.I.cell⟩ (fun hHeld2 => ?_); clear hK K hHeld; have hHeld := hHeld2; clear hHeld2; (try simp only [Act.put, sta_, scz_, scs_]))
 (refine take_op (i := 8) (v := ?_) rfl (by kernel_rfl) (by kernel_rfl) (by kernel_rfl) (fun _ _ _ h => h) (by rfl) ?_ hHeld ?_; rotate_left; (· (intro wS hSw; (try dsimp only at hSw); go_simp; first | done | with_reducible rfl)); simp only [Act.put, sta_, scz_, scs_]); (refine take_op (i := 9) (v := ?_) rfl (by kernel_rfl) (by kernel_rfl) (by kernel_rfl) (fun _ _ _ h => h) (by rfl) ?_ hHeld ?_; rotate_left; (· (intro wS hSw; (try dsimp only at hSw); go_simp; first | done | with_reducible rfl)); simp only [Act.put, sta_, scz_, scs_])
 (refine wpAnyH_done (by kernel_rfl) ?_ _)
 clear hHeld hh7
 have X2 := S3.X
 have k2 := S3.kk
 have l1 := msg_load X6
 have l2 := msg_store X2 rfl
 have hI := Hid.out _ kw
 go_wp2_with fail
 refine bodyPost_ret (results_msg2 rfl rfl rfl (X2.msgSet rfl)) rfl ?_
 exact ⟨A6, c6, rfl, hI.msgSet (fun ad e => Nat.ne_of_gt (hne6 ad e)) _, hcl, fun ad e => Nat.le_of_lt (hne6 ad e), below_msgSet k2 (Nat.le_refl _) _⟩
end Go.Proofs.YtlolnakeancenaaDoor

namespace Go.Proofs.YtlolnakeancenaaDoor
open Go.RowKit
set_option linter.unusedVariables false
set_option linter.unusedSimpArgs false
set_option maxRecDepth 20000
attribute [local go_sem ↓] Go.wp_at_zero Go.wp_at_succ
attribute [local go_sem] World.cell?_alloc_some frozen_alloc_some
attribute [local go_sem ↓ high] loadVar_msg storeVar_msg msg_store_new

/-- A greeting. -/
def mhello (v : Int) : MsgT := ⟨9, 0, 0, 0, 0, 0, 0, 0, 0, 0, 0, ⟨#[]⟩, ⟨#[]⟩, 0, none, 0, 0, 0, 0, v, []⟩
theorem mtake_put {M : MsgT} (h : mok M = true) (hy : M.cy.size ≤ 60000) (hp : perr (ltree (mparts M)) = 0) : mtake (mframe 2 (pform (ltree (mparts M)))) = (M.norm, 0) := by
 unfold mtake
 rw [mopen_frame (mparts_good h hy) hp]
 rw [if_neg (by decide), if_neg (by decide)]
 unfold mtakeT
 rw [if_neg (by simp)]
 have e : mread (tkids (ltree (mparts M))) = M.norm := mread_back h
 simp only [e, mok_norm, mparts_norm, h, tsame_self, and_self, if_true]
theorem mperr {M : MsgT} (h : mok M = true) (hy : M.cy.size ≤ 60000) : perr (ltree (mparts M)) = 0 := good_perr (mparts_good h hy) (by have := mparts_size h; omega)
theorem hello_ok (v : Int) (hv : v = 1 ∨ v = 2) : mok (mhello v) = true := by
 have e : plainM (mhello v) = mhello v := rfl
 unfold mok
 rw [e, msame_self]
 rcases hv with rfl | rfl <;> rfl
theorem hello_len (v : Int) (hv : v = 1 ∨ v = 2) : (pform (ltree (mparts (mhello v)))).length = 6 := by
 rw [good_pform (mperr (hello_ok v hv) (Nat.zero_le _))]
 rcases hv with rfl | rfl <;> decide
theorem hello_okw (w : World) (v : Int) (hv : v = 1 ∨ v = 2) : (mhello v).Ok w := by
 have hz : (Lit.int .i64 0).wf = true := by decide
 exact ⟨(by decide : (Lit.int .i64 9).wf = true), hz, hz, hz, hz, hz, hz, hz, hz, hz, hz, Nat.zero_le _, Nat.zero_le _, hz, Nat.le_refl _, Nat.le_refl _, IdsAt.nil, hz, hz, by rcases hv with rfl | rfl <;> decide⟩
set_option maxHeartbeats 8000000 in
theorem awake10 (w : World) (hK : KindsAt w) (hT : Tabs w) : Calls Tryd.prog 9 #[] w (Gives w (.bool true)) := by
 have h2 : (2 : Int) = 1 ∨ (2 : Int) = 2 := .inr rfl
 have hok := hello_ok 2 h2
 have hp := mperr hok (Nat.zero_le _)
 have hlen := hello_len 2 h2
 have htp := mtake_put hok (Nat.zero_le _) hp
 have e1 : putL (mhello 2) = mframe 2 (pform (ltree (mparts (mhello 2)))) := by unfold putL; rw [if_pos hok, if_pos hp]
 have e2 : putE (mhello 2) = 0 := by unfold putE; rw [if_pos hok, hp]
 have hput : ∀ W, Below w.heap.size w W → Calls Tryd.prog 17 #[.agg #[.int .i64 9, .int .i64 0, .int .i64 0, .int .i64 0, .int .i64 0, .int .i64 0, .int .i64 0, .int .i64 0, .int .i64 0, .int .i64 0, .int .i64 0, .string ⟨#[]⟩, .string ⟨#[]⟩, .int .i64 0, .slice none 0 0, .int .i64 0, .int .i64 0, .int .i64 2]] W (Puts W .i64 5 (mframe 2 (pform (ltree (mparts (mhello 2))))) 0) := fun W h => by
  have := put10_any (mhello 2) W (hK.keep h) (hello_okw W 2 h2) (hT.keep h) (Nat.zero_le _)
  rw [e1, e2] at this
  exact this
 have htk : ∀ W A m c, Below w.heap.size w W → Bytes W A m (mframe 2 (pform (ltree (mparts (mhello 2))))) → m ≤ c → c ≤ maxLen → Calls Tryd.prog 19 #[.slice A m c] W (fun e w' => ∃ A2 c2, e = .returned (.tuple #[.agg #[.int .i64 9, .int .i64 0, .int .i64 0, .int .i64 0, .int .i64 0, .int .i64 0, .int .i64 0, .int .i64 0, .int .i64 0, .int .i64 0, .int .i64 0, .string ⟨#[]⟩, .string ⟨#[]⟩, .int .i64 0, .slice A2 0 c2, .int .i64 0, .int .i64 0, .int .i64 2], .int .i64 0]) ∧ Below W.heap.size W w') := fun W A m c h hb hm hc => by
  have := take10_any A m c _ W hb hm hc (hK.keep h) (hT.keep h)
  rw [htp] at this
  exact this.mono fun e w' ⟨A2, c2, h1, _, _, _, h5⟩ => ⟨A2, c2, h1, h5⟩
 have hck : ∀ W, Below w.heap.size w W → Calls Tryd.prog 25 #[.agg #[.int .i64 0, .int .i64 0, .int .i64 0, .int .i64 0, .int .i64 0, .int .i64 0, .int .i64 0, .int .i64 0, .int .i64 0, .int .i64 0, .int .i64 0, .string ⟨#[]⟩, .string ⟨#[]⟩, .int .i64 0, .slice none 0 0, .int .i64 0, .int .i64 0, .int .i64 0]] W (Gives W (.int .i64 4)) := fun W h => by
  have hz : (Lit.int .i64 0).wf = true := by decide
  exact check10_any (mzero 0) W (hK.keep h) ⟨hz, hz, hz, hz, hz, hz, hz, hz, hz, hz, hz, Nat.zero_le _, Nat.zero_le _, hz, Nat.le_refl _, Nat.le_refl _, IdsAt.nil, hz, hz, hz⟩ (hT.keep h)
 have hfl := mframe_len 2 (pform (ltree (mparts (mhello 2))))
 rw [hlen] at hfl
 clear hok hp hlen htp e1 e2 hK hT h2
 generalize mframe 2 (pform (ltree (mparts (mhello 2)))) = L at *
 have Hput := Lib.hid hput
 have Htk := Lib.hid htk
 have Hck := Lib.hid hck
 clear hput htk hck
 go_enter Tryd.func9, Tryd.ntmps9
 go_wp2_with (first
  | (go_at_call 17; (with_reducible refine (Hput.out _ (Below.refl _ _)).mono ?_); rintro e w1 ⟨v1, rfl, own1, hb1⟩; obtain ⟨A1, c1, rfl, hc1, hm1⟩ := own1.form; have by1 := own1.bytes.2.2; have kk := hb1; rw [hfl] at by1 hc1; simp only [hfl])
  | (go_at_call 19; (with_reducible refine (Htk.out _ _ _ _ kk by1 hc1 hm1).mono ?_); rintro e w2 ⟨A2, c2, rfl, hb2⟩; replace kk := below_call kk hb2 kk.size; have kk2 := below_call kk (below_one (w := w2) (.cells #[.int .i64 9, .int .i64 0, .int .i64 0, .int .i64 0, .int .i64 0, .int .i64 0, .int .i64 0, .int .i64 0, .int .i64 0, .int .i64 0, .int .i64 0, .string ⟨#[]⟩, .string ⟨#[]⟩, .int .i64 0, .slice A2 0 c2, .int .i64 0, .int .i64 0, .int .i64 2] 50)) kk.size)
  | (go_at_call 25; (with_reducible refine (Hck.out _ kk2).mono ?_); rintro e w3 ⟨rfl, hb3⟩; have kk3 := below_call kk2 hb3 kk2.size))
 go_ret
 exact ⟨rfl, by first | exact kk3 | exact kk3.size | exact blw⟩
end Go.Proofs.YtlolnakeancenaaDoor
