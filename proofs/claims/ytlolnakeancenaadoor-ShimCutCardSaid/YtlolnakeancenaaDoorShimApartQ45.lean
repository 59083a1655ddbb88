/- The walk of the law ShimCut. -/
import Derived.Test.YtlolnakeancenaaDoorShimApartQ43
import Derived.Test.YtlolnakeancenaaDoorShimApartQ1
import Derived.WalkKit
import Derived.WalkSpells
import Derived.WalkLawsBesides
import Derived.Deep.RegionHeld3
import Derived.Deep.DrawnRows
import Derived.Deep.DeepCutAuto
import Derived.Deep.DeepFit
import Derived.Lib.Hide
import Derived.BigQuiet
import Derived.Deep.QuietTactic
namespace Go.Proofs.YtlolnakeancenaaDoor
open Go.RowKit
set_option linter.unusedVariables false
set_option linter.unusedSimpArgs false
set_option maxRecDepth 20000
attribute [local go_sem ↓] Go.wp_at_zero Go.wp_at_succ
attribute [local go_sem] World.cell?_alloc_some frozen_alloc_some
attribute [local go_sem ↓ high] loadVar_msg storeVar_msg msg_store_new

theorem mopen_short {v : Nat} {L : List Nat} (h : L.length < 5) : mopen v L = (tNone, 2) := by unfold mopen; rw [if_pos h]
theorem downL_long {M : MsgT} (hy : M.cy.size ≤ 60000) (hd : downE M = 0) : 6 ≤ (downL M).length ∧ (downL M).length ≤ 1000000000 := by
 have h1 := pform_len (ltree (oldP M))
 have h2 := tform_two (ltree (oldP M))
 rw [downL, if_pos hd, mframe_len]
 rw [good_pform (old_perr (downE_ok hd).2.1 hy)] at h1 ⊢
 omega
set_option maxHeartbeats 16000000 in
theorem shimcut_walk (M : MsgT) (cut : Int) (w : World) (hK : KindsAt w) (hT : Tabs w) (hM : M.Ok w) (hcut : (Lit.int .i64 cut).wf = true) : Calls Tryd.prog 7 #[M.v, .int .i64 cut] w (Gives w (.bool true)) := by
 have haw := fun W (h : Below w.heap.size w W) => awake11 W (hK.keep h) (hT.keep h)
 have hg1 := fun W => great10_any M W
 have hy1 := @mgreat_no M
 have hdn := fun (hy : M.cy.size ≤ 60000) W (h : Below w.heap.size w W) => down11_any M W (hK.keep h) (hM.keep h) (hT.keep h) hy
 have hln := fun (hy : M.cy.size ≤ 60000) (hd : downE M = 0) => downL_long hy hd
 have hup := fun (hy : M.cy.size ≤ 60000) (hd : downE M = 0) A n c W (h : Below w.heap.size w W) (hb : Bytes W A n (downL M)) (hn : n ≤ c) (hc : c ≤ maxLen) => up_good M A n c W (downE_ok hd).2.1 hd hy (by rw [downL, if_pos hd] at hb; exact hb) hn hc (hK.keep h) (hT.keep h)
 have hr3 := fun (hy : M.cy.size ≤ 60000) (hd : downE M = 0) A n c W (h : Below w.heap.size w W) (hb : Bytes W A n (downL M)) (hn : n ≤ c) (hc : c ≤ maxLen) => read1_any A n c M.norm 0 W (fun W2 h2 => hup hy hd A n c W2 (below_call h h2 h.size) (hb.keep h2) hn hc)
 have hsr : ∀ A2 c2 W, Below w.heap.size w W → IdsAt W A2 M.l.length M.l → Calls Tryd.prog 20 #[((M.norm).at A2 M.l.length c2).v, M.v] W (Gives W (.bool true)) := fun A2 c2 W h hI => by
  have := msgsame_any ((M.norm).at A2 M.l.length c2) M W hI (hM.l.keep h)
  rw [msame_iff.2 (show ((M.norm).at A2 M.l.length c2).norm = M.norm from rfl)] at this
  exact this
 have hsh : ∀ (L : List Nat) A n c W, L.length < 5 → Bytes W A n L → n ≤ c → c ≤ maxLen → Calls Tryd.prog 24 #[.slice A n c] W (Takes W (mzero 0, 2)) := fun L A n c W h5 hb hn hc => by
  have := up_err A n c L W hb hn hc (by rw [mopen_short h5]; decide)
  rw [mopen_short h5] at this
  exact this
 have hs1 := fun (L : List Nat) A n c W (h5 : L.length < 5) (hb : Bytes W A n L) (hn : n ≤ c) (hc : c ≤ maxLen) => read1_any A n c (mzero 0) 2 W (fun W2 h2 => hsh L A n c W2 h5 (hb.keep h2) hn hc)
 clear hup hK hT hM
 generalize mgreat M = gM at *
 generalize downL M = LD at *
 generalize downE M = DM at *
 obtain ⟨k, i, n, br, bb, tr, tb, st, ck, cc, cq, cy, cx, cr, A, m, cap, sq, tg, ver, l⟩ := M
 have hs2 : ∀ Az cz W, Below w.heap.size w W → IdsAt W Az l.length l → Calls Tryd.prog 20 #[.agg #[.int .i64 k, .int .i64 i, .int .i64 n, .int .i64 br, .int .i64 bb, .int .i64 tr, .int .i64 tb, .int .i64 st, .int .i64 ck, .int .i64 cc, .int .i64 cq, .string cy, .string cx, .int .i64 cr, .slice Az l.length cz, .int .i64 sq, .int .i64 tg, .int .i64 ver], .agg #[.int .i64 k, .int .i64 i, .int .i64 n, .int .i64 br, .int .i64 bb, .int .i64 tr, .int .i64 tb, .int .i64 st, .int .i64 ck, .int .i64 cc, .int .i64 cq, .string cy, .string cx, .int .i64 cr, .slice A m cap, .int .i64 sq, .int .i64 tg, .int .i64 ver]] W (Gives W (.bool true)) := hsr
 clear hsr
 simp only [MsgT.v] at hg1 hdn hy1 hr3 hln ⊢
 have Haw := Lib.hid haw
 have Hg1 := Lib.hid hg1
 have Hs2 := Lib.hid hs2
 have Hsh := Lib.hid hsh
 have Hs1 := Lib.hid hs1
 clear haw hg1 hs2 hsh hs1
 have S : SlS w #[.int .i64 k, .int .i64 i, .int .i64 n, .int .i64 br, .int .i64 bb, .int .i64 tr, .int .i64 tb, .int .i64 st, .int .i64 ck, .int .i64 cc, .int .i64 cq, .string cy, .string cx, .int .i64 cr, .slice A m cap, .int .i64 sq, .int .i64 tg, .int .i64 ver] (w.alloc (.cells #[.int .i64 k, .int .i64 i, .int .i64 n, .int .i64 br, .int .i64 bb, .int .i64 tr, .int .i64 tb, .int .i64 st, .int .i64 ck, .int .i64 cc, .int .i64 cq, .string cy, .string cx, .int .i64 cr, .slice A m cap, .int .i64 sq, .int .i64 tg, .int .i64 ver] 50)) := ⟨below_one _, Blk.new w _ _⟩
 cases gM
 case true =>
  clear hdn hr3 hy1 hln
  go_enter Tryd.func7, Tryd.ntmps7
  have l1 := msg_load S.X
  go_wp2_with (first | (go_at_call 16; (with_reducible refine (Hg1.out _).mono ?_); rintro e w1 ⟨rfl, hb⟩; replace S := S.keep hb; clear l1; have l1 := msg_load S.X) | (go_at_call 21; (with_reducible refine (Haw.out _ S.kk).mono ?_); rintro e w2 ⟨rfl, hb⟩; replace S := S.keep hb))
  go_ret
  exact ⟨rfl, S.kk⟩
 obtain ⟨-, h1, -⟩ := hy1 rfl
 have h6 := Nat.le_trans h1 (show 200 ≤ 60000 by decide)
 have Hdn := Lib.hid (hdn h6)
 replace hr3 := hr3 h6
 replace hln := hln h6
 clear hdn hy1 h1 h6
 by_cases hD : DM = 0
 case neg =>
  have hD' : ((DM : Int) != 0) = true := by simp; omega
  clear hr3 hln
  go_enter Tryd.func7, Tryd.ntmps7
  have l1 := msg_load S.X
  go_wp2_with (first | (go_at_call 16; (with_reducible refine (Hg1.out _).mono ?_); rintro e w1 ⟨rfl, hb⟩; replace S := S.keep hb; clear l1; have l1 := msg_load S.X) | (go_at_call 23; (with_reducible refine (Hdn.out _ S.kk).mono ?_); rintro e w3 ⟨v3, rfl, own3, hb⟩; obtain ⟨A3, c3, rfl, -, -⟩ := own3.form; clear own3; replace S := S.keep hb) | (go_at_call 21; (with_reducible refine (Haw.out _ S.kk).mono ?_); rintro e w2 ⟨rfl, hb⟩; replace S := S.keep hb))
  go_ret
  exact ⟨rfl, S.kk⟩
 subst hD
 obtain ⟨hl6, hl9⟩ := hln rfl
 have Hr3 := Lib.hid (hr3 rfl)
 clear hr3 hln
 have hmin : min (LD.length : Int) 5 = 5 := by omega
 have hpk := pickV_range (k := cut) (n := 5) (by omega)
 obtain ⟨kq, hkv⟩ := Int.eq_ofNat_of_zero_le hpk.1
 have p1 : ∀ W, Calls Tryd.prog 18 #[.int .i64 cut, .int .i64 5] W (Gives W (.int .i64 (kq : Int))) := fun W => by
  rw [← hkv]; exact pick_any _ _ W (by omega) (by omega) hcut
 have hkq : kq < 5 := by omega
 clear hpk hkv hcut
 have k0 : (0 : Int) ≤ (kq : Int) := by omega
 go_enter Tryd.func7, Tryd.ntmps7
 have l1 := msg_load S.X
 go_upto_region 6 with (first
  | (go_at_call 16; (with_reducible refine (Hg1.out _).mono ?_); rintro e w1 ⟨rfl, hb⟩; replace S := S.keep hb; clear l1; have l1 := msg_load S.X)
  | (go_at_call 23; (with_reducible refine (Hdn.out _ S.kk).mono ?_); rintro e w3 ⟨v3, rfl, own3, hb⟩; obtain ⟨A3, c3, rfl, hn3, hc3⟩ := own3.form; have by3 := own3.bytes.2.2; clear own3; replace S := S.keep hb))
 have hk3 : (kq : Int) ≤ (c3 : Int) := by omega
 go_upto_region 7 with (go_at_call 18; (with_reducible refine (p1 _).mono ?_); rintro e w4 ⟨rfl, hb⟩; replace S := S.keep hb; replace by3 := by3.keep hb)
 have byc := by3.cutTo (k := kq) (by omega)
 have h5 : (LD.take kq).length < 5 := by rw [List.length_take]; omega
 have hkc : kq ≤ c3 := by omega
 clear hb l1
 go_upto_region 8 with (go_at_call 22; (with_reducible refine (Hs1.out _ _ _ _ _ h5 byc hkc hc3).mono ?_); rintro e w6 ⟨A7, c7, rfl, -, -, -, hb⟩; simp only [MsgT.v, MsgT.at, mzero]; replace S := S.keep hb; replace by3 := by3.keep hb; replace byc := byc.keep hb)
 have hba := below_one (w := w6) (.cells #[.int .i64 0, .int .i64 0, .int .i64 0, .int .i64 0, .int .i64 0, .int .i64 0, .int .i64 0, .int .i64 0, .int .i64 0, .int .i64 0, .int .i64 0, .string ⟨#[]⟩, .string ⟨#[]⟩, .int .i64 0, .slice A7 0 c7, .int .i64 0, .int .i64 0, .int .i64 0] 50)
 replace S := S.keep hba
 replace by3 := by3.keep hba
 replace byc := byc.keep hba
 clear hba hb
 revert byc
 revert by3
 revert S
 generalize World.alloc w6 _ = W7
 intro S by3 byc
 go_upto_region 9 with (go_at_call 24; (with_reducible refine (Hsh.out _ _ _ _ _ h5 byc hkc hc3).mono ?_); rintro e w8 ⟨A9, c9, rfl, -, -, -, hb⟩; simp only [MsgT.v, MsgT.at, mzero]; replace S := S.keep hb; replace by3 := by3.keep hb; replace byc := byc.keep hb)
 have hba := below_one (w := w8) (.cells #[.int .i64 0, .int .i64 0, .int .i64 0, .int .i64 0, .int .i64 0, .int .i64 0, .int .i64 0, .int .i64 0, .int .i64 0, .int .i64 0, .int .i64 0, .string ⟨#[]⟩, .string ⟨#[]⟩, .int .i64 0, .slice A9 0 c9, .int .i64 0, .int .i64 0, .int .i64 0] 50)
 replace S := S.keep hba
 replace by3 := by3.keep hba
 replace byc := byc.keep hba
 clear hba hb
 revert byc
 revert by3
 revert S
 generalize World.alloc w8 _ = W9
 intro S by3 byc
 go_upto_region 10 with (go_at_call 22; (with_reducible refine (Hr3.out _ _ _ _ S.kk by3 hn3 hc3).mono ?_); rintro e w10 ⟨A11, c11, rfl, hI, -, -, hb⟩; simp only [MsgT.v, MsgT.at, MsgT.norm]; replace S := S.keep hb)
 clear by3 byc
 have hba := below_one (w := w10) (.cells #[.int .i64 k, .int .i64 i, .int .i64 n, .int .i64 br, .int .i64 bb, .int .i64 tr, .int .i64 tb, .int .i64 st, .int .i64 ck, .int .i64 cc, .int .i64 cq, .string cy, .string cx, .int .i64 cr, .slice A11 l.length c11, .int .i64 sq, .int .i64 tg, .int .i64 ver] 50)
 have M11 := Blk.new w10 50 #[.int .i64 k, .int .i64 i, .int .i64 n, .int .i64 br, .int .i64 bb, .int .i64 tr, .int .i64 tb, .int .i64 st, .int .i64 ck, .int .i64 cc, .int .i64 cq, .string cy, .string cx, .int .i64 cr, .slice A11 l.length c11, .int .i64 sq, .int .i64 tg, .int .i64 ver]
 have I11 := Lib.hid (show IdsAt _ A11 l.length l from IdsAt.keep hI hba)
 replace S := S.keep hba
 clear hba hb hI
 revert S
 revert I11
 revert M11
 generalize World.alloc w10 _ = W11
 generalize w10.heap.size = gM11
 intro M11 I11 S
 have l1 := msg_load S.X
 have l11 := msg_load M11
 go_wp2_with (first
  | (go_at_call 20; (with_reducible refine (Hs2.out A11 c11 _ S.kk I11.out).mono ?_); rintro e w8 ⟨rfl, hb⟩; replace S := S.keep hb; have l1' := msg_load S.X)
  | (go_at_call 21; (with_reducible refine (Haw.out _ S.kk).mono ?_); rintro e w2 ⟨rfl, hb⟩; replace S := S.keep hb))
 go_ret
 exact ⟨rfl, S.kk⟩
end Go.Proofs.YtlolnakeancenaaDoor
