/- The walk of the law MsgTurned. -/
import Derived.Test.YtlolnakeancenaaDoorMsgFramesQ42
import Derived.Test.YtlolnakeancenaaDoorMsgFramesQ25
import Derived.Test.YtlolnakeancenaaDoorMsgFramesQ45
import Derived.Test.YtlolnakeancenaaDoorMsgFramesQ1
import Derived.Test.YtlolnakeancenaaDoorMsgFramesQ0
import Derived.WalkKit
import Derived.WalkSpells
import Derived.WalkLawsBesides
import Derived.Deep.RegionHeld3
import Derived.Deep.DrawnRows
import Derived.Deep.DeepCutAuto
import Derived.Deep.DeepFit
import Derived.Lib.Hide
import Derived.BigQuiet
import Derived.Deep.QuietTactic
namespace Go.Proofs.YtlolnakeancenaaDoor
open Go.RowKit
set_option linter.unusedVariables false
set_option linter.unusedSimpArgs false
set_option maxRecDepth 20000
attribute [local go_sem ↓] Go.wp_at_zero Go.wp_at_succ
attribute [local go_sem] World.cell?_alloc_some frozen_alloc_some
attribute [local go_sem] lt2 lt3 lt4 lt5
attribute [local simp] lt2 lt3 lt4 lt5
attribute [local go_sem ↓ high] loadVar_msg storeVar_msg msg_store_new

set_option maxHeartbeats 16000000 in
theorem msgturned_walk (M : MsgT) (at_ : Int) (t : Nat) (sum : Bool) (w : World) (hK : KindsAt w) (hT : Tabs w) (hM : M.Ok w) (hat : (Lit.int .i64 at_).wf = true) (ht : t < 4294967296) :
  Calls Tryd.prog 4 #[M.v, .int .i64 at_, .int .u32 (t : Int), .bool sum] w (Gives w (.bool true)) := by
 have haw := fun W (h : Below w.heap.size w W) => awake10 W (hK.keep h) (hT.keep h)
 have hg1 := fun W => great10_any M W
 have hp1 := fun (hy : M.cy.size ≤ 60000) W (h : Below w.heap.size w W) => put10_any M W (hK.keep h) (hM.keep h) (hT.keep h) hy
 have hlg := fun (hy : M.cy.size ≤ 60000) (h : putE M = 0) => put_long hy h
 have hsz := fun (hy : M.cy.size ≤ 60000) => put_size hy
 have htk := fun (W : World) A n c L (h : Below w.heap.size w W) (hb : Bytes W A n L) (hn : n ≤ c) (hc : c ≤ maxLen) => take10_any A n c L W hb hn hc (hK.keep h) (hT.keep h)
 have hy1 := @mgreat_no M
 clear hK hT hM
 generalize putL M = LM at *
 generalize putE M = EM at *
 generalize mgreat M = gM at *
 obtain ⟨k, i, n, br, bb, tr, tb, st, ck, cc, cq, cy, cx, cr, A, m, cap, sq, tg, ver, l⟩ := M
 simp only [MsgT.v] at hg1 hp1 hy1 hlg hsz ⊢
 have Haw := Lib.hid haw
 have Hg1 := Lib.hid hg1
 have Htk := Lib.hid htk
 clear haw hg1 htk
 have X : Blk (w.alloc (.cells #[.int .i64 k, .int .i64 i, .int .i64 n, .int .i64 br, .int .i64 bb, .int .i64 tr, .int .i64 tb, .int .i64 st, .int .i64 ck, .int .i64 cc, .int .i64 cq, .string cy, .string cx, .int .i64 cr, .slice A m cap, .int .i64 sq, .int .i64 tg, .int .i64 ver] 50)) w.heap.size 50 #[.int .i64 k, .int .i64 i, .int .i64 n, .int .i64 br, .int .i64 bb, .int .i64 tr, .int .i64 tb, .int .i64 st, .int .i64 ck, .int .i64 cc, .int .i64 cq, .string cy, .string cx, .int .i64 cr, .slice A m cap, .int .i64 sq, .int .i64 tg, .int .i64 ver] := Blk.new w _ _
 have kk : Below w.heap.size w (w.alloc (.cells #[.int .i64 k, .int .i64 i, .int .i64 n, .int .i64 br, .int .i64 bb, .int .i64 tr, .int .i64 tb, .int .i64 st, .int .i64 ck, .int .i64 cc, .int .i64 cq, .string cy, .string cx, .int .i64 cr, .slice A m cap, .int .i64 sq, .int .i64 tg, .int .i64 ver] 50)) := below_one _
 cases gM
 case true =>
  clear hp1 hy1 hlg hsz Htk
  go_enter Tryd.func4, Tryd.ntmps4
  have l1 := msg_load X
  go_wp2_with (first | (go_at_call 16; (with_reducible refine (Hg1.out _).mono ?_); rintro e w1 ⟨rfl, hb⟩; replace X := X.keep hb; replace kk := below_call kk hb kk.size; clear l1; have l1 := msg_load X) | (go_at_call 9; (with_reducible refine (Haw.out _ kk).mono ?_); rintro e w2 ⟨rfl, hb⟩; replace kk := below_call kk hb kk.size))
  go_ret
  exact ⟨rfl, kk⟩
 by_cases ht0 : t = 0
 ·subst ht0
  clear hp1 hy1 hlg hsz Htk
  go_enter Tryd.func4, Tryd.ntmps4
  have l1 := msg_load X
  go_wp2_with (first | (go_at_call 16; (with_reducible refine (Hg1.out _).mono ?_); rintro e w1 ⟨rfl, hb⟩; replace X := X.keep hb; replace kk := below_call kk hb kk.size; clear l1; have l1 := msg_load X) | (go_at_call 9; (with_reducible refine (Haw.out _ kk).mono ?_); rintro e w2 ⟨rfl, hb⟩; replace kk := below_call kk hb kk.size))
  go_ret
  exact ⟨rfl, kk⟩
 have htb : ((t : Int) == 0) = false := by simpa using ht0
 obtain ⟨-, h1, -⟩ := hy1 rfl
 replace hp1 := hp1 (Nat.le_trans h1 (by decide))
 replace hlg := hlg (Nat.le_trans h1 (by decide))
 replace hsz := hsz (Nat.le_trans h1 (by decide))
 have Hp1 := Lib.hid hp1
 clear hp1 hy1 h1
 by_cases hE : EM = 0
 case neg =>
  have hE' : ((EM : Int) != 0) = true := by simp; omega
  clear hlg hsz Htk
  go_enter Tryd.func4, Tryd.ntmps4
  have l1 := msg_load X
  go_wp2_with (first | (go_at_call 16; (with_reducible refine (Hg1.out _).mono ?_); rintro e w1 ⟨rfl, hb⟩; replace X := X.keep hb; replace kk := below_call kk hb kk.size; clear l1; have l1 := msg_load X) | (go_at_call 17; (with_reducible refine (Hp1.out _ kk).mono ?_); rintro e w3 ⟨v3, rfl, own3, hb⟩; have kz := kk.size; replace own3 := own3.lower kz; replace kk := below_call kk hb kk.size; obtain ⟨A3, c3, rfl, -, -⟩ := own3.form; clear own3 hb) | (go_at_call 9; (with_reducible refine (Haw.out _ kk).mono ?_); rintro e w2 ⟨rfl, hb⟩; replace kk := below_call kk hb kk.size))
  go_ret
  exact ⟨rfl, kk⟩
 obtain ⟨P, hLM, hP6, hPb⟩ := hlg hE
 subst hE
 have hfl := mframe_len 2 P
 rw [← hLM] at hfl
 have hlen : LM.length ≤ 1000000000 := hsz
 have hto := fun (kp : Nat) (y : List Nat) (hyb : ∀ x ∈ y, x < 256) (hk : kp = 1 ∨ 5 ≤ kp ∧ kp + 4 ≤ 5 + P.length) (hl : y.length = LM.length) hy => turned_open P hPb kp t y hyb ht ht0 hk (by rw [← hLM]; exact hl) (by rw [← hLM]; exact hy)
 have Hto := Lib.hid hto
 clear hto hLM hPb hlg hsz
 have hpk := pickV_range (k := at_) (n := (LM.length : Int) - 8) (by omega)
 obtain ⟨kq, hkv⟩ := Int.eq_ofNat_of_zero_le hpk.1
 have p1 : ∀ W, Calls Tryd.prog 18 #[.int .i64 at_, .int .i64 ((LM.length : Int) - 8)] W (Gives W (.int .i64 (kq : Int))) := fun W => by
  rw [← hkv]; exact pick_any _ _ W (by omega) (by omega) hat
 have hkq : kq + 9 ≤ LM.length := by omega
 clear hpk hkv hat
 obtain ⟨kp, hkp⟩ : ∃ kp, kp = if sum = true then 1 else 5 + kq := ⟨_, rfl⟩
 have hkp2 : kp = 1 ∨ 5 ≤ kp ∧ kp + 4 ≤ 5 + P.length := by
  rw [hkp]
  cases sum
  ·right; simp; omega
  ·left; rfl
 have hkp3 : kp + 4 ≤ LM.length := by omega
 have hlen10 : ¬ (LM.length : Int) < 10 := by omega
 have Hkp2 := Lib.hid hkp2
 clear hkp2 hP6 hfl
 go_enter Tryd.func4, Tryd.ntmps4
 have l1 := msg_load X
 go_upto_region 4 with (first | (go_at_call 16; (with_reducible refine (Hg1.out _).mono ?_); rintro e w1 ⟨rfl, hb⟩; replace X := X.keep hb; replace kk := below_call kk hb kk.size; clear l1; have l1 := msg_load X) | (go_at_call 17; (with_reducible refine (Hp1.out _ kk).mono ?_); rintro e w3 ⟨v3, rfl, own3, hb⟩; have kz := kk.size; replace own3 := own3.lower kz; replace kk := below_call kk hb kk.size; clear hb))
 obtain ⟨A3, c3, hv3, hcc, hcm⟩ := own3.form
 have hbl := own3.2
 obtain ⟨g, c', hv, hg1, hg2⟩ := own3.1.form (by omega)
 rw [hv3] at hv
 obtain ⟨rfl, -, rfl⟩ := Value.slice.inj hv
 subst hv3
 clear l1 X Hg1 Hp1 hv
 cases sum
 ·have hkp' : kp = 5 + kq := by simpa using hkp
  clear hkp
  go_upto_region 9 with (go_at_call 18; (with_reducible refine (p1 _).mono ?_); rintro e w4 ⟨rfl, hb⟩; replace own3 := own3.keep hb; replace kk := below_call kk hb kk.size; clear hb)
  have e1 : (Value.int .i64 (5 + (kq : Int))) = .int .i64 (kp : Int) := by rw [hkp']; simp
  rw [e1]
  clear e1 hkp'
  go_wp2_with fail
  go_loopw [2, 12] (fun s2 s12 wr => ∃ (j : Nat) (y : List Nat), j ≤ 4 ∧ s12 = .int .i64 j ∧ s2 = .int .u32 ((t / 256 ^ j : Nat) : Int) ∧ y.length = LM.length ∧ (∀ q, q < LM.length → y.getD q 0 = LM.getD q 0 ^^^ (if kp ≤ q ∧ q < kp + j then t / 256 ^ (q - kp) % 256 else 0)) ∧ OwnB wr w.heap.size 5 (.slice (some ⟨g, 0, none⟩) LM.length c3) y ∧ Below w.heap.size w wr) (fun _ s12 _ => 4 - (intOf s12).toNat)
  case atStart => exact ⟨0, LM, by omega, rfl, by simp, rfl, fun q hq => by rw [if_neg (by omega), Nat.xor_zero], own3, kk⟩
  case round =>
   obtain ⟨j, y, hj, rfl, rfl, hyl, hyq, hown, hbr⟩ := hrel
   have hzr := hbr.size
   have Hyl := Lib.hid hyl
   have Hyq := Lib.hid hyq
   clear hyl hyq
   have hxle : t / 256 ^ j ≤ t := Nat.div_le_self _ _
   have hnx : t / 256 ^ (j + 1) = t / 256 ^ j / 256 := by rw [Nat.pow_succ, Nat.div_div_eq_div_mul]
   have Hnx := Lib.hid hnx
   obtain ⟨xj, hxj⟩ : ∃ xj, xj = t / 256 ^ j := ⟨_, rfl⟩
   have Hxj := Lib.hid hxj
   rw [← hxj] at hxle Hnx ⊢
   clear hnx hxj
   by_cases hlt : j < 4
   ·have hpj : kp + j < LM.length := by omega
    obtain ⟨old, hold⟩ : ∃ old, y[kp + j]? = some old := ⟨_, List.getElem?_eq_getElem (by have := Hyl.out; omega)⟩
    have hob := hown.2 old (List.mem_of_getElem? hold)
    have hoq : old = LM.getD (kp + j) 0 := by
     have := Hyq.out (kp + j) hpj
     rw [if_neg (by omega), Nat.xor_zero] at this
     rw [← this]
     simp [List.getD, hold]
    have Hoq := Lib.hid hoq
    have hown1 := hown.1
    rw [Hyl.out] at hown1
    have hcell := hown1.cellAt (kp + j) (by omega)
    rw [show (u8s y)[kp + j]? = some (.int .u8 (old : Int)) by simp [u8s, hold]] at hcell
    have hfz := hown1.frozenAt (kp + j)
    obtain ⟨d, hd⟩ : ∃ d, d = xj % 256 := ⟨_, rfl⟩
    have hd1 : (xj : Int) % 256 = (d : Int) := by omega
    have hd2 : d < 256 := by omega
    have Hd := Lib.hid hd
    have e1 : bits .xor .u8 (old : Int) (d : Int) = ((old ^^^ d : Nat) : Int) := u8_xor_nat _ _ hob hd2
    have hv2 : old ^^^ d < 256 := Nat.xor_lt_two_pow (n := 8) hob hd2
    have hv : old ^^^ d = LM.getD (kp + j) 0 ^^^ (t / 256 ^ j % 256) := by rw [Hoq.out, Hd.out, Hxj.out]
    have Hv := Lib.hid hv
    clear hv hd hoq hold
    generalize old ^^^ d = v at *
    go_wp2_with fail
    go_roundw
    case rel =>
     refine ⟨j + 1, y.set (kp + j) v, by omega, by go_num, by rw [Hnx.out]; go_num, by simp [Hyl.out], fun q hq => ?_, ⟨?_, fun b hb' => ?_⟩, blw⟩
     ·by_cases hqe : q = kp + j
      ·subst hqe
       rw [if_pos (by omega), show kp + j - kp = j by omega, ← Hv.out]
       simp [List.getD, Hyl.out, hpj]
      ·have h0 : (y.set (kp + j) v).getD q 0 = y.getD q 0 := by simp [List.getD, List.getElem?_set, Ne.symm hqe]
       rw [h0, Hyq.out q hq]
       by_cases hqj : kp ≤ q ∧ q < kp + j
       ·rw [if_pos hqj, if_pos (by omega)]
       ·rw [if_neg hqj, if_neg (by omega)]
     ·have := (hown1.stored (kp + j) (.int .u8 (v : Int))).1
      have e : (u8s y).set (kp + j) (.int .u8 (v : Int)) = u8s (y.set (kp + j) v) := by simp [u8s, List.map_set]
      rw [e] at this
      simpa [Hyl.out] using this
     ·rcases List.mem_or_eq_of_mem_set hb' with h | h
      ·exact hown.2 b h
      ·subst h; exact hv2
    case measure => simp [intOf]; omega
   ·have hj4 : j = 4 := by omega
    have hyb := hown.2
    have hop : mopen 2 y = (tNone, 5) := Hto.out kp y hyb Hkp2.out Hyl.out (fun q hq => by rw [Hyq.out q hq, hj4])
    have hmt : mtake y = (mzero 0, 5) := by unfold mtake; rw [hop]; rfl
    have htk2 : ∀ W n c, Below w.heap.size w W → Bytes W (some ⟨g, 0, none⟩) n y → n ≤ c → c ≤ maxLen → Calls Tryd.prog 19 #[.slice (some ⟨g, 0, none⟩) n c] W (fun e w' => ∃ A2 c2, e = .returned (.tuple #[.agg #[.int .i64 0, .int .i64 0, .int .i64 0, .int .i64 0, .int .i64 0, .int .i64 0, .int .i64 0, .int .i64 0, .int .i64 0, .int .i64 0, .int .i64 0, .string ⟨#[]⟩, .string ⟨#[]⟩, .int .i64 0, .slice A2 0 c2, .int .i64 0, .int .i64 0, .int .i64 0], .int .i64 5]) ∧ Below W.heap.size W w') := fun W n c h hb hn hc => by
     have := Htk.out W _ n c y h hb hn hc
     rw [hmt] at this
     exact this.mono fun e w' ⟨A2, c2, h1, _, _, _, h5⟩ => ⟨A2, c2, h1, h5⟩
    have Htk2 := Lib.hid htk2
    have hby := hown.bytes.2.2
    have kr := hbr
    clear hyb hop hmt htk2
    go_wp2_with (first
     | (go_at_call 19; (with_reducible refine (Htk2.out _ _ _ kr hby hcc hcm).mono ?_); rintro e w5 ⟨A2, c2, rfl, hb⟩; have kr2 := below_call kr hb kr.size; have kr3 := kr2.alloc kr2.size (.cells #[.int .i64 0, .int .i64 0, .int .i64 0, .int .i64 0, .int .i64 0, .int .i64 0, .int .i64 0, .int .i64 0, .int .i64 0, .int .i64 0, .int .i64 0, .string ⟨#[]⟩, .string ⟨#[]⟩, .int .i64 0, .slice A2 0 c2, .int .i64 0, .int .i64 0, .int .i64 0] 50))
     | (go_at_call 9; (with_reducible refine (Haw.out _ kr3).mono ?_); rintro e w6 ⟨rfl, hb6⟩; have kr4 := below_call kr3 hb6 kr3.size))
    go_ret
    exact ⟨rfl, kr4⟩
 ·have hkp' : kp = 1 := by simpa using hkp
  clear hkp p1
  go_upto_region 9 with fail
  have e1 : (Value.int .i64 1) = .int .i64 (kp : Int) := by rw [hkp']; rfl
  rw [e1]
  clear e1 hkp'
  go_wp2_with fail
  go_loopw [2, 12] (fun s2 s12 wr => ∃ (j : Nat) (y : List Nat), j ≤ 4 ∧ s12 = .int .i64 j ∧ s2 = .int .u32 ((t / 256 ^ j : Nat) : Int) ∧ y.length = LM.length ∧ (∀ q, q < LM.length → y.getD q 0 = LM.getD q 0 ^^^ (if kp ≤ q ∧ q < kp + j then t / 256 ^ (q - kp) % 256 else 0)) ∧ OwnB wr w.heap.size 5 (.slice (some ⟨g, 0, none⟩) LM.length c3) y ∧ Below w.heap.size w wr) (fun _ s12 _ => 4 - (intOf s12).toNat)
  case atStart => exact ⟨0, LM, by omega, rfl, by simp, rfl, fun q hq => by rw [if_neg (by omega), Nat.xor_zero], own3, kk⟩
  case round =>
   obtain ⟨j, y, hj, rfl, rfl, hyl, hyq, hown, hbr⟩ := hrel
   have hzr := hbr.size
   have Hyl := Lib.hid hyl
   have Hyq := Lib.hid hyq
   clear hyl hyq
   have hxle : t / 256 ^ j ≤ t := Nat.div_le_self _ _
   have hnx : t / 256 ^ (j + 1) = t / 256 ^ j / 256 := by rw [Nat.pow_succ, Nat.div_div_eq_div_mul]
   have Hnx := Lib.hid hnx
   obtain ⟨xj, hxj⟩ : ∃ xj, xj = t / 256 ^ j := ⟨_, rfl⟩
   have Hxj := Lib.hid hxj
   rw [← hxj] at hxle Hnx ⊢
   clear hnx hxj
   by_cases hlt : j < 4
   ·have hpj : kp + j < LM.length := by omega
    obtain ⟨old, hold⟩ : ∃ old, y[kp + j]? = some old := ⟨_, List.getElem?_eq_getElem (by have := Hyl.out; omega)⟩
    have hob := hown.2 old (List.mem_of_getElem? hold)
    have hoq : old = LM.getD (kp + j) 0 := by
     have := Hyq.out (kp + j) hpj
     rw [if_neg (by omega), Nat.xor_zero] at this
     rw [← this]
     simp [List.getD, hold]
    have Hoq := Lib.hid hoq
    have hown1 := hown.1
    rw [Hyl.out] at hown1
    have hcell := hown1.cellAt (kp + j) (by omega)
    rw [show (u8s y)[kp + j]? = some (.int .u8 (old : Int)) by simp [u8s, hold]] at hcell
    have hfz := hown1.frozenAt (kp + j)
    obtain ⟨d, hd⟩ : ∃ d, d = xj % 256 := ⟨_, rfl⟩
    have hd1 : (xj : Int) % 256 = (d : Int) := by omega
    have hd2 : d < 256 := by omega
    have Hd := Lib.hid hd
    have e1 : bits .xor .u8 (old : Int) (d : Int) = ((old ^^^ d : Nat) : Int) := u8_xor_nat _ _ hob hd2
    have hv2 : old ^^^ d < 256 := Nat.xor_lt_two_pow (n := 8) hob hd2
    have hv : old ^^^ d = LM.getD (kp + j) 0 ^^^ (t / 256 ^ j % 256) := by rw [Hoq.out, Hd.out, Hxj.out]
    have Hv := Lib.hid hv
    clear hv hd hoq hold
    generalize old ^^^ d = v at *
    go_wp2_with fail
    go_roundw
    case rel =>
     refine ⟨j + 1, y.set (kp + j) v, by omega, by go_num, by rw [Hnx.out]; go_num, by simp [Hyl.out], fun q hq => ?_, ⟨?_, fun b hb' => ?_⟩, blw⟩
     ·by_cases hqe : q = kp + j
      ·subst hqe
       rw [if_pos (by omega), show kp + j - kp = j by omega, ← Hv.out]
       simp [List.getD, Hyl.out, hpj]
      ·have h0 : (y.set (kp + j) v).getD q 0 = y.getD q 0 := by simp [List.getD, List.getElem?_set, Ne.symm hqe]
       rw [h0, Hyq.out q hq]
       by_cases hqj : kp ≤ q ∧ q < kp + j
       ·rw [if_pos hqj, if_pos (by omega)]
       ·rw [if_neg hqj, if_neg (by omega)]
     ·have := (hown1.stored (kp + j) (.int .u8 (v : Int))).1
      have e : (u8s y).set (kp + j) (.int .u8 (v : Int)) = u8s (y.set (kp + j) v) := by simp [u8s, List.map_set]
      rw [e] at this
      simpa [Hyl.out] using this
     ·rcases List.mem_or_eq_of_mem_set hb' with h | h
      ·exact hown.2 b h
      ·subst h; exact hv2
    case measure => simp [intOf]; omega
   ·have hj4 : j = 4 := by omega
    have hyb := hown.2
    have hop : mopen 2 y = (tNone, 5) := Hto.out kp y hyb Hkp2.out Hyl.out (fun q hq => by rw [Hyq.out q hq, hj4])
    have hmt : mtake y = (mzero 0, 5) := by unfold mtake; rw [hop]; rfl
    have htk2 : ∀ W n c, Below w.heap.size w W → Bytes W (some ⟨g, 0, none⟩) n y → n ≤ c → c ≤ maxLen → Calls Tryd.prog 19 #[.slice (some ⟨g, 0, none⟩) n c] W (fun e w' => ∃ A2 c2, e = .returned (.tuple #[.agg #[.int .i64 0, .int .i64 0, .int .i64 0, .int .i64 0, .int .i64 0, .int .i64 0, .int .i64 0, .int .i64 0, .int .i64 0, .int .i64 0, .int .i64 0, .string ⟨#[]⟩, .string ⟨#[]⟩, .int .i64 0, .slice A2 0 c2, .int .i64 0, .int .i64 0, .int .i64 0], .int .i64 5]) ∧ Below W.heap.size W w') := fun W n c h hb hn hc => by
     have := Htk.out W _ n c y h hb hn hc
     rw [hmt] at this
     exact this.mono fun e w' ⟨A2, c2, h1, _, _, _, h5⟩ => ⟨A2, c2, h1, h5⟩
    have Htk2 := Lib.hid htk2
    have hby := hown.bytes.2.2
    have kr := hbr
    clear hyb hop hmt htk2
    go_wp2_with (first
     | (go_at_call 19; (with_reducible refine (Htk2.out _ _ _ kr hby hcc hcm).mono ?_); rintro e w5 ⟨A2, c2, rfl, hb⟩; have kr2 := below_call kr hb kr.size; have kr3 := kr2.alloc kr2.size (.cells #[.int .i64 0, .int .i64 0, .int .i64 0, .int .i64 0, .int .i64 0, .int .i64 0, .int .i64 0, .int .i64 0, .int .i64 0, .int .i64 0, .int .i64 0, .string ⟨#[]⟩, .string ⟨#[]⟩, .int .i64 0, .slice A2 0 c2, .int .i64 0, .int .i64 0, .int .i64 0] 50))
     | (go_at_call 9; (with_reducible refine (Haw.out _ kr3).mono ?_); rintro e w6 ⟨rfl, hb6⟩; have kr4 := below_call kr3 hb6 kr3.size))
    go_ret
    exact ⟨rfl, kr4⟩
end Go.Proofs.YtlolnakeancenaaDoor
