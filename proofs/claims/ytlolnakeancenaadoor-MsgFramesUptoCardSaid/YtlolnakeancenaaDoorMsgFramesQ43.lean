/- The walk of the law MsgFrames. -/
import Derived.Test.YtlolnakeancenaaDoorMsgFramesQ42
import Derived.Test.YtlolnakeancenaaDoorMsgFramesQ25
import Derived.Test.YtlolnakeancenaaDoorMsgFramesQ1
import Derived.Test.YtlolnakeancenaaDoorMsgFramesQ0
import Derived.WalkKit
import Derived.WalkSpells
import Derived.WalkLawsBesides
import Derived.Deep.RegionHeld3
import Derived.Deep.DrawnRows
import Derived.Deep.DeepCutAuto
import Derived.Deep.DeepFit
import Derived.Lib.Hide
import Derived.BigQuiet
import Derived.Deep.QuietTactic
namespace Go.Proofs.YtlolnakeancenaaDoor
open Go.RowKit
set_option linter.unusedVariables false
set_option linter.unusedSimpArgs false
set_option maxRecDepth 20000
attribute [local go_sem ↓] Go.wp_at_zero Go.wp_at_succ
attribute [local go_sem] World.cell?_alloc_some frozen_alloc_some

/-- What the walk of the law keeps: the boxed item, the frame. -/
structure FrS (w : World) (t : Tree) (v b : Value) (F : List Nat) (W : World) : Prop where
 kk : Below w.heap.size w W
 X : Blk W w.heap.size 25 v.cells
 h : Holds W t v
 B : OwnB W (w.heap.size + 1) 5 b F
theorem FrS.keep {w W w1 : World} {t : Tree} {v b : Value} {F : List Nat} (S : FrS w t v b F W) (hb : Below W.heap.size W w1) : FrS w t v b F w1 :=
 ⟨below_call S.kk hb S.kk.size, S.X.keep hb, S.h.keep hb, S.B.keep hb⟩
set_option maxHeartbeats 8000000 in
theorem msgframes_walk (ver : Nat) (hver : ver < 256) (t : Tree) (v : Value) (w : World) (hK : KindsAt w) (hT : Tabs w) (ht : Holds w t v) (hsz : tsize t ≤ 1048576) :
  Calls Tryd.prog 3 #[.int .u8 (ver : Int), v] w (Gives w (.bool true)) := by
 have haw := fun W (h : Below w.heap.size w W) => awake10 W (hK.keep h) (hT.keep h)
 have hsize : ∀ W, Below w.heap.size w W → Calls Tryd.prog 8 #[v, .int .i64 600, .int .i64 40] W (Gives W (.int .i64 (csize 600 40 t : Int))) := fun W h => refsize_any 600 (by decide) 40 t v W (ht.keep h) hsz (by decide)
 have hput := fun W (h : Below w.heap.size w W) => frame_any ver hver t v W (by omega) (ht.keep h)
 have href : ∀ W, Below w.heap.size w W → Calls Tryd.prog 11 #[v] W (Puts W .i64 5 (pform t) (perr t)) := fun W h => refput3_any t v W (by omega) (ht.keep h)
 have hrf := fun (hc : check t 0 = 0) W (h : Below w.heap.size w W) => refframe_any ver hver t v W hc (by omega) (ht.keep h)
 have same : ∀ (W : World) (A B : Option Addr) (n c m d : Nat) (l : List Nat), Bytes W A n l → Bytes W B m l → Calls Tryd.prog 13 #[.slice A n c, .slice B m d] W (Gives W (.bool true)) := fun W A B n c m d l ha hb => by
  have := same_any A B n m c d l l W ha hb
  simpa using this
 have hcs : ∀ W x, Holds W t v → Holds W t x → Calls Tryd.prog 15 #[v, x] W (Gives W (.bool true)) := fun W x h1 h2 => by
  have := codecsame_any t t v x W h1 h2
  rw [tsame_self] at this
  exact this
 have hgood : perr t = 0 → TG t 0 := fun hp => by
  refine ⟨?_, ht.fit⟩
  unfold perr at hp
  split at hp
  ·next h => exact absurd hp h
  ·next h => exact Decidable.not_not.1 h
 have hopen : perr t = 0 → ∀ (u : Nat), u < 256 → ∀ W A m c, Bytes W A m (mframe ver (pform t)) → m ≤ c → c ≤ maxLen → Calls Tryd.prog 12 #[.int .u8 (u : Int), .slice A m c] W (Opens W (if u < ver then (tNone, 13) else if ver < u then (tNone, 4) else (t, 0))) := fun hp u hu W A m c hb hm hc => by
  have := open_any u hu A m c _ W hb hm hc
  rw [mopen_frame (hgood hp) hp] at this
  exact this
 have hfm := fun (hp : perr t = 0) => good_pform hp
 obtain ⟨k, n, s, l⟩ := t
 obtain ⟨A, m, c, rfl, -, -, -, -, -, -, -⟩ := ht.open_
 have ht0 := ht
 have kk : Below w.heap.size w (w.alloc (.cells #[.int .i64 k, .int .u64 (n : Int), .string s, .slice A m c] 25)) := below_one _
 have X : Blk (w.alloc (.cells #[.int .i64 k, .int .u64 (n : Int), .string s, .slice A m c] 25)) w.heap.size 25 #[.int .i64 k, .int .u64 (n : Int), .string s, .slice A m c] := Blk.new w _ _
 clear hsz ht hK hT
 have Haw := Lib.hid haw
 have Hsize := Lib.hid hsize
 have Hput := Lib.hid hput
 have Href := Lib.hid href
 clear haw hsize hput href
 generalize csize 600 40 (.mk k n s l) = Z at *
 by_cases hZ : 600 < Z
 ·have hZ' : (600 : Int) < (Z : Int) := by omega
  clear hrf same hcs hgood hopen hfm
  go_enter Tryd.func3, Tryd.ntmps3
  go_wp2_with (first
   | (go_at_call 8; (with_reducible refine (Hsize.out _ kk).mono ?_); rintro e w1 ⟨rfl, hb⟩; replace X := X.keep hb; replace kk := below_call kk hb kk.size)
   | (go_at_call 9; (with_reducible refine (Haw.out _ kk).mono ?_); rintro e w2 ⟨rfl, hb⟩; replace kk := below_call kk hb kk.size))
  go_ret
  exact ⟨rfl, kk⟩
 have hZ' : ¬ (600 : Int) < (Z : Int) := by omega
 by_cases hE : perr (.mk k n s l) = 0
 case neg =>
  have hE' : ((perr (.mk k n s l) : Int) != 0) = true := by simp; omega
  clear hrf same hcs hgood hopen hfm
  rw [if_neg hE] at Hput
  generalize pform (.mk k n s l) = F at *
  generalize perr (.mk k n s l) = E at *
  go_enter Tryd.func3, Tryd.ntmps3
  have Xc := X.cell
  go_wp2_with (first
   | (go_at_call 8; (with_reducible refine (Hsize.out _ kk).mono ?_); rintro e w1 ⟨rfl, hb⟩; replace X := X.keep hb; replace kk := below_call kk hb kk.size; clear Xc; have Xc := X.cell)
   | (go_at_call 10; (with_reducible refine (Hput.out _ kk).mono ?_); rintro e w2 ⟨v2, rfl, own2, hb⟩; obtain ⟨A2, c2, rfl, -, -⟩ := own2.form; clear own2; replace X := X.keep hb; replace kk := below_call kk hb kk.size; clear Xc; have Xc := X.cell)
   | (go_at_call 11; (with_reducible refine (Href.out _ kk).mono ?_); rintro e w3 ⟨v3, rfl, own3, hb⟩; obtain ⟨A3, c3, rfl, -, -⟩ := own3.form; clear own3; replace X := X.keep hb; replace kk := below_call kk hb kk.size; clear Xc; have Xc := X.cell)
   | (go_at_call 9; (with_reducible refine (Haw.out _ kk).mono ?_); rintro e w4 ⟨rfl, hb⟩; replace kk := below_call kk hb kk.size))
  go_ret
  exact ⟨rfl, kk⟩
 replace hrf := hrf (hgood hE).1
 replace hopen := hopen hE
 rw [← hfm hE] at hrf
 rw [if_pos hE, hE] at Hput
 rw [hE] at Href
 clear hgood hfm hE
 generalize mframe ver (pform (.mk k n s l)) = F at *
 generalize pform (.mk k n s l) = P at *
 have Hrf := Lib.hid hrf
 have hop0 : ∀ W A m c, Bytes W A m F → m ≤ c → c ≤ maxLen → Calls Tryd.prog 12 #[.int .u8 (ver : Int), .slice A m c] W (Opens W (.mk k n s l, 0)) := fun W A m c hb hm hc => by
  have := hopen ver hver W A m c hb hm hc
  rw [if_neg (Nat.lt_irrefl _), if_neg (Nat.lt_irrefl _)] at this
  exact this
 have hop1 : 0 < ver → ∀ W A m c, Bytes W A m F → m ≤ c → c ≤ maxLen → Calls Tryd.prog 12 #[.int .u8 ((ver : Int) - 1), .slice A m c] W (Opens W (tNone, 13)) := fun h0 W A m c hb hm hc => by
  have := hopen (ver - 1) (by omega) W A m c hb hm hc
  rw [if_pos (by omega), show ((ver - 1 : Nat) : Int) = (ver : Int) - 1 by omega] at this
  exact this
 have hop2 : ver < 255 → ∀ W A m c, Bytes W A m F → m ≤ c → c ≤ maxLen → Calls Tryd.prog 12 #[.int .u8 ((ver : Int) + 1), .slice A m c] W (Opens W (tNone, 4)) := fun h0 W A m c hb hm hc => by
  have := hopen (ver + 1) (by omega) W A m c hb hm hc
  rw [if_neg (by omega), if_pos (by omega), show ((ver + 1 : Nat) : Int) = (ver : Int) + 1 by omega] at this
  exact this
 have Hop0 := Lib.hid hop0
 have Hop1 := Lib.hid hop1
 have Hop2 := Lib.hid hop2
 clear hop0 hop1 hop2
 have Hsame := Lib.hid same
 have Hcs := Lib.hid hcs
 clear hrf hopen same hcs
 go_enter Tryd.func3, Tryd.ntmps3
 have Xc := X.cell
 go_upto_region 9 with (first
   | (go_at_call 8; (with_reducible refine (Hsize.out _ kk).mono ?_); rintro e w1 ⟨rfl, hb⟩; replace X := X.keep hb; replace kk := below_call kk hb kk.size; clear Xc; have Xc := X.cell)
   | (go_at_call 10; (with_reducible refine (Hput.out _ kk).mono ?_); rintro e w2 ⟨v2, rfl, own2, hb⟩; obtain ⟨A2, c2, rfl, hc2, hm2⟩ := own2.form; have hxx := X.lt; replace own2 := own2.lower (show w.heap.size + 1 ≤ _ from hxx); replace X := X.keep hb; replace kk := below_call kk hb kk.size; clear Xc; have Xc := X.cell)
   | (go_at_call 11; (with_reducible refine (Href.out _ kk).mono ?_); rintro e w3 ⟨v3, rfl, own3, hb⟩; obtain ⟨A3, c3, rfl, -, -⟩ := own3.form; clear own3; replace own2 := own2.keep hb; replace X := X.keep hb; replace kk := below_call kk hb kk.size; clear Xc; have Xc := X.cell))
 have S : FrS w (.mk k n s l) (.agg #[.int .i64 k, .int .u64 (n : Int), .string s, .slice A m c]) _ F _ := ⟨kk, X, ht0.keep kk, own2⟩
 clear kk X Xc own2 Hsize Hput Href hZ hZ' ht0 hxx
 go_upto_region 10 with (go_at_call 12; (with_reducible refine (Hop0.out _ _ _ _ S.B.bytes.2.2 hc2 hm2).mono ?_); rintro e w4 ⟨y4, rfl, hin, hb⟩; have S4 := S.keep hb; have h4 := hin.holds; obtain ⟨k4, n4, s4, A4, m4, c4, rfl⟩ := hin.form)
 have hba := below_one (w := w4) (.cells #[.int .i64 k4, .int .u64 n4, .string s4, .slice A4 m4 c4] 25)
 have Y := Blk.new w4 25 #[.int .i64 k4, .int .u64 n4, .string s4, .slice A4 m4 c4]
 replace S := S4.keep hba
 replace h4 := h4.keep hba
 clear hba S4 hin hb Hop0
 revert S Y h4
 generalize World.alloc w4 _ = W
 generalize w4.heap.size = g4
 intro Y S h4
 have Xc := S.X.cell
 simp only [Value.cells] at Xc
 have Yc := Y.cell
 go_upto_region 12 with (first
   | (go_at_call 14; (with_reducible refine (Hrf.out _ S.kk).mono ?_); rintro e w5 ⟨v5, rfl, own5, hb⟩; obtain ⟨A5, c5, rfl, -, -⟩ := own5.form; have by5 := own5.bytes.2.2; clear own5; replace S := S.keep hb; replace h4 := h4.keep hb; replace Y := Y.keep hb; clear Xc Yc; have Xc := S.X.cell; simp only [Value.cells] at Xc; have Yc := Y.cell)
   | (go_at_call 13; (with_reducible refine (Hsame.out _ _ _ _ _ _ _ _ S.B.bytes.2.2 by5).mono ?_); rintro e w6 ⟨rfl, hb⟩; replace S := S.keep hb; replace h4 := h4.keep hb; replace Y := Y.keep hb; clear Xc Yc; have Xc := S.X.cell; simp only [Value.cells] at Xc; have Yc := Y.cell)
   | (go_at_call 15; (with_reducible refine (Hcs.out _ _ S.h h4).mono ?_); rintro e w7 ⟨rfl, hb⟩; replace S := S.keep hb))
 clear Xc Yc h4 Y by5 Hrf Hsame Hcs hb
 by_cases v0 : 0 < ver
 ·have v0' : (0 : Int) < (ver : Int) := by omega
  have hop1 := Hop1.out v0
  have Hop1' := Lib.hid hop1
  clear hop1 Hop1
  have hw1 : IntKind.u8.wrap ((ver : Int) - 1) = (ver : Int) - 1 := by simp [IntKind.wrap, IntKind.bits, IntKind.signed]; omega
  go_upto_region 14 with (go_at_call 12; (with_reducible refine (Hop1'.out _ _ _ _ S.B.bytes.2.2 hc2 hm2).mono ?_); rintro e w8 ⟨y8, rfl, hin, hb⟩; have S4 := S.keep hb; have h4 := hin.holds; obtain ⟨k4, n4, s4, A4, m4, c4, rfl⟩ := hin.form)
  have hba := below_one (w := w8) (.cells #[.int .i64 k4, .int .u64 n4, .string s4, .slice A4 m4 c4] 25)
  replace S := S4.keep hba
  clear hba S4 hin hb h4
  revert S
  generalize World.alloc w8 _ = W
  intro S
  by_cases v1 : ver < 255
  ·have v1' : (ver : Int) < 255 := by omega
   have hop2 := Hop2.out v1
   have Hop2' := Lib.hid hop2
   clear hop2 Hop2
   have hw2 : IntKind.u8.wrap ((ver : Int) + 1) = (ver : Int) + 1 := by simp [IntKind.wrap, IntKind.bits, IntKind.signed]; omega
   go_upto_region 18 with (go_at_call 12; (with_reducible refine (Hop2'.out _ _ _ _ S.B.bytes.2.2 hc2 hm2).mono ?_); rintro e w9 ⟨y9, rfl, hin, hb⟩; have S4 := S.keep hb; have h4 := hin.holds; obtain ⟨k4, n4, s4, A4, m4, c4, rfl⟩ := hin.form)
   have hba := below_one (w := w9) (.cells #[.int .i64 k4, .int .u64 n4, .string s4, .slice A4 m4 c4] 25)
   replace S := S4.keep hba
   clear hba S4 hin hb h4
   revert S
   generalize World.alloc w9 _ = W
   intro S
   have kk := S.kk
   go_wp2_with (go_at_call 9; (with_reducible refine (Haw.out _ kk).mono ?_); rintro e w4 ⟨rfl, hb⟩; replace kk := below_call kk hb kk.size)
   go_ret
   exact ⟨rfl, kk⟩
  ·have v1' : ¬ (ver : Int) < 255 := by omega
   have kk := S.kk
   go_wp2_with (go_at_call 9; (with_reducible refine (Haw.out _ kk).mono ?_); rintro e w4 ⟨rfl, hb⟩; replace kk := below_call kk hb kk.size)
   go_ret
   exact ⟨rfl, kk⟩
 ·have v0' : ¬ (0 : Int) < (ver : Int) := by omega
  have v1 : ver < 255 := by omega
  have v1' : (ver : Int) < 255 := by omega
  have hop2 := Hop2.out v1
  have Hop2' := Lib.hid hop2
  clear hop2 Hop2
  have hw2 : IntKind.u8.wrap ((ver : Int) + 1) = (ver : Int) + 1 := by simp [IntKind.wrap, IntKind.bits, IntKind.signed]; omega
  go_upto_region 18 with (go_at_call 12; (with_reducible refine (Hop2'.out _ _ _ _ S.B.bytes.2.2 hc2 hm2).mono ?_); rintro e w9 ⟨y9, rfl, hin, hb⟩; have S4 := S.keep hb; have h4 := hin.holds; obtain ⟨k4, n4, s4, A4, m4, c4, rfl⟩ := hin.form)
  have hba := below_one (w := w9) (.cells #[.int .i64 k4, .int .u64 n4, .string s4, .slice A4 m4 c4] 25)
  replace S := S4.keep hba
  clear hba S4 hin hb h4
  revert S
  generalize World.alloc w9 _ = W
  intro S
  have kk := S.kk
  go_wp2_with (go_at_call 9; (with_reducible refine (Haw.out _ kk).mono ?_); rintro e w4 ⟨rfl, hb⟩; replace kk := below_call kk hb kk.size)
  go_ret
  exact ⟨rfl, kk⟩
end Go.Proofs.YtlolnakeancenaaDoor
