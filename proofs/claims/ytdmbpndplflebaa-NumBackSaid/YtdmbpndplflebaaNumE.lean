/- The walks of the laws NumPuts and NumBack (package stonecroplaw01). -/
import Derived.Test.YtdmbpndplflebaaNumD
import Derived.Test.YtdmbpndplflebaaPick
namespace Go.Proofs.Ytdmbpndplflebaa
open Go.RowKit
set_option linter.unusedVariables false
set_option linter.unusedSimpArgs false
set_option maxRecDepth 20000
attribute [local go_sem ↓] Go.wp_at_zero Go.wp_at_succ
attribute [local go_sem] World.cell?_alloc_some frozen_alloc_some
attribute [local go_sem] lt2 lt3 lt4 lt5
attribute [local simp] lt2 lt3 lt4 lt5

/-- What an append leaves is of the call's own. -/
theorem OwnB.join {w : World} {base : Nat} {e : TypeId} {v : Value} {l m : List Nat} (h : w.ownsRow base e 1 v (l.length + m.length) (u8s l ++ u8s m)) (hl : ∀ c ∈ l, c < 256) (hm : ∀ c ∈ m, c < 256) : OwnB w base e v (l ++ m) :=
  ⟨by rw [List.length_append, u8s_append]; exact h, fun c hc => by
    rcases List.mem_append.1 hc with hc | hc
    · exact hl c hc
    · exact hm c hc⟩
theorem OwnB.past {w0 w w' : World} {base : Nat} {e : TypeId} {v : Value} {l : List Nat} {row : Option Nat} (h : OwnB w0 base e v l) (hb : Below w0.heap.size w0 w) (hg : w.grownBy w' row) (hr : ∀ k, row = some k → w0.heap.size ≤ k) : OwnB w' base e v l :=
  (h.keep hb).kept hg (by
    cases hv : v.ownBlock with
    | none => exact .inl rfl
    | some k =>
      right
      intro he
      have h1 := hr k he.symm
      have h2 := (h.1.lt k hv).2
      omega)

set_option maxHeartbeats 2000000 in
theorem puts_walk (A : Option Addr) (n cap : Nat) (l : List Nat) (v : Nat) (w : World) (hb : Bytes w A n l) (hv : v < 2 ^ 64) :
    Calls Try.prog 10 #[.slice A n cap, .int .u64 (v : Int)] w (Gives w (.bool true)) := by
  by_cases hn : 300 < n
  · go_enter Try.func10, Try.ntmps10
    go_wp2_with (go_at_call 23; (with_reducible refine (awake01 _).mono ?_); rintro e w1 ⟨rfl, hbw1⟩; have hzw1 := hbw1.size; (try simp at hzw1))
    go_ret
    exact ⟨rfl, by ((repeat' first | with_reducible exact Below.refl _ _ | with_reducible assumption | with_reducible refine Below.alloc ?_ ?_ _ | with_reducible refine Below.setCell ?_ ?_ _ | with_reducible apply Below.drew | with_reducible apply below_drewN | with_reducible refine below_call ?_ (by with_reducible assumption) ?_) <;> (first | omega | (simp; done) | (simp; omega) | (simp at *; omega)))⟩
  have hln := hb.1
  subst hln
  obtain ⟨i0, hi, hz0, hz1, hz2⟩ := info_parts info_u8
  have hF : (form v).length ≤ 9 := by
    rw [size_form]; have := wid_bound hv; unfold size; split <;> omega
  have hFb := form_bytes hv
  have hbl := hb.lt
  have put : ∀ W base b, OwnB W base 5 b l → base ≤ W.heap.size → Calls Try.prog 24 #[b, .int .u64 (v : Int)] W (Appends W base 5 b l (form v)) := fun W base b h1 h2 => put_any b l base v W h1 h2 (by omega) hv
  have size : ∀ W, Calls Try.prog 27 #[.int .u64 (v : Int)] W (Gives W (.int .i64 ((form v).length : Int))) := fun W => by
    rw [size_form]; exact size_any v W hv
  have ref : ∀ W, Calls Try.prog 26 #[.int .u64 (v : Int)] W (Makes W 5 (form v)) := fun W => refput_any v W hv
  have same : ∀ (W : World) (A B : Option Addr) (n c m d : Nat) (l : List Nat), n = m → Bytes W A n l → Bytes W B m l → Calls Try.prog 25 #[.slice A n c, .slice B m d] W (Gives W (.bool true)) := fun W A B n c m d l e ha hb => by
    have := same_any A B n m c d l l W ha hb
    simpa using this
  generalize form v = F at *
  have hown0 : OwnB (w.alloc (.cells #[] 5)) w.heap.size 5 (.slice (some ⟨w.heap.size, 0, none⟩) 0 0) [] := OwnB.made (Nat.le_refl _)
  have hsrc0 := Src.of_bytes (hb.keep (below_one (.cells #[] 5)))
  go_enter Try.func10, Try.ntmps10
  go_wp2_with (at_builtin; go_loud (refine wpList_app _ rfl (.tmp 10) (.tmp 11) 30 rfl _ 5 i0 _ 1 1 Try.underlying30 hi hz0 hz1 hz2 rfl (by omega) _ _ _ rfl hown0.1 _ _ _ _ rfl hsrc0 ?h63 ?hby ?hbase ?_); (case h63 => (unfold maxLen; first | omega | (simp; done) | (simp; omega))); (case hby => first | omega | (simp; done) | (simp; omega)); (case hbase => first | omega | (simp; done) | (simp; omega)); intro v1 w1 hownw1 hgroww1 hatw1 holdw1)
  have hown1 : OwnB w1 w.heap.size 5 v1 l := OwnB.join (l := []) hownw1 (by simp) hbl
  have hb1 : Below w.heap.size w w1 := below_app (below_one _) hown0.1 hgroww1 (Nat.le_refl _) (by simp)
  have hz1' := hb1.size
  clear hownw1 hgroww1 hatw1 holdw1 hown0 hsrc0
  refine (put _ w.heap.size _ hown1 hb1.size).mono ?_
  rintro e w2 ⟨b2, rfl, hon2⟩
  have hb2 : Below w.heap.size w w2 := hon2.below hb1 (Nat.le_refl _) hb1.size hown1
  have hz2' := hb2.size
  have hown2 := hon2.own
  have hin2 := hon2.old
  clear hon2 hown1 hb1 put
  have hown0 : OwnB (w2.alloc (.cells #[] 5)) w.heap.size 5 (.slice (some ⟨w2.heap.size, 0, none⟩) 0 0) [] := OwnB.made hb2.size
  have hsrc0 := Src.of_bytes (hb.keep (hb2.alloc hb2.size (.cells #[] 5)))
  go_wp2_with (at_builtin; go_loud (refine wpList_app _ rfl (.tmp 16) (.tmp 17) 30 rfl _ 5 i0 _ 1 1 Try.underlying30 hi hz0 hz1 hz2 rfl (by omega) _ _ _ rfl hown0.1 _ _ _ _ rfl hsrc0 ?h63 ?hby ?hbase ?_); (case h63 => (unfold maxLen; first | omega | (simp; done) | (simp; omega))); (case hby => first | omega | (simp; done) | (simp; omega)); (case hbase => first | omega | (simp; done) | (simp; omega)); intro v3 w3 hownw3 hgroww3 hatw3 holdw3)
  have hown3 : OwnB w3 w.heap.size 5 v3 l := OwnB.join (l := []) hownw3 (by simp) hbl
  have hb3 : Below w.heap.size w w3 := below_app (hb2.alloc hb2.size _) hown0.1 hgroww3 (Nat.le_refl _) (by simp; omega)
  have r3 : ∀ k, (Value.slice (some ⟨w2.heap.size, 0, none⟩) 0 0).ownBlock = some k → w2.heap.size ≤ k := fun k hk => by
    simp [Value.ownBlock] at hk; omega
  have hown23 := hown2.past (below_one _) hgroww3 r3
  have hin3 := hin2.past (below_one _) hgroww3 r3
  have q3 : ∀ k, v3.ownBlock = some k → w2.heap.size ≤ k := fun k hk => by
    rcases hatw3 with h | h
    · rw [h] at hk; exact r3 k hk
    · rw [h] at hk; simp at hk; omega
  have Q3 : ∀ k, v3.ownBlock = some k → (b2.ownBlock ≠ some k) ∧ v1.ownBlock ≠ some k := fun k hk =>
    ⟨fun h => by have := (hown2.1.lt k h).2; have := q3 k hk; omega, fun h => by have := (hin2.1.lt k h).2; have := q3 k hk; omega⟩
  clear hownw3 hgroww3 hatw3 holdw3 hown0 hsrc0 hown2 hin2 r3 q3 hb2
  have hz3' := hb3.size
  refine (ref _).mono ?_
  rintro e w4 ⟨b4, rfl, hown4, hbw4⟩
  obtain ⟨A4, c4, rfl, _, _⟩ := hown4.form
  have hz4' := hbw4.size
  go_wp2_with (at_builtin; go_loud (refine wpList_app _ rfl (.tmp 18) (.tmp 20) 30 rfl _ 5 i0 _ 1 1 Try.underlying30 hi hz0 hz1 hz2 rfl (by omega) _ _ _ rfl (hown3.keep hbw4).1 _ _ _ _ rfl (Src.of_bytes hown4.bytes.2.2) ?h63 ?hby ?hbase ?_); (case h63 => (unfold maxLen; first | omega | (simp; done) | (simp; omega))); (case hby => first | omega | (simp; done) | (simp; omega)); (case hbase => first | omega | (simp; done) | (simp; omega)); intro v5 w5 hownw5 hgroww5 hatw5 holdw5)
  have hown5 : OwnB w5 w.heap.size 5 v5 (l ++ F) := OwnB.join hownw5 hbl hFb
  have hb5 : Below w.heap.size w w5 := below_app (below_call hb3 hbw4 hb3.size) (hown3.keep hbw4).1 hgroww5 (Nat.le_refl _) (by omega)
  have hown25 : OwnB w5 w.heap.size 5 b2 (l ++ F) := (hown23.keep hbw4).kept hgroww5 (by
    cases h : b2.ownBlock with
    | none => exact .inl rfl
    | some k => exact .inr fun he => (Q3 k he.symm).1 h)
  have hin5 : OwnB w5 w.heap.size 5 v1 l := (hin3.keep hbw4).kept hgroww5 (by
    cases h : v1.ownBlock with
    | none => exact .inl rfl
    | some k => exact .inr fun he => (Q3 k he.symm).2 h)
  clear hownw5 hgroww5 hatw5 holdw5 hown4 hown3 hown23 hin3 Q3 hb3
  have hz5 := hb5.size
  obtain ⟨A5, c5, rfl, _, _⟩ := hown5.form
  obtain ⟨A2, c2, rfl, _, _⟩ := hown25.form
  obtain ⟨A1, c1, rfl, _, _⟩ := hin5.form
  have hB5 := hown5.bytes.2.2
  have hB2 := hown25.bytes.2.2
  have hB1 := hin5.bytes.2.2
  have s1 : ∀ W, Below w5.heap.size w5 W → Calls Try.prog 25 #[.slice A2 (l ++ F).length c2, .slice A5 (l ++ F).length c5] W (Gives W (.bool true)) := fun W h => same W _ _ _ _ _ _ _ rfl (hB2.keep h) (hB5.keep h)
  have s2 : ∀ W, Below w5.heap.size w5 W → Calls Try.prog 25 #[.slice A1 l.length c1, .slice A l.length cap] W (Gives W (.bool true)) := fun W h => same W _ _ _ _ _ _ _ rfl (hB1.keep h) ((hb.keep hb5).keep h)
  clear hown5 hown25 hin5 hB1 hB2 hB5
  generalize (l ++ F).length = lf at *
  go_wp2_with (first
    | (go_at_call 25; (with_reducible refine (s1 _ ?hbel).mono ?_); (case hbel => ((repeat' first | with_reducible exact Below.refl _ _ | with_reducible assumption | with_reducible refine Below.alloc ?_ ?_ _ | with_reducible refine Below.setCell ?_ ?_ _ | with_reducible apply Below.drew | with_reducible apply below_drewN | with_reducible refine below_call ?_ (by with_reducible assumption) ?_) <;> (first | omega | (simp; done) | (simp; omega) | (simp at *; omega)))); rintro e w6 ⟨rfl, hbw6⟩; have hzw6 := hbw6.size; (try simp at hzw6))
    | (go_at_call 25; (with_reducible refine (s2 _ ?hbel).mono ?_); (case hbel => ((repeat' first | with_reducible exact Below.refl _ _ | with_reducible assumption | with_reducible refine Below.alloc ?_ ?_ _ | with_reducible refine Below.setCell ?_ ?_ _ | with_reducible apply Below.drew | with_reducible apply below_drewN | with_reducible refine below_call ?_ (by with_reducible assumption) ?_) <;> (first | omega | (simp; done) | (simp; omega) | (simp at *; omega)))); rintro e w6 ⟨rfl, hbw6⟩; have hzw6 := hbw6.size; (try simp at hzw6))
    | (go_at_call 27; (with_reducible refine (size _).mono ?_); rintro e w6 ⟨rfl, hbw6⟩; have hzw6 := hbw6.size; (try simp at hzw6))
    | (go_at_call 26; (with_reducible refine (ref _).mono ?_); rintro e w7 ⟨b7, rfl, hown7, hbw7⟩; have hz7 := hbw7.size; obtain ⟨A7, c7, rfl, _, _⟩ := hown7.form; clear hown7)
    | (go_at_call 23; (with_reducible refine (awake01 _).mono ?_); rintro e w6 ⟨rfl, hbw6⟩; have hzw6 := hbw6.size; (try simp at hzw6)))
  all_goals go_ret
  all_goals exact ⟨by simp, by ((repeat' first | with_reducible exact Below.refl _ _ | with_reducible assumption | with_reducible refine Below.alloc ?_ ?_ _ | with_reducible refine Below.setCell ?_ ?_ _ | with_reducible apply Below.drew | with_reducible apply below_drewN | with_reducible refine below_call ?_ (by with_reducible assumption) ?_) <;> (first | omega | (simp; done) | (simp; omega) | (simp at *; omega)))⟩
end Go.Proofs.Ytdmbpndplflebaa
