/- The walk of the law ShimApart. -/
import Derived.Test.YtlolnakeancenaaDoorShimApartQ41
namespace Go.Proofs.YtlolnakeancenaaDoor
open Go.RowKit
set_option linter.unusedVariables false
set_option linter.unusedSimpArgs false
set_option maxRecDepth 20000
attribute [local go_sem ↓] Go.wp_at_zero Go.wp_at_succ
attribute [local go_sem] World.cell?_alloc_some frozen_alloc_some
attribute [local go_sem ↓ high] loadVar_msg storeVar_msg msg_store_new
theorem new2 (w:World) (c:Array Value):Blk (w.alloc (.cells c 50)) w.heap.size 50 c∧Below w.heap.size w (w.alloc (.cells c 50)):=⟨Blk.new w _ c,below_one _⟩
set_option maxHeartbeats 16000000 in
theorem shimapart_walk (M:MsgT) (w:World) (hK:KindsAt w) (hT:Tabs w) (hM:M.Ok w):Calls Tryd.prog 6 #[M.v] w (Gives w (.bool true)):=by
 have haw:=fun W (h:Below w.heap.size w W)=>awake11 W (hK.keep h) (hT.keep h)
 have hg1:=fun W=>great10_any M W
 have hy1:= @mgreat_no M
 have hpt:=fun (hy:M.cy.size≤60000) W (h:Below w.heap.size w W)=>put10_any M W (hK.keep h) (hM.keep h) (hT.keep h) hy
 have hdn:=fun (hy:M.cy.size≤60000) W (h:Below w.heap.size w W)=>down11_any M W (hK.keep h) (hM.keep h) (hT.keep h) hy
 have hr1:∀(hy:M.cy.size≤60000) (hE:putE M=0) A n c W,Below w.heap.size w W→Bytes W A n (putL M)→n≤c→c≤maxLen→Calls Tryd.prog 22 #[.slice A n c,.int .i64 1] W (Takes W (mzero 0,13)):=fun hy hE A n c W h hb hn hc=>by
  have hm:=putE_mok hE
  have hL:putL M=mframe 2 (pform (ltree (mparts M))):=by unfold putL;rw [if_pos hm,if_pos (mperr hm hy)]
  have ho:mopen 1 (putL M)=(tNone,13):=by rw [hL,mopen_frame (mparts_good hm hy) (mperr hm hy),if_pos (by decide)]
  exact read1_any A n c (mzero 0) 13 W (fun W2 h2=>by
   have:=up_err A n c (putL M) W2 (hb.keep h2) hn hc (by rw [ho];decide)
   rw [ho] at this
   exact this)
 have hr2:∀(hy:M.cy.size≤60000) (hE:putE M=0) A n c W,Below w.heap.size w W→Bytes W A n (putL M)→n≤c→c≤maxLen→Calls Tryd.prog 22 #[.slice A n c,.int .i64 2] W (Takes W (M.norm,0)):=fun hy hE A n c W h hb hn hc=>by
  have hm:=putE_mok hE
  have hL:putL M=mframe 2 (pform (ltree (mparts M))):=by unfold putL;rw [if_pos hm,if_pos (mperr hm hy)]
  obtain ⟨ad,hA,hcell,hn0⟩:=heads hL hb
  exact read2_take A n c M.norm 0 W 2 ⟨ad,hA,hcell⟩ hn0 (by decide) (fun W2 h2=>by
   have:=take10_any A n c (putL M) W2 (hb.keep h2) hn hc (hK.keep (below_call h h2 h.size)) (hT.keep (below_call h h2 h.size))
   rw [hL,mtake_put hm hy (mperr hm hy)] at this
   exact this)
 have hup:=fun (hy:M.cy.size≤60000) (hd:downE M=0) A n c W (h:Below w.heap.size w W) (hb:Bytes W A n (downL M)) (hn:n≤c) (hc:c≤maxLen)=>up_good M A n c W (downE_ok hd).2.1 hd hy (by rw [downL,if_pos hd] at hb;exact hb) hn hc (hK.keep h) (hT.keep h)
 have hr3:=fun (hy:M.cy.size≤60000) (hd:downE M=0) A n c W (h:Below w.heap.size w W) (hb:Bytes W A n (downL M)) (hn:n≤c) (hc:c≤maxLen)=>read1_any A n c M.norm 0 W (fun W2 h2=>hup hy hd A n c W2 (below_call h h2 h.size) (hb.keep h2) hn hc)
 have hr4:∀(hy:M.cy.size≤60000) (hE:downE M=0) A n c W,Below w.heap.size w W→Bytes W A n (downL M)→n≤c→c≤maxLen→Calls Tryd.prog 22 #[.slice A n c,.int .i64 2] W (Takes W (M.norm,0)):=fun hy hd A n c W h hb hn hc=>by
  have hL:downL M=mframe 1 (pform (ltree (oldP M))):=by rw [downL,if_pos hd]
  obtain ⟨ad,hA,hcell,hn0⟩:=heads hL hb
  exact read2_up A n c M.norm 0 W ⟨ad,hA,hcell⟩ hn0 (fun W2 h2=>hup hy hd A n c W2 (below_call h h2 h.size) (hb.keep h2) hn hc)
 have hd17:putE M=0→downE M=0∨downE M=17:=fun h=>by
  unfold downE
  rw [if_neg (fun h2=>h2 h)]
  split
  ·exact .inr rfl
  ·exact .inl rfl
 have hsm:∀A2 c2 W,Below w.heap.size w W→IdsAt W A2 M.l.length M.l→Calls Tryd.prog 20 #[M.v,((M.norm).at A2 M.l.length c2).v] W (Gives W (.bool true)):=fun A2 c2 W h hI=>by
  have:=msgsame_any M ((M.norm).at A2 M.l.length c2) W (hM.l.keep h) hI
  rw [msame_iff.2 (show M.norm=((M.norm).at A2 M.l.length c2).norm from rfl)] at this
  exact this
 have hsr:∀A2 c2 W,Below w.heap.size w W→IdsAt W A2 M.l.length M.l→Calls Tryd.prog 20 #[((M.norm).at A2 M.l.length c2).v,M.v] W (Gives W (.bool true)):=fun A2 c2 W h hI=>by
  have:=msgsame_any ((M.norm).at A2 M.l.length c2) M W hI (hM.l.keep h)
  rw [msame_iff.2 (show ((M.norm).at A2 M.l.length c2).norm=M.norm from rfl)] at this
  exact this
 clear hup hK hT hM
 generalize mgreat M=gM at*
 generalize putL M=LM at*
 generalize downL M=LD at*
 generalize putE M=EM at*
 generalize downE M=DM at*
 obtain ⟨k,i,n,br,bb,tr,tb,st,ck,cc,cq,cy,cx,cr,A,m,cap,sq,tg,ver,l⟩:=M
 have hs1:∀Az cz W,Below w.heap.size w W→IdsAt W Az l.length l→Calls Tryd.prog 20 #[.agg #[.int .i64 k,.int .i64 i,.int .i64 n,.int .i64 br,.int .i64 bb,.int .i64 tr,.int .i64 tb,.int .i64 st,.int .i64 ck,.int .i64 cc,.int .i64 cq,.string cy,.string cx,.int .i64 cr,.slice A m cap,.int .i64 sq,.int .i64 tg,.int .i64 ver],.agg #[.int .i64 k,.int .i64 i,.int .i64 n,.int .i64 br,.int .i64 bb,.int .i64 tr,.int .i64 tb,.int .i64 st,.int .i64 ck,.int .i64 cc,.int .i64 cq,.string cy,.string cx,.int .i64 cr,.slice Az l.length cz,.int .i64 sq,.int .i64 tg,.int .i64 ver]] W (Gives W (.bool true)):=hsm
 have hs2:∀Az cz W,Below w.heap.size w W→IdsAt W Az l.length l→Calls Tryd.prog 20 #[.agg #[.int .i64 k,.int .i64 i,.int .i64 n,.int .i64 br,.int .i64 bb,.int .i64 tr,.int .i64 tb,.int .i64 st,.int .i64 ck,.int .i64 cc,.int .i64 cq,.string cy,.string cx,.int .i64 cr,.slice Az l.length cz,.int .i64 sq,.int .i64 tg,.int .i64 ver],.agg #[.int .i64 k,.int .i64 i,.int .i64 n,.int .i64 br,.int .i64 bb,.int .i64 tr,.int .i64 tb,.int .i64 st,.int .i64 ck,.int .i64 cc,.int .i64 cq,.string cy,.string cx,.int .i64 cr,.slice A m cap,.int .i64 sq,.int .i64 tg,.int .i64 ver]] W (Gives W (.bool true)):=hsr
 clear hsm hsr
 simp only [MsgT.v] at hg1 hpt hdn hy1 hr1 hr2 hr3 hr4 ⊢
 have Haw:=Lib.hid haw
 have Hg1:=Lib.hid hg1
 have Hs1:=Lib.hid hs1
 have Hs2:=Lib.hid hs2
 clear haw hg1 hs1 hs2
 have S:SlS w #[.int .i64 k,.int .i64 i,.int .i64 n,.int .i64 br,.int .i64 bb,.int .i64 tr,.int .i64 tb,.int .i64 st,.int .i64 ck,.int .i64 cc,.int .i64 cq,.string cy,.string cx,.int .i64 cr,.slice A m cap,.int .i64 sq,.int .i64 tg,.int .i64 ver] (w.alloc (.cells #[.int .i64 k,.int .i64 i,.int .i64 n,.int .i64 br,.int .i64 bb,.int .i64 tr,.int .i64 tb,.int .i64 st,.int .i64 ck,.int .i64 cc,.int .i64 cq,.string cy,.string cx,.int .i64 cr,.slice A m cap,.int .i64 sq,.int .i64 tg,.int .i64 ver] 50)):=⟨below_one _,Blk.new w _ _⟩
 cases gM
 case true=>
  clear hpt hdn hr1 hr2 hr3 hr4 hy1 hd17
  go_enter Tryd.func6,Tryd.ntmps6
  have l1:=msg_load S.X
  go_wp2_with (first|(go_at_call 16;(with_reducible refine (Hg1.out _).mono ?_);rintro e w1 ⟨rfl,hb⟩;replace S:=S.keep hb;clear l1;have l1:=msg_load S.X)|(go_at_call 21;(with_reducible refine (Haw.out _ S.kk).mono ?_);rintro e w2 ⟨rfl,hb⟩;replace S:=S.keep hb))
  go_ret
  exact ⟨rfl,S.kk⟩
 obtain ⟨-,h1, -⟩:=hy1 rfl
 have h6:=Nat.le_trans h1 (show 200≤60000 by decide)
 have Hpt:=Lib.hid (hpt h6)
 have Hdn:=Lib.hid (hdn h6)
 replace hr1:=hr1 h6
 replace hr2:=hr2 h6
 replace hr3:=hr3 h6
 replace hr4:=hr4 h6
 clear hpt hdn hy1 h1 h6
 by_cases hE:EM=0
 case neg=>
  have hE':((EM:Int) != 0)=true:=by simp;omega
  clear hr1 hr2 hr3 hr4 hd17
  go_enter Tryd.func6,Tryd.ntmps6
  have l1:=msg_load S.X
  go_wp2_with (first|(go_at_call 16;(with_reducible refine (Hg1.out _).mono ?_);rintro e w1 ⟨rfl,hb⟩;replace S:=S.keep hb;clear l1;have l1:=msg_load S.X)|(go_at_call 17;(with_reducible refine (Hpt.out _ S.kk).mono ?_);rintro e w3 ⟨v3,rfl,own3,hb⟩;obtain ⟨A3,c3,rfl, -, -⟩:=own3.form;clear own3;replace S:=S.keep hb)|(go_at_call 21;(with_reducible refine (Haw.out _ S.kk).mono ?_);rintro e w2 ⟨rfl,hb⟩;replace S:=S.keep hb))
  go_ret
  exact ⟨rfl,S.kk⟩
 subst hE
 have hd:=hd17 rfl
 have Hr1:=Lib.hid (hr1 rfl)
 have Hr2:=Lib.hid (hr2 rfl)
 clear hr1 hr2 hd17
 go_enter Tryd.func6,Tryd.ntmps6
 have l1:=msg_load S.X
 go_upto_region 7 with (first
  |(go_at_call 16;(with_reducible refine (Hg1.out _).mono ?_);rintro e w1 ⟨rfl,hb⟩;replace S:=S.keep hb;clear l1;have l1:=msg_load S.X)
  |(go_at_call 17;(with_reducible refine (Hpt.out _ S.kk).mono ?_);rintro e w3 ⟨v3,rfl,own3,hb⟩;obtain ⟨A3,c3,rfl,hn3,hc3⟩:=own3.form;have by3:=own3.bytes.2.2;clear own3;replace S:=S.keep hb)
  |(go_at_call 22;(with_reducible refine (Hr1.out _ _ _ _ S.kk by3 hn3 hc3).mono ?_);rintro e w4 ⟨A4,c4,rfl, -, -, -,hb⟩;simp only [MsgT.v,MsgT.at,mzero];replace S:=S.keep hb;replace by3:=by3.keep hb))
 have hba:=below_one (w:=w4) (.cells #[.int .i64 0,.int .i64 0,.int .i64 0,.int .i64 0,.int .i64 0,.int .i64 0,.int .i64 0,.int .i64 0,.int .i64 0,.int .i64 0,.int .i64 0,.string ⟨#[]⟩,.string ⟨#[]⟩,.int .i64 0,.slice A4 0 c4,.int .i64 0,.int .i64 0,.int .i64 0] 50)
 replace S:=S.keep hba
 replace by3:=by3.keep hba
 clear hba hb
 revert by3
 revert S
 generalize World.alloc w4 _=W5
 intro S by3
 clear l1
 go_upto_region 8 with (go_at_call 22;(with_reducible refine (Hr2.out _ _ _ _ S.kk by3 hn3 hc3).mono ?_);rintro e w6 ⟨A7,c7,rfl,hI, -, -,hb⟩;simp only [MsgT.v,MsgT.at,MsgT.norm];replace S:=S.keep hb)
 clear by3
 obtain ⟨M7,hba⟩:=new2 w6 #[.int .i64 k,.int .i64 i,.int .i64 n,.int .i64 br,.int .i64 bb,.int .i64 tr,.int .i64 tb,.int .i64 st,.int .i64 ck,.int .i64 cc,.int .i64 cq,.string cy,.string cx,.int .i64 cr,.slice A7 l.length c7,.int .i64 sq,.int .i64 tg,.int .i64 ver]
 have I7:=Lib.hid (show IdsAt _ A7 l.length l from IdsAt.keep hI hba)
 replace S:=S.keep hba
 clear hba hb hI
 revert S
 revert I7
 revert M7
 generalize World.alloc w6 _=W7
 generalize w6.heap.size=gM7
 intro M7 I7 S
 have l1:=msg_load S.X
 have l7:=msg_load M7
 go_upto_region 11 with (first
  |(go_at_call 20;(with_reducible refine (Hs1.out A7 c7 _ S.kk I7.out).mono ?_);rintro e w8 ⟨rfl,hb⟩;replace S:=S.keep hb;have l1':=msg_load S.X)
  |(go_at_call 23;(with_reducible refine (Hdn.out _ S.kk).mono ?_);rintro e w9 ⟨v9,rfl,own9,hb⟩;obtain ⟨A9,c9,rfl,hn9,hc9⟩:=own9.form;have by9:=own9.bytes.2.2;clear own9;replace S:=S.keep hb))
 clear M7 I7 l1 l7
 rcases hd with rfl|rfl
 ·have Hr3:=Lib.hid (hr3 rfl)
  have Hr4:=Lib.hid (hr4 rfl)
  clear hr3 hr4
  go_upto_region 14 with (go_at_call 22;(with_reducible refine (Hr3.out _ _ _ _ S.kk by9 hn9 hc9).mono ?_);rintro e w10 ⟨A11,c11,rfl,hI, -, -,hb⟩;simp only [MsgT.v,MsgT.at,MsgT.norm];replace S:=S.keep hb;replace by9:=by9.keep hb)
  obtain ⟨M11,hba⟩:=new2 w10 #[.int .i64 k,.int .i64 i,.int .i64 n,.int .i64 br,.int .i64 bb,.int .i64 tr,.int .i64 tb,.int .i64 st,.int .i64 ck,.int .i64 cc,.int .i64 cq,.string cy,.string cx,.int .i64 cr,.slice A11 l.length c11,.int .i64 sq,.int .i64 tg,.int .i64 ver]
  have I11:=Lib.hid (show IdsAt _ A11 l.length l from IdsAt.keep hI hba)
  replace S:=S.keep hba
  replace by9:=by9.keep hba
  clear hba hb hI
  revert by9
  revert S
  revert I11
  revert M11
  generalize World.alloc w10 _=W11
  generalize w10.heap.size=gM11
  intro M11 I11 S by9
  go_upto_region 15 with (go_at_call 22;(with_reducible refine (Hr4.out _ _ _ _ S.kk by9 hn9 hc9).mono ?_);rintro e w12 ⟨A13,c13,rfl,hI, -, -,hb⟩;simp only [MsgT.v,MsgT.at,MsgT.norm];replace S:=S.keep hb;replace M11:=M11.keep hb;replace I11:=Lib.hid (IdsAt.keep I11.out hb))
  clear by9
  obtain ⟨M13,hba⟩:=new2 w12 #[.int .i64 k,.int .i64 i,.int .i64 n,.int .i64 br,.int .i64 bb,.int .i64 tr,.int .i64 tb,.int .i64 st,.int .i64 ck,.int .i64 cc,.int .i64 cq,.string cy,.string cx,.int .i64 cr,.slice A13 l.length c13,.int .i64 sq,.int .i64 tg,.int .i64 ver]
  have I13:=Lib.hid (show IdsAt _ A13 l.length l from IdsAt.keep hI hba)
  replace S:=S.keep hba
  replace M11:=M11.keep hba
  replace I11:=Lib.hid (IdsAt.keep I11.out hba)
  clear hba hb hI
  revert I11
  revert M11
  revert S
  revert I13
  revert M13
  generalize World.alloc w12 _=W13
  generalize w12.heap.size=gM13
  intro M13 I13 S M11 I11
  have l1:=msg_load S.X
  have l11:=msg_load M11
  have l13:=msg_load M13
  go_wp2_with (first
   |(go_at_call 20;(with_reducible refine (Hs2.out A11 c11 _ S.kk I11.out).mono ?_);rintro e w8 ⟨rfl,hb⟩;replace S:=S.keep hb;replace M13:=M13.keep hb;replace I13:=Lib.hid (IdsAt.keep I13.out hb);have l1':=msg_load S.X;have l13':=msg_load M13)
   |(go_at_call 20;(with_reducible refine (Hs2.out A13 c13 _ S.kk I13.out).mono ?_);rintro e w8 ⟨rfl,hb⟩;replace S:=S.keep hb;have l1':=msg_load S.X)
   |(go_at_call 21;(with_reducible refine (Haw.out _ S.kk).mono ?_);rintro e w2 ⟨rfl,hb⟩;replace S:=S.keep hb))
  go_ret
  exact ⟨rfl,S.kk⟩
 ·clear hr3 hr4
  go_wp2_with (go_at_call 21;(with_reducible refine (Haw.out _ S.kk).mono ?_);rintro e w2 ⟨rfl,hb⟩;replace S:=S.keep hb)
  go_ret
  exact ⟨rfl,S.kk⟩
end Go.Proofs.YtlolnakeancenaaDoor
