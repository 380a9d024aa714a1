/- Texts TaskF, TaskG, TaskH. -/
import Derived.Test.YtjmkkcckfbnmeaaGreatDoorM40
import Derived.StillTailTactics
import Derived.Deep.RegionHeld3
set_option maxRecDepth 100000
set_option maxHeartbeats 8000000
set_option linter.all false
open Go.Lib (hid)
namespace Go.Proofs.YtjmkkcckfbnmeaaGreatDoor.Tk
open Go.RowKit Cr
theorem act_cells {w':World}{B g xp:Nat}{who:Int}{t:M.Task}{vo vi:Value}(h:TaskP w' B g xp who t vo vi)(hiq:t.id=0):w'.cell? ⟨g,0,none⟩=some (.pointer (some ⟨xp,0,none⟩))∧w'.cell? ⟨g,16,none⟩=some (.int .i64 0)∧w'.cell? ⟨g,3,none⟩=some (.int .i64 t.q.kind)∧w'.cell? ⟨g,4,none⟩=some (.string t.q.tenant)∧w'.cell? ⟨g,5,none⟩=some (.string t.q.col)∧w'.cell? ⟨g,6,none⟩=some (.string t.q.uid)∧w'.cell? ⟨g,7,none⟩=some (.string t.q.card)∧w'.cell? ⟨g,8,none⟩=some (.int .i64 t.q.ck)∧w'.cell? ⟨g,9,none⟩=some (.int .i64 t.q.cv)∧w'.cell? ⟨g,10,none⟩=some vo∧w'.cell? ⟨g,11,none⟩=some (.int .i64 t.q.token)∧w'.cell? ⟨g,12,none⟩=some (.int .i64 t.q.most)∧w'.cell? ⟨g,13,none⟩=some (.int .i64 t.q.ticks):=by
 refine⟨by simpa[taskC] using h.cell.cell 0,by simpa[taskC,hiq] using h.cell.cell 16,by simpa[taskC] using h.cell.cell 3,by simpa[taskC] using h.cell.cell 4,by simpa[taskC] using h.cell.cell 5,by simpa[taskC] using h.cell.cell 6,by simpa[taskC] using h.cell.cell 7,by simpa[taskC] using h.cell.cell 8,by simpa[taskC] using h.cell.cell 9,by simpa[taskC] using h.cell.cell 10,by simpa[taskC] using h.cell.cell 11,by simpa[taskC] using h.cell.cell 12,by simpa[taskC] using h.cell.cell 13⟩
theorem worked_a {w W w2:World}{B g xp:Nat}{who:Int}{t:M.Task}{k:Cf}{r:M.Core × M.Resp}{vo vi v:Value}(fW:Fr [] w W)(hv:Ev.ItsAt w2 B v r.2.items)(hc:CoreAt w2 B xp k r.1)(hx:FrX B Ts [] W w2)(hT:TaskP w B g xp who t vo vi) :
  Worked B g xp who t k r w (.pointer (some ⟨w2.heap.size,0,none⟩)) v (w2.alloc (.cells #[.int .i64 r.2.kind,.int .i64 r.2.err,.int .i64 r.2.token,.int .i64 r.2.version,.string r.2.card,.int .i64 r.2.index,.bool r.2.more,.slice none 0 0] 53)) :=
 ⟨_,rfl,worked_after fW hv hc hx hT⟩
theorem worked_b {w W w2:World}{B g xp n:Nat}{who:Int}{t:M.Task}{k:Cf}{r:M.Core × M.Resp}{vo vi v:Value}(hn:n=W.heap.size)(fW:Fr [] w W)(hv:Ev.ItsAt w2 B v r.2.items)(hc:CoreAt w2 B xp k r.1)(hx:FrX B Ts [] (W.alloc (.cells (Ev.rsc { kind:=0 } (.slice none 0 0)).toArray 53)) w2)(hB:B≤w.heap.size)(hT:TaskP w B g xp who t vo vi) :
  Worked B g xp who t k r w (.pointer (some ⟨n,0,none⟩)) v ((((((((w2.setCell ⟨n,0,none⟩ (.int .i64 r.2.kind)).setCell ⟨n,1,none⟩ (.int .i64 r.2.err)).setCell ⟨n,2,none⟩ (.int .i64 r.2.token)).setCell ⟨n,3,none⟩ (.int .i64 r.2.version)).setCell ⟨n,4,none⟩ (.string r.2.card)).setCell ⟨n,5,none⟩ (.int .i64 r.2.index)).setCell ⟨n,6,none⟩ (.bool r.2.more)).setCell ⟨n,7,none⟩ (.slice none 0 0)):=by
 subst hn
 exact⟨_,rfl,worked_before fW hv hc hx rfl hB hT⟩
theorem act_stored {w wc W1:World}{B g xp b:Nat}{who:Int}{t:M.Task}{k:Cf}{r:M.Core × M.Resp}{vo1 vi1:Value}{a3:Option Addr}{c3:Nat}(hW:W1=wc.setCell ⟨b,7,none⟩ (.slice a3 r.2.items.length c3))(hB:B≤w.heap.size)(hbw:w.heap.size≤b)
  (hb:Holds wc b 53 (Ev.rsc r.2 (.slice none 0 0)).toArray) (hi:Ev.ItsAt wc B (.slice a3 r.2.items.length c3) r.2.items) (hc:CoreAt wc B xp k r.1) (hT:TaskP wc B g xp who t vo1 vi1) (hx:FrX B Ts [] w wc) :
  Holds W1 b 53 (Ev.rsc r.2 (.slice a3 r.2.items.length c3)).toArray∧TaskP W1 B g xp who t vo1 vi1∧CoreAt W1 B xp k r.1∧Ev.ItsAt W1 B (.slice a3 r.2.items.length c3) r.2.items∧FrX B Ts [] w W1:=by
 have x1:FrX B [53] [] wc W1:=by
  rw[hW]
  exact FrX.of_frT ((Fr.refl [b] wc).setCell (by simp) _) (by simp;omega) (fun y hy=>⟨53,by simp,by simp at hy;subst hy;exact hb.ty⟩)
 refine⟨?_,hT.frx x1 (by decide) (by decide) (by decide),hc.frx x1 (by decide),hi.frx0 x1 (by decide),?_⟩
 ·rw[hW];simpa[Ev.rsc] using hb.set 7 (.slice a3 r.2.items.length c3)
 ·rw[hW];exact hx.setNew hbw _
theorem act_settled {w W w':World}{B g xp:Nat}{who s:Int}{t:M.Task}{k:Cf}{x:M.Core}{r:M.Core × M.Resp}{vo1 vi1 v:Value}(hg:B≤g)(hs:t.step x who=(r.1,t.settle r.2 s))(hT:TaskP W B g xp who t vo1 vi1)(hc:CoreAt W B xp k r.1)(hx:FrX B Ts [] w W)(h3:TaskP w' B g xp who (t.settle r.2 s) vo1 v)(f3:Fr [g] W w') :
  Stepped w B g xp who k (t.step x who) w':=by
 rw[hs]
 exact⟨⟨vo1,v,h3⟩,core_set hc f3 hg hT.cell.ty,(hx.mono (fun _ h=>h) (by simp)).trans (task_fr f3 hg)⟩
theorem act_body (w:World)(B g xp:Nat)(who:Int)(t:M.Task)(vo vi:Value)(k:Cf)(x:M.Core)(p:M.Place)(h:TaskP w B g xp who t vo vi)(hc:CoreAt w B xp k x)(hg:B≤g)(hxp:B≤xp)(hB:B≤w.heap.size)(hm:MayAct x p t who) :
  Calls Tryz.prog 70 #[.pointer (some ⟨g,0,none⟩)] w fun e w'=>e = .returned (.tuple #[])∧Stepped w B g xp who k (t.step x who) w':=by
 have HS:=hid (step3_eq t x who hm.h3)
 have hsa:x.alive t.id=true:=by simp[M.Core.alive,hm.hp,hm.hiq,hm.hal]
 have c0:=h.cell.cell 0
 have c1:=h.cell.cell 1
 have c16:=h.cell.cell 16
 have c3:=h.cell.cell 3
 have c4:=h.cell.cell 4
 have c5:=h.cell.cell 5
 have c6:=h.cell.cell 6
 have c7:=h.cell.cell 7
 have c8:=h.cell.cell 8
 have c9:=h.cell.cell 9
 have c10:=h.cell.cell 10
 have c11:=h.cell.cell 11
 have c12:=h.cell.cell 12
 have c13:=h.cell.cell 13
 simp[taskC,hm.hiq] at c0 c1 c16 c3 c4 c5 c6 c7 c8 c9 c10 c11 c12 c13
 have HA:=hid (fun W (f:Fr [] w W)=>alive_any W B xp k x p (hc.fr0 f) hm.hp)
 rw[hm.hal] at HA
 have HW:=hid (fun W (f:Fr [] w W)=>work_any W B xp k x p t.q vo (hc.fr0 f) hxp (by have:=f.size;omega) hm.hp hm.hal (Own.fr0 h.ops f) hm.hmc hm.hm)
 have HT:=hid h
 have hgl:=h.cell.lt
 clear h hc
 go_enter Tryz.func70,Tryz.ntmps70
 go_wp2_with fail
 go_quiet ((go_at_call 111;exact quiet_same (HA.out _ (by first|exact(Fr.refl _ _).drewN _|exact(Fr.refl _ _).drew|exact Fr.refl _ _))))
 obtain⟨W,hW⟩:∃ W,W=w.drewN nq:=⟨_,rfl⟩
 have fW:Fr [] w W:=by rw[hW];exact(Fr.refl _ _).drewN _
 rw[←hW]
 have d0:=fW.cell c0 (block_lt_of_cell c0) (by simp)
 have d1:=fW.cell c1 (block_lt_of_cell c1) (by simp)
 have d16:=fW.cell c16 (block_lt_of_cell c16) (by simp)
 have d3:=fW.cell c3 (block_lt_of_cell c3) (by simp)
 have d4:=fW.cell c4 (block_lt_of_cell c4) (by simp)
 have d5:=fW.cell c5 (block_lt_of_cell c5) (by simp)
 have d6:=fW.cell c6 (block_lt_of_cell c6) (by simp)
 have d7:=fW.cell c7 (block_lt_of_cell c7) (by simp)
 have d8:=fW.cell c8 (block_lt_of_cell c8) (by simp)
 have d9:=fW.cell c9 (block_lt_of_cell c9) (by simp)
 have d10:=fW.cell c10 (block_lt_of_cell c10) (by simp)
 have d11:=fW.cell c11 (block_lt_of_cell c11) (by simp)
 have d12:=fW.cell c12 (block_lt_of_cell c12) (by simp)
 have d13:=fW.cell c13 (block_lt_of_cell c13) (by simp)
 have hgW:=Nat.lt_of_lt_of_le hgl fW.size
 clear hW c0 c1 c16 c3 c4 c5 c6 c7 c8 c9 c10 c11 c12 c13 hgl HA
 obtain⟨r,hr⟩:∃ r,x.work t.q=r:=⟨_,rfl⟩
 have HR:=hid hr
 rw[hr] at HW HS
 simp only[Ev.rsc] at HW
 clear hr
 go_wp2_with fail
 go_cut [2,3] from 5 (fun s2 s3 wc=>Worked B g xp who t k r w s2 s3 wc)
 case first =>
  go_region_held3 (fun w'=>w'.cell? ⟨g,0,none⟩=some (.pointer (some ⟨xp,0,none⟩))∧w'.cell? ⟨g,16,none⟩=some (.int .i64 0)∧w'.cell? ⟨g,3,none⟩=some (.int .i64 t.q.kind)∧w'.cell? ⟨g,4,none⟩=some (.string t.q.tenant)∧w'.cell? ⟨g,5,none⟩=some (.string t.q.col)∧w'.cell? ⟨g,6,none⟩=some (.string t.q.uid)∧w'.cell? ⟨g,7,none⟩=some (.string t.q.card)∧w'.cell? ⟨g,8,none⟩=some (.int .i64 t.q.ck)∧w'.cell? ⟨g,9,none⟩=some (.int .i64 t.q.cv)∧w'.cell? ⟨g,10,none⟩=some vo∧w'.cell? ⟨g,11,none⟩=some (.int .i64 t.q.token)∧w'.cell? ⟨g,12,none⟩=some (.int .i64 t.q.most)∧w'.cell? ⟨g,13,none⟩=some (.int .i64 t.q.ticks)) (first|with_reducible exact hS|exact hP|go_keep)
   (first
    | (go_at_call 112;refine(HW.out _ fW.drew).mono ?_;rintro e w2 ⟨v,rfl,hv,hc2,x2'⟩;have hT2:=(HT.out.fr0 fW.drew).frx x2' (by decide) (by decide) (by decide);have hS:=act_cells hT2 hm.hiq;have HV:=hid hv;have HC:=hid hc2;have HX:=hid x2';clear hv hc2 x2')
    | (go_at_call 112;refine(HW.out _ (fW.drew.alloc _)).mono ?_;rintro e w2 ⟨v,rfl,hv,hc2,x2'⟩;have hT2:=(HT.out.fr0 (fW.drew.alloc _)).frx x2' (by decide) (by decide) (by decide);have hS:=act_cells hT2 hm.hiq;have bx:=(Holds.new W.drew 53 (Ev.rsc { kind:=0 } (.slice none 0 0)).toArray).frx x2' (by decide) (by simp);have hP:=act_cells (hT2.frx (Ev.put8_frx (o:=0) (a:=r.2) (v:=.slice none 0 0) (Ts:=[53]) (Nat.le_trans hB fW.size:B≤W.drew.heap.size) bx.ty (by simp)) (by decide) (by decide) (by decide)) hm.hiq;have bl:=bx.lt;have e0:=bx.cell 0;have z0:=bx.frozen 0;have e1:=bx.cell 1;have z1:=bx.frozen 1;have e2:=bx.cell 2;have z2:=bx.frozen 2;have e3:=bx.cell 3;have z3:=bx.frozen 3;have e4:=bx.cell 4;have z4:=bx.frozen 4;have e5:=bx.cell 5;have z5:=bx.frozen 5;have e6:=bx.cell 6;have z6:=bx.frozen 6;have e7:=bx.cell 7;have z7:=bx.frozen 7;simp[Ev.rsc] at bl e0 z0 e1 z1 e2 z2 e3 z3 e4 z4 e5 z5 e6 z6 e7 z7;have HV:=hid hv;have HC:=hid hc2;have HX:=hid x2';clear hv hc2 x2'))
  ·go_wp2_with fail
   go_meet
   case rel=>exact worked_a fW.drew HV.out HC.out HX.out HT.out
  ·go_wp2_with fail
   go_meet
   case rel=>exact worked_b (W:=W.drew) rfl fW.drew HV.out HC.out HX.out hB HT.out
 case rest =>
  obtain⟨b,rfl,hbw,hb,hi,hc,⟨vo1,vi1,hT1⟩,hx⟩:=hcut
  obtain⟨a3,c3,hu3⟩:=Own.form hi
  subst hu3
  have hgb:g≠b:=hT1.cell.ne hb (by decide)
  have hbg:b≠g:=Ne.symm hgb
  obtain⟨W1,hW1⟩:∃ W1,W1=wc.setCell ⟨b,7,none⟩ (.slice a3 r.2.items.length c3):=⟨_,rfl⟩
  obtain⟨b1,T1,C1,I1,X1⟩:=act_stored hW1 hB hbw hb hi hc hT1 hx
  obtain⟨e0,e1,e2,e3,e4,e5,e6,e7⟩:=hb.cs8
  have z7:=hb.frozen 7
  have hbl:=hb.lt
  have g3:=hT1.cell.cell 3
  have g27:=hT1.cell.cell 27
  simp[taskC] at g3 g27
  simp[Ev.rsc] at e0 e1 e2 e3 e4 e5 e6 e7
  have HB1:=hid b1
  have HT1:=hid T1
  have HC1:=hid C1
  have HI1:=hid I1
  have HX1:=hid X1
  have HSA:=hid hsa
  have HLI:=hid (show r.2.items.length≤20 by rw[←HR.out];exact hm.hit)
  have HMC:=hid hm.hmc
  have HID:=hid hm.hiq
  have hin:(r.2.items.length:Int)≤20:=by have:=HLI.out;omega
  have hwl:=hT1.cell.lt
  clear hb hi hc hT1 hx b1 T1 C1 I1 X1 hsa hm HW HT d0 d1 d16 d3 d4 d5 d6 d7 d8 d9 d10 d11 d12 d13
  by_cases h9:t.q.kind=9∧r.2.err=15
  ·obtain⟨h9,h15⟩:=h9
   have hr1:r.1=x:=by rw[←HR.out];exact work9 x t.q h9
   rw[h9] at g3
   rw[h15] at e1
   have HS1:=hid (show t.step x who=if x.now ≥ t.deadline then (r.1,t.settle r.2 6) else (r.1.sleep who 0 t.deadline,{ t with stage:=6 }) by
    rw[HS.out,if_neg (by rw[HSA.out];simp),if_pos (by simp[h9,h15]),HID.out])
   have H9:=hid h9
   clear h9 h15 HS
   go_wp2_with fail
   rw[←hW1]
   have p0:=HT1.out.cell.cell 0
   have p1:=HT1.out.cell.cell 1
   have p14:=HT1.out.cell.cell 14
   have p16:=HT1.out.cell.cell 16
   simp[taskC,HID.out] at p0 p1 p14 p16
   have HN:=hid (fun W (f:Fr [] W1 W)=>now_any W B xp k r.1 (HC1.out.fr0 f))
   clear e0 e1 e2 e3 e4 e5 e6 e7 z7 hbl g3 g27 hW1
   go_quiet ((go_at_call 104;exact quiet_same (HN.out _ (by first|exact(Fr.refl _ _).drewN _|exact(Fr.refl _ _).drew|exact Fr.refl _ _))))
   obtain⟨W2,hW2⟩:∃ W2,W2=W1.drewN nq:=⟨_,rfl⟩
   have fW2:Fr [] W1 W2:=by rw[hW2];exact(Fr.refl _ _).drewN _
   rw[←hW2]
   clear hW2
   have q0:=fW2.cell p0 (block_lt_of_cell p0) (by simp)
   have q1:=fW2.cell p1 (block_lt_of_cell p1) (by simp)
   have q14:=fW2.cell p14 (block_lt_of_cell p14) (by simp)
   have q16:=fW2.cell p16 (block_lt_of_cell p16) (by simp)
   rw[hr1] at HN ⊢
   clear p0 p1 p14 p16
   have B2:=hid (HB1.out.fr fW2 (by simp))
   have T2:=hid (HT1.out.fr0 fW2)
   have C2:=hid (HC1.out.fr0 fW2)
   have I2:=hid (Own.fr0 HI1.out fW2)
   have X2:=hid (HX1.out.trans (FrX.of_fr0 fW2))
   refine(Decidable.em (x.now ≥ t.deadline)).elim (fun hd=>?_) (fun hd=>?_)
   ·have hbd:¬ x.now<t.deadline:=by omega
    have HS2:=hid (HS1.out.trans (if_pos hd))
    clear hd
    obtain⟨e0,e1,e2,e3,e4,e5,e6,e7⟩:=B2.out.cs8
    simp[Ev.rsc] at e0 e1 e2 e3 e4 e5 e6 e7
    go_wp2_with fail
    refine(settle_any W2 B g xp who 6 t r.2 vo1 vi1 _ T2.out hg I2.out HLI.out).mono ?_
    rintro e w3 ⟨rfl,h3,f3⟩
    have HE:=hid (act_settled hg HS2.out T2.out C2.out X2.out h3 f3)
    clear e0 e1 e2 e3 e4 e5 e6 e7 h3 f3
    go_wp2_with fail
    first
     | exact bodyPost_ret (results_none rfl _ _ _) rfl ⟨rfl,HE.out⟩
     | exact bodyPost_end (results_none rfl _ _ _) rfl ⟨rfl,HE.out⟩
   ·have hbd:x.now<t.deadline:=by omega
    have HS2:=hid (HS1.out.trans (if_neg hd))
    clear hd
    obtain⟨hh,ha⟩:x.hub.length≤90∧x.alarms.length≤90:=by
     have:=HMC.out
     simp only[M.mayCore,decide_eq_true_eq] at this
     omega
    have hB2:B≤W2.drew.heap.size:=Nat.le_trans hB X2.out.size
    have HSL:=hid (sleep_any W2.drew B xp k r.1 who t.deadline (C2.out.fr0 (Fr.refl _ _).drew) hB2 (by rw[hr1];exact hh) (by rw[hr1];exact ha))
    clear hh ha hB2
    go_wp2_with fail
    go_still_tail 16,(by kernel_rfl)
    change wpList _ _ _ _ _ W2.drew
    go_wp2_with fail
    refine HSL.out.mono ?_
    rintro e w3 ⟨rfl,hc3,x3⟩
    have hT3:=(T2.out.fr0 (Fr.refl _ _).drew).frx x3 (by decide) (by decide) (by decide)
    have c15:=hT3.cell.cell 15
    have z15:=hT3.cell.frozen 15
    simp[taskC] at c15
    have hgl:=hT3.cell.lt
    have HT3:=hid hT3
    have HC3:=hid hc3
    have X3:=hid ((X2.out.trans (FrX.of_fr0 (Fr.refl _ _).drew)).trans x3)
    clear hT3 hc3 x3 q0 q1 q14 q16
    go_wp2_with fail
    have f4:Fr [g] w3 (w3.setCell ⟨g,15,none⟩ (.int .i64 6)):=(Fr.refl _ _).setCell (by simp) _
    have HE:Stepped w B g xp who k (t.step x who) (w3.setCell ⟨g,15,none⟩ (.int .i64 6)):=by
     rw[HS2.out]
     exact⟨⟨vo1,vi1,by simpa[taskC] using HT3.out.cell.set 15 (.int .i64 6),own_set HT3.out.ops f4 hg HT3.out.cell.ty (by decide),own_set HT3.out.its f4 hg HT3.out.cell.ty (by decide),HT3.out.l1,HT3.out.l2⟩,core_set HC3.out f4 hg HT3.out.cell.ty,(X3.out.mono (fun _ h=>h) (by simp)).trans (task_fr f4 hg)⟩
    first
     | exact bodyPost_ret (results_none rfl _ _ _) rfl ⟨rfl,HE⟩
     | exact bodyPost_end (results_none rfl _ _ _) rfl ⟨rfl,HE⟩
  ·obtain⟨s,hs,hstp⟩:∃ s,(s=if t.q.kind=7∧r.2.err=0 then (4:Int) else if 0<r.2.items.length then 5 else 6)∧t.step x who=(r.1,t.settle r.2 s):=by
    refine⟨_,rfl,?_⟩
    rw[HS.out,if_neg (by rw[HSA.out];simp),if_neg (by simpa using h9)]
    by_cases h7:t.q.kind=7∧r.2.err=0
    ·rw[if_pos (by simpa using h7),if_pos h7]
    ·rw[if_neg (by simpa using h7),if_neg h7]
     split<;>rfl
   have HSet:=hid (settle_any W1 B g xp who s t r.2 vo1 vi1 _ HT1.out hg HI1.out HLI.out)
   have HE:=hid (fun (w3:World) h3 f3=>act_settled (w':=w3) (v:=.slice a3 r.2.items.length c3) hg hstp HT1.out HC1.out HX1.out h3 f3)
   have HSt:=hid hs
   clear hstp hs HS
   have hfin:∀ (a:Act) (w3:World),a.defers=[]→Stepped w B g xp who k (t.step x who) w3→bodyPost Tryz.prog Tryz.f70 (fun e w'=>e = .returned (.tuple #[])∧Stepped w B g xp who k (t.step x who) w') .normal a w3:=fun a w3 hd hst=>bodyPost_end (results_none rfl _ _ _) hd ⟨rfl,hst⟩
   have HF:=hid hfin
   clear hfin
   by_cases h7:t.q.kind=7∧r.2.err=0
   ·obtain⟨h7,h0⟩:=h7
    have hs4:s=4:=by rw[HSt.out,if_pos ⟨h7,h0⟩]
    subst hs4
    have ke:(r.2.err==0)=true:=by simpa using h0
    rw[h7] at g3
    clear h7 h0 h9
    go_wp2_with fail
    rw[←hW1]
    refine HSet.out.mono ?_
    rintro e w3 ⟨rfl,h3,f3⟩
    have HE3:=hid (HE.out w3 h3 f3)
    clear h3 f3
    go_wp2_with fail
    exact HF.out _ _ rfl HE3.out
   ·have hs5:s=if 0<r.2.items.length then 5 else 6:=by rw[HSt.out,if_neg h7]
    have hit:(¬ 0<(r.2.items.length:Int)∧s=6)∨(0<(r.2.items.length:Int)∧s=5):=by
     rcases Nat.eq_zero_or_pos r.2.items.length with h|h
     ·exact .inl ⟨by omega,by rw[hs5,if_neg (by omega)]⟩
     ·exact .inr ⟨by omega,by rw[hs5,if_pos h]⟩
    have htst:(t.q.kind=9∧(r.2.err==15)=false)∨(t.q.kind=7∧(r.2.err==0)=false)∨((t.q.kind==9)=false∧(t.q.kind==7)=false):=by
     by_cases k9:t.q.kind=9
     ·exact .inl ⟨k9,by simpa using fun e=>h9 ⟨k9,e⟩⟩
     ·by_cases k7:t.q.kind=7
      ·exact .inr (.inl ⟨k7,by simpa using fun e=>h7 ⟨k7,e⟩⟩)
      ·exact .inr (.inr ⟨by simpa using k9,by simpa using k7⟩)
    clear hs5 h7 h9
    rcases htst with⟨k9,ke⟩|⟨k7,ke⟩|⟨k9,k7⟩
    case' inl=>rw[k9] at g3
    case' inr.inl=>rw[k7] at g3
    case' inr.inr=>skip
    all_goals
     rcases hit with⟨hpos,rfl⟩|⟨hpos,rfl⟩
     all_goals
      go_wp2_with fail
      rw[←hW1]
      refine HSet.out.mono ?_
      rintro e w3 ⟨rfl,h3,f3⟩
      have HE3:=hid (HE.out w3 h3 f3)
      clear h3 f3
      go_wp2_with fail
      exact HF.out _ _ rfl HE3.out
end Go.Proofs.YtjmkkcckfbnmeaaGreatDoor.Tk
namespace Go.Proofs.YtjmkkcckfbnmeaaGreatDoor.Tk
open Go.RowKit Cr
theorem writes_any (w:World)(k:Int):Calls Tryz.prog 69 #[.int .i64 k] w fun e w'=>e = .returned (.bool (M.writes k))∧w=w':=by
 by_cases h2:k=2
 ·subst h2
  go_enter Tryz.func69,Tryz.ntmps69
  go_wp2_with fail
  go_ret
  exact⟨rfl,rfl⟩
 by_cases h3:k=3
 ·subst h3
  go_enter Tryz.func69,Tryz.ntmps69
  go_wp2_with fail
  go_ret
  exact⟨rfl,rfl⟩
 by_cases h4:k=4
 ·subst h4
  go_enter Tryz.func69,Tryz.ntmps69
  go_wp2_with fail
  go_ret
  exact⟨rfl,rfl⟩
 by_cases h5:k=5
 ·subst h5
  go_enter Tryz.func69,Tryz.ntmps69
  go_wp2_with fail
  go_ret
  exact⟨rfl,rfl⟩
 by_cases h7:k=7
 ·subst h7
  go_enter Tryz.func69,Tryz.ntmps69
  go_wp2_with fail
  go_ret
  exact⟨rfl,rfl⟩
 have b2:(k==2)=false:=by simpa using h2
 have b3:(k==3)=false:=by simpa using h3
 have b4:(k==4)=false:=by simpa using h4
 have b5:(k==5)=false:=by simpa using h5
 have b7:(k==7)=false:=by simpa using h7
 have HE:=hid (show M.writes k=false by simp[M.writes,b2,b3,b4,b5,b7])
 clear h2 h3 h4 h5 h7
 go_enter Tryz.func69,Tryz.ntmps69
 go_wp2_with fail
 go_ret
 exact⟨by rw[HE.out];rfl,rfl⟩
theorem stage_set {w W:World}{B g xp:Nat}{who s:Int}{t:M.Task}{k:Cf}{x:M.Core}{vo vi:Value}(hT:TaskP W B g xp who t vo vi)(hc:CoreAt W B xp k x)(hx:FrX B Ts [g] w W)(hg:B≤g) :
  Stepped w B g xp who k (x,{ t with stage:=s }) (W.setCell ⟨g,15,none⟩ (.int .i64 s)):=by
 have f3:Fr [g] W (W.setCell ⟨g,15,none⟩ (.int .i64 s)):=(Fr.refl _ _).setCell (by simp) _
 exact⟨⟨vo,vi,by simpa[taskC] using hT.cell.set 15 (.int .i64 s),own_set hT.ops f3 hg hT.cell.ty (by decide),own_set hT.its f3 hg hT.cell.ty (by decide),hT.l1,hT.l2⟩,core_set hc f3 hg hT.cell.ty,hx.trans (task_fr f3 hg)⟩
theorem stepped_fr {w w1 w2:World}{B g xp:Nat}{who:Int}{k:Cf}{r:M.Core × M.Task}(f:Fr [] w w1)(h:Stepped w1 B g xp who k r w2):Stepped w B g xp who k r w2 :=
 ⟨h.1,h.2.1,(FrX.of_fr0 f).trans h.2.2⟩
theorem step_seek (w:World)(B g xp:Nat)(who:Int)(t:M.Task)(k:Cf)(x:M.Core)(h:TaskAt w B g xp who t)(hc:CoreAt w B xp k x)(hmc:M.mayCan x t=true)(hs:t.stage=1)
  (hsk:∀ W,Fr [] w W→Calls Tryz.prog 67 #[.pointer (some ⟨g,0,none⟩)] W fun e w'=>e = .returned (.tuple #[])∧Stepped W B g xp who k (t.step x who) w') :
  Calls Tryz.prog 33 #[.pointer (some ⟨g,0,none⟩)] w fun e w'=>e = .returned (.bool true)∧Stepped w B g xp who k (t.step x who) w':=by
 have hcan:t.can x who=true:=by simp[M.Task.can,hs]
 have HC:=hid (can_any w B g xp who t k x h hc hmc)
 rw[hcan] at HC
 have HT:=hid h
 have HK:=hid hsk
 have HST:=hid hs
 clear h hc hmc hs hcan hsk
 generalize t.step x who=r at *
 go_enter Tryz.func33,Tryz.ntmps33
 go_wp2_with fail
 refine HC.out.mono ?_
 rintro e w1 ⟨rfl,f1⟩
 obtain⟨vo,vi,hT⟩:=HT.out
 have c15:=(hT.fr0 f1).cell.cell 15
 simp[taskC,HST.out] at c15
 have HK1:=hid (HK.out w1 f1)
 have F1:=hid f1
 clear hT f1
 go_wp2_with fail
 refine HK1.out.mono ?_
 rintro e w2 ⟨rfl,h2⟩
 have H2:=hid (stepped_fr F1.out h2)
 clear h2
 go_wp2_with fail
 go_ret
 exact⟨rfl,H2.out⟩
theorem step_act (w:World)(B g xp:Nat)(who:Int)(t:M.Task)(k:Cf)(x:M.Core)(h:TaskAt w B g xp who t)(hc:CoreAt w B xp k x)(hmc:M.mayCan x t=true)(hs:t.stage=3)(hcan:t.can x who=true)
  (hsk:∀ W,Fr [] w W→Calls Tryz.prog 70 #[.pointer (some ⟨g,0,none⟩)] W fun e w'=>e = .returned (.tuple #[])∧Stepped W B g xp who k (t.step x who) w') :
  Calls Tryz.prog 33 #[.pointer (some ⟨g,0,none⟩)] w fun e w'=>e = .returned (.bool true)∧Stepped w B g xp who k (t.step x who) w':=by
 have HC:=hid (can_any w B g xp who t k x h hc hmc)
 rw[hcan] at HC
 have HT:=hid h
 have HK:=hid hsk
 have HST:=hid hs
 clear h hc hmc hs hcan hsk
 generalize t.step x who=r at *
 go_enter Tryz.func33,Tryz.ntmps33
 go_wp2_with fail
 refine HC.out.mono ?_
 rintro e w1 ⟨rfl,f1⟩
 obtain⟨vo,vi,hT⟩:=HT.out
 have c15:=(hT.fr0 f1).cell.cell 15
 simp[taskC,HST.out] at c15
 have HK1:=hid (HK.out w1 f1)
 have F1:=hid f1
 clear hT f1
 go_wp2_with fail
 refine HK1.out.mono ?_
 rintro e w2 ⟨rfl,h2⟩
 have H2:=hid (stepped_fr F1.out h2)
 clear h2
 go_wp2_with fail
 go_ret
 exact⟨rfl,H2.out⟩
theorem step_rest (w:World)(B g xp:Nat)(who:Int)(t:M.Task)(k:Cf)(x:M.Core)(h:TaskAt w B g xp who t)(hc:CoreAt w B xp k x)(hg:B≤g)(hB:B≤w.heap.size)(hmc:M.mayCan x t=true)(hs:t.stage=7)(hcan:t.can x who=true)(hh:x.hub.length≤90) :
  Calls Tryz.prog 33 #[.pointer (some ⟨g,0,none⟩)] w fun e w'=>e = .returned (.bool true)∧Stepped w B g xp who k (t.step x who) w':=by
 have HE:=hid (show t.step x who=(x.rise who,{ t with stage:=1 }) by simp[M.Task.step,hs])
 have HC:=hid (can_any w B g xp who t k x h hc hmc)
 rw[hcan] at HC
 have HT:=hid h
 have HST:=hid hs
 have HR:=hid (fun W (f:Fr [] w W)=>rise_any W B xp k x who (hc.fr0 f) (by have:=f.size;omega) (by omega))
 clear h hc hmc hs hcan
 go_enter Tryz.func33,Tryz.ntmps33
 go_wp2_with fail
 refine HC.out.mono ?_
 rintro e w1 ⟨rfl,f1⟩
 obtain⟨vo,vi,hT⟩:=HT.out
 have hT1:=hT.fr0 f1
 have c15:=hT1.cell.cell 15
 have c0:=hT1.cell.cell 0
 have c1:=hT1.cell.cell 1
 simp[taskC,HST.out] at c15 c0 c1
 have HT1:=hid hT1
 have F1:=hid f1
 have HR1:=hid (HR.out w1.drew f1.drew)
 clear hT f1 hT1
 go_wp2_with fail
 go_still_tail 8,(by kernel_rfl)
 change wpList _ _ _ _ _ w1.drew
 go_wp2_with fail
 refine HR1.out.mono ?_
 rintro e w2 ⟨rfl,hc2,x2⟩
 have hT2:=(HT1.out.fr0 (Fr.refl _ _).drew).frx x2 (by decide) (by decide) (by decide)
 have c15:=hT2.cell.cell 15
 have z15:=hT2.cell.frozen 15
 simp[taskC] at c15
 have hgl:=hT2.cell.lt
 have HT2:=hid hT2
 have HC2:=hid hc2
 have X2:=hid (((FrX.of_fr0 F1.out.drew:FrX B Ts [] w w1.drew).trans x2).mono (S:=[g]) (fun _ h=>h) (by simp))
 clear hT2 hc2 x2 c0 c1
 go_wp2_with fail
 go_ret
 rw[HE.out]
 exact⟨rfl,stage_set HT2.out HC2.out X2.out hg⟩
theorem step_queue (w:World)(B g xp:Nat)(who:Int)(t:M.Task)(k:Cf)(x:M.Core)(p:M.Place)(h:TaskAt w B g xp who t)(hc:CoreAt w B xp k x)(hg:B≤g)(hB:B≤w.heap.size)(hmc:M.mayCan x t=true)(hs:t.stage=2)(hiq:t.id=0)(hp:x.place=some p)(hlk:p.lock.readers.length+p.lock.queue.length≤90) :
  Calls Tryz.prog 33 #[.pointer (some ⟨g,0,none⟩)] w fun e w'=>e = .returned (.bool true)∧Stepped w B g xp who k (t.step x who) w':=by
 have hcan:t.can x who=true:=by simp[M.Task.can,hs]
 have HE:=hid (show t.step x who=(x.lock 0 who (M.writes t.q.kind),{ t with stage:=3 }) by simp[M.Task.step,hs,hiq])
 have HC:=hid (can_any w B g xp who t k x h hc hmc)
 rw[hcan] at HC
 have HT:=hid h
 have HST:=hid (And.intro hs hiq)
 have HW:=hid (fun W=>writes_any W t.q.kind)
 have HL:=hid (fun W b (f:Fr [] w W)=>lock_any W B xp k x p who b (hc.fr0 f) hp (by have:=f.size;omega) (by omega))
 clear h hc hmc hs hcan hiq
 obtain⟨kd,hkd⟩:∃ kd,t.q.kind=kd:=⟨_,rfl⟩
 have HKD:=hid hkd
 rw[hkd] at HW HE
 clear hkd
 generalize M.writes kd=wt at *
 go_enter Tryz.func33,Tryz.ntmps33
 go_wp2_with fail
 refine HC.out.mono ?_
 rintro e w1 ⟨rfl,f1⟩
 obtain⟨vo,vi,hT⟩:=HT.out
 have hT1:=hT.fr0 f1
 have c15:=hT1.cell.cell 15
 have c0:=hT1.cell.cell 0
 have c1:=hT1.cell.cell 1
 have c3:=hT1.cell.cell 3
 have c16:=hT1.cell.cell 16
 simp[taskC,HST.out.1,HST.out.2,HKD.out] at c15 c0 c1 c3 c16
 have HT1:=hid hT1
 have F1:=hid f1
 clear hT f1 hT1
 go_wp2_with fail
 go_region_held3 (fun w'=>w'.cell? ⟨g,0,none⟩=some (.pointer (some ⟨xp,0,none⟩))∧w'.cell? ⟨g,1,none⟩=some (.int .i64 who)∧w'.cell? ⟨g,3,none⟩=some (.int .i64 kd)∧w'.cell? ⟨g,16,none⟩=some (.int .i64 0)) (first|go_keep|exact hS|(simpa[go_sem] using hS))
  (first
   | (go_at_call 69;refine(HW.out _).mono ?_;rintro e w2 ⟨rfl,rfl⟩)
   | (go_at_call 68;refine(HL.out _ _ (by first|exact F1.out.drewN _|exact F1.out.drew)).mono ?_;rintro e w3 ⟨⟨bb,rfl⟩,hc3,x3'⟩;have x3:FrX B Ts [] w w3:=(by first|exact(FrX.of_fr0 (F1.out.drewN _)).trans x3'|exact(FrX.of_fr0 F1.out.drew).trans x3');have hT3:=(HT1.out.frx (by first|exact(FrX.of_fr0 ((Fr.refl _ _).drewN _)).trans x3'|exact(FrX.of_fr0 (Fr.refl _ _).drew).trans x3') (by decide) (by decide) (by decide):TaskP w3 B g xp who t vo vi);have hS:=(⟨by simpa[taskC] using hT3.cell.cell 0,by simpa[taskC] using hT3.cell.cell 1,by simpa[taskC,HKD.out] using hT3.cell.cell 3,by simpa[taskC,HST.out.2] using hT3.cell.cell 16⟩:w3.cell? ⟨g,0,none⟩=some (.pointer (some ⟨xp,0,none⟩))∧w3.cell? ⟨g,1,none⟩=some (.int .i64 who)∧w3.cell? ⟨g,3,none⟩=some (.int .i64 kd)∧w3.cell? ⟨g,16,none⟩=some (.int .i64 0))))
 have d15:=hT3.cell.cell 15
 have z15:=hT3.cell.frozen 15
 simp[taskC] at d15
 have hgl:=hT3.cell.lt
 have HT3:=hid hT3
 have HC3:=hid hc3
 have X3:=hid (x3.mono (S:=[g]) (fun _ h=>h) (by simp))
 clear hT3 hc3 x3 x3' c0 c1 c3 c16 c15 hS
 go_wp2_with fail
 go_ret
 rw[HE.out]
 exact⟨rfl,stage_set HT3.out HC3.out X3.out hg⟩
end Go.Proofs.YtjmkkcckfbnmeaaGreatDoor.Tk
namespace Go.Proofs.YtjmkkcckfbnmeaaGreatDoor.Tk
open Go.RowKit Cr
theorem next_set {W:World}{B g xp:Nat}{who n:Int}{t:M.Task}{k:Cf}{x:M.Core}{vo vi:Value}(hT:TaskP W B g xp who t vo vi)(hc:CoreAt W B xp k x)(hg:B≤g) :
  TaskP (W.setCell ⟨g,26,none⟩ (.int .i64 n)) B g xp who { t with next:=n } vo vi∧CoreAt (W.setCell ⟨g,26,none⟩ (.int .i64 n)) B xp k x∧FrX B Ts [g] W (W.setCell ⟨g,26,none⟩ (.int .i64 n)):=by
 have f3:Fr [g] W (W.setCell ⟨g,26,none⟩ (.int .i64 n)):=(Fr.refl _ _).setCell (by simp) _
 exact⟨⟨by simpa[taskC] using hT.cell.set 26 (.int .i64 n),own_set hT.ops f3 hg hT.cell.ty (by decide),own_set hT.its f3 hg hT.cell.ty (by decide),hT.l1,hT.l2⟩,core_set hc f3 hg hT.cell.ty,task_fr f3 hg⟩
theorem step_read (w:World)(B g xp:Nat)(who:Int)(t:M.Task)(k:Cf)(x:M.Core)(h:TaskAt w B g xp who t)(hc:CoreAt w B xp k x)(hg:B≤g)(hmc:M.mayCan x t=true)(hs:t.stage=5)(hn0:0≤t.next)(hn1:t.next≤100) :
  Calls Tryz.prog 33 #[.pointer (some ⟨g,0,none⟩)] w fun e w'=>e = .returned (.bool true)∧Stepped w B g xp who k (t.step x who) w':=by
 have hcan:t.can x who=true:=by simp[M.Task.can,hs]
 have HC:=hid (can_any w B g xp who t k x h hc hmc)
 rw[hcan] at HC
 obtain⟨vo,vi,hT⟩:=h
 obtain⟨av,cv,hvi⟩:=Own.form hT.its
 subst hvi
 have hl2:=hT.l2
 obtain⟨nx,hnx⟩:∃ nx,t.next=nx:=⟨_,rfl⟩
 obtain⟨len,hlen⟩:∃ len,t.point.items.length=len:=⟨_,rfl⟩
 have HE:=hid (show t.step x who=(x,{ t with next:=nx+3,stage:=if nx+3 ≥ (len:Int) then 6 else 5 }) by rw[←hnx,←hlen];simp[M.Task.step,hs])
 have HT:=hid hT
 have HCo:=hid hc
 have HST:=hid (And.intro hs (And.intro hnx hlen))
 rw[hnx] at hn0 hn1
 rw[hlen] at hl2
 clear hc hmc hs hcan hT hnx hlen
 go_enter Tryz.func33,Tryz.ntmps33
 go_wp2_with fail
 refine HC.out.mono ?_
 rintro e w1 ⟨rfl,f1⟩
 have hT1:=HT.out.fr0 f1
 have c15:=hT1.cell.cell 15
 have c26:=hT1.cell.cell 26
 have c24:=hT1.cell.cell 24
 have z26:=hT1.cell.frozen 26
 simp[taskC,HST.out.1,HST.out.2.1,HST.out.2.2] at c15 c26 c24
 have hgl:=hT1.cell.lt
 obtain⟨W,hW⟩:∃ W,W=w1.setCell ⟨g,26,none⟩ (.int .i64 (nx+3)):=⟨_,rfl⟩
 have N1:=hid (next_set (n:=nx+3) hT1 (HCo.out.fr0 f1) hg)
 rw[←hW] at N1
 have X1:=hid ((FrX.of_fr0 f1:FrX B Ts [g] w w1).trans N1.out.2.2)
 clear f1 hT1
 go_wp2_with fail
 rw[←hW]
 have d26:=N1.out.1.cell.cell 26
 have d24:=N1.out.1.cell.cell 24
 simp[taskC,HST.out.2.2] at d26 d24
 clear c15 c26 z26 c24 hW hgl
 go_quiet (fail)
 obtain⟨W2,hW2⟩:∃ W2,W2=W.drewN nq:=⟨_,rfl⟩
 have fW2:Fr [] W W2:=by rw[hW2];exact(Fr.refl _ _).drewN _
 rw[←hW2]
 have hT2:=N1.out.1.fr0 fW2
 have hC2:=N1.out.2.1.fr0 fW2
 have X2:=hid (X1.out.trans (FrX.of_fr0 fW2))
 have y15:=hT2.cell.cell 15
 have z15:=hT2.cell.frozen 15
 simp[taskC,HST.out.1] at y15
 have hgl:=hT2.cell.lt
 have HT2:=hid hT2
 have HC2:=hid hC2
 clear hT2 hC2 hW2 fW2 d26 d24
 cases hb:decide (nx+3 ≥ (len:Int)) with
 | true =>
  have hge:=of_decide_eq_true hb
  have HGE:=hid (HE.out.trans (by rw[if_pos hge]))
  clear hge
  go_wp2_with fail
  go_ret
  rw[HGE.out]
  exact⟨rfl,stage_set (t:={ t with next:=nx+3 }) HT2.out HC2.out X2.out hg⟩
 | false =>
  have hge:=of_decide_eq_false hb
  have HGE:=hid (HE.out.trans (by rw[if_neg hge]))
  clear hge
  go_wp2_with fail
  go_ret
  rw[HGE.out]
  have e5:({ t with next:=nx+3,stage:=5 } : M.Task)={ t with next:=nx+3 }:=by rw[←HST.out.1]
  rw[e5]
  exact⟨rfl,⟨vo,_,HT2.out⟩,HC2.out,X2.out⟩
theorem step_write (w:World)(B g xp:Nat)(who:Int)(t:M.Task)(k:Cf)(x:M.Core)(p:M.Place)(o:M.Op)(h:TaskAt w B g xp who t)(hc:CoreAt w B xp k x)(hg:B≤g)(hB:B≤w.heap.size)(hmc:M.mayCan x t=true)(hs:t.stage=4)(hiq:t.id=0)(hp:x.place=some p)(hn0:0≤t.next)(hn1:t.next≤100)
  (ho:t.q.ops[t.next.toNat]? = some o) (hap:M.mayApply p.col o t.point.token=true) :
  Calls Tryz.prog 33 #[.pointer (some ⟨g,0,none⟩)] w fun e w'=>e = .returned (.bool true)∧Stepped w B g xp who k (t.step x who) w':=by
 have hcan:t.can x who=true:=by simp[M.Task.can,hs]
 have HC:=hid (can_any w B g xp who t k x h hc hmc)
 rw[hcan] at HC
 obtain⟨vo,vi,hT⟩:=h
 obtain⟨nx,hnx⟩:∃ nx:Nat,t.next=(nx:Int):=⟨t.next.toNat,by omega⟩
 obtain⟨len,hlen⟩:∃ len,t.q.ops.length=len:=⟨_,rfl⟩
 obtain⟨tk,htk⟩:∃ tk,t.point.token=tk:=⟨_,rfl⟩
 have hx:t.q.ops[nx]? = some o:=by rw[hnx] at ho;simpa using ho
 have hlt:(nx:Int)<(len:Int):=by have:=(List.getElem?_eq_some_iff.1 hx).1;omega
 have hl1:=hT.l1
 rw[hlen] at hl1
 have HE:=hid (show t.step x who=(x.applyOp 0 o tk,{ t with next:=(nx:Int)+1,stage:=if (nx:Int)+1=(len:Int) then 6 else 4 }) by
  rw[←hnx,←hlen,←htk];simp[M.Task.step,hs,ho,hiq])
 have HA:=hid (fun W (f:Fr [] w W)=>apply_any W B xp k x p o tk (hc.fr0 f) hp (by have:=f.size;omega) (fun W2 cl hcl h1 h2=>by rw[htk] at hap;exact Co.apply_may W2 B cl p.col o tk hcl h1 h2 hap))
 have HT:=hid hT
 have HST:=hid (And.intro hs (And.intro hnx (And.intro hlen (And.intro htk hiq))))
 have HX:=hid hx
 rw[hnx] at hn1
 clear hc hmc hs hcan hT hnx hlen htk hiq ho hap hn0 hx
 go_enter Tryz.func33,Tryz.ntmps33
 go_wp2_with fail
 refine HC.out.mono ?_
 rintro e w1 ⟨rfl,f1⟩
 have hT1:=(HT.out.fr0 f1).fr0 ((Fr.refl [] w1).drew)
 obtain⟨gb,cb,hgb,hvo,hrb,hgbl,hcell⟩:=hT1.ops.cell Lp.cs_len rfl HX.out
 subst hvo
 have y0:=hcell 0 _ (by omega) rfl
 have y1:=hcell 1 _ (by omega) rfl
 have y2:=hcell 2 _ (by omega) rfl
 have y3:=hcell 3 _ (by omega) rfl
 have y4:=hcell 4 _ (by omega) rfl
 have c15:=hT1.cell.cell 15
 have c26:=hT1.cell.cell 26
 have c10:=hT1.cell.cell 10
 have c19:=hT1.cell.cell 19
 have c0:=hT1.cell.cell 0
 have c16:=hT1.cell.cell 16
 simp[taskC,HST.out.1,HST.out.2.1,HST.out.2.2.1,HST.out.2.2.2.1,HST.out.2.2.2.2] at c15 c26 c10 c19 c0 c16
 simp at y0 y1 y2 y3 y4
 have HA1:=hid (HA.out w1.drew f1.drew)
 have F1:=hid f1
 have HT1:=hid hT1
 clear f1 hT1 hrb hcell
 go_wp2_with fail
 go_still_tail 24,(by kernel_rfl)
 change wpList _ _ _ _ _ w1.drew
 go_wp2_with fail
 refine HA1.out.mono ?_
 rintro e w2 ⟨⟨bb,rfl⟩,hc2,x2⟩
 have hT2:=HT1.out.frx x2 (by decide) (by decide) (by decide)
 have X2:=hid (((FrX.of_fr0 F1.out.drew:FrX B Ts [] w w1.drew).trans x2).mono (S:=[g]) (fun _ h=>h) (by simp))
 have d26:=hT2.cell.cell 26
 have d10:=hT2.cell.cell 10
 have z26:=hT2.cell.frozen 26
 simp[taskC,HST.out.2.1,HST.out.2.2.1] at d26 d10
 have hgl:=hT2.cell.lt
 have HT2:=hid hT2
 have HC2:=hid hc2
 clear hT2 hc2 x2 c15 c26 c10 c19 c0 c16 y0 y1 y2 y3 y4 hgbl
 obtain⟨W,hW⟩:∃ W,W=w2.setCell ⟨g,26,none⟩ (.int .i64 ((nx:Int)+1)):=⟨_,rfl⟩
 have N1:=hid (next_set (n:=(nx:Int)+1) HT2.out HC2.out hg)
 rw[←hW] at N1
 have X3:=hid (X2.out.trans N1.out.2.2)
 go_wp2_with fail
 rw[←hW]
 have e26:=N1.out.1.cell.cell 26
 have e10:=N1.out.1.cell.cell 10
 simp[taskC,HST.out.2.2.1] at e26 e10
 clear d26 z26 d10 hW hgl
 go_quiet (fail)
 obtain⟨W4,hW4⟩:∃ W4,W4=W.drewN nq:=⟨_,rfl⟩
 have fW4:Fr [] W W4:=by rw[hW4];exact(Fr.refl _ _).drewN _
 rw[←hW4]
 have hT4:=N1.out.1.fr0 fW4
 have hC4:=N1.out.2.1.fr0 fW4
 have X4:=hid (X3.out.trans (FrX.of_fr0 fW4))
 have y15:=hT4.cell.cell 15
 have z15:=hT4.cell.frozen 15
 simp[taskC,HST.out.1] at y15
 have hgl:=hT4.cell.lt
 have HT4:=hid hT4
 have HC4:=hid hC4
 clear hT4 hC4 hW4 fW4 e26 e10
 refine(Decidable.em ((nx:Int)+1=(len:Int))).elim (fun hd=>?_) (fun hd=>?_)
 ·have HGE:=hid (HE.out.trans (by rw[if_pos hd]))
  have hb:(((nx:Int)+1)==(len:Int))=true:=by simpa using hd
  clear hd
  go_wp2_with fail
  go_ret
  rw[HGE.out]
  exact⟨rfl,stage_set (t:={ t with next:=(nx:Int)+1 }) HT4.out HC4.out X4.out hg⟩
 ·have HGE:=hid (HE.out.trans (by rw[if_neg hd]))
  have hb:(((nx:Int)+1)==(len:Int))=false:=by simpa using hd
  clear hd
  go_wp2_with fail
  go_ret
  rw[HGE.out]
  have e5:({ t with next:=(nx:Int)+1,stage:=4 } : M.Task)={ t with next:=(nx:Int)+1 }:=by rw[←HST.out.1]
  rw[e5]
  exact⟨rfl,⟨_,_,HT4.out⟩,HC4.out,X4.out⟩
theorem stage_set2 {w W:World}{B g xp:Nat}{who s s':Int}{t:M.Task}{k:Cf}{x:M.Core}{vo vi:Value}(hT:TaskP W B g xp who t vo vi)(hc:CoreAt W B xp k x)(hx:FrX B Ts [g] w W)(hg:B≤g) :
  Stepped w B g xp who k (x,{ t with stage:=s' }) ((W.setCell ⟨g,15,none⟩ (.int .i64 s)).setCell ⟨g,15,none⟩ (.int .i64 s')):=by
 obtain⟨⟨vo1,vi1,h1⟩,h2,h3⟩:=stage_set (s:=s) hT hc hx hg
 exact stage_set (t:={ t with stage:=s }) h1 h2 h3 hg
structure Shut (p:Prop):Prop where
 out:p
section
variable {P:Program} {ops:Array Oper} {w:World} {Q:Act→Prop} {a:Act} {o:Oper} {rest:List Oper}
theorem hst_step (h:∀ K:Act→Prop,(∀ a,Shut (wpStill P ops w Q rest a)→K a)→if Region.wanted o (yielded ops a.tmps) then o.still P a w K else K (a.put o.dst undef)):Shut (wpStill P ops w Q (o::rest) a) :=
 ⟨wpStill_step fun K hK=>h K fun a ha=>hK a ha.out⟩
theorem hst_skip {d:Option Tmp}{a':Act}(hd:o.dst=d)(ha:a.put d undef=a')(hw:Region.wanted o (yielded ops a.tmps)=false)(h:Shut (wpStill P ops w Q rest a')):Shut (wpStill P ops w Q (o::rest) a) :=
 ⟨wpStill_step fun K hK=>by
  rw[if_neg (by rw[hw];simp),hd,ha]
  exact hK _ h.out⟩
theorem hst_nil (h:Q a):Shut (wpStill P ops w Q [] a):=⟨wpStill_nil h⟩
end
theorem step_free (w:World)(B g xp:Nat)(who:Int)(t:M.Task)(k:Cf)(x:M.Core)(p:M.Place)(h:TaskAt w B g xp who t)(hc:CoreAt w B xp k x)(hg:B≤g)(hB:B≤w.heap.size)(hmc:M.mayCan x t=true)(hs:t.stage=6)(hiq:t.id=0)(hp:x.place=some p)
  (hlk:p.lock.readers.length+p.lock.queue.length≤90) (hst:p.lock.state who=3∨p.lock.state who=2) (hh:x.hub.length≤90) :
  Calls Tryz.prog 33 #[.pointer (some ⟨g,0,none⟩)] w fun e w'=>e = .returned (.bool true)∧Stepped w B g xp who k (t.step x who) w':=by
 have hcan:t.can x who=true:=by simp[M.Task.can,hs]
 have HC:=hid (can_any w B g xp who t k x h hc hmc)
 rw[hcan] at HC
 obtain⟨vo,vi,hT⟩:=h
 obtain⟨kd,hkd⟩:∃ kd,t.q.kind=kd:=⟨_,rfl⟩
 obtain⟨er,her⟩:∃ er,t.point.err=er:=⟨_,rfl⟩
 have HE:=hid (show t.step x who=(x.unlock 0 who (t.pointed&&M.writes kd&&er==0),{ t with stage:=if t.pointed then 8 else 7 }) by rw[←hkd,←her];simp[M.Task.step,hs,hiq])
 have HU:=hid (fun W b (f:Fr [] w W)=>unlock_any W B xp k x p who b (hc.fr0 f) hp (by have:=f.size;omega) (by omega) hst (by omega))
 have HW:=hid (fun W=>(writes_any W kd).mono fun _ _ ⟨h,e⟩=>And.intro h e.symm)
 have HT:=hid hT
 have HST:=hid (And.intro hs (And.intro hkd (And.intro her hiq)))
 clear hc hmc hs hcan hT hkd her hiq hst
 cases hpt:t.pointed with
 | false =>
  ·have HP:=hid hpt
   rw[hpt] at HE
   simp only[Bool.false_and,Bool.false_eq_true,if_false] at HE
   clear hpt
   go_enter Tryz.func33,Tryz.ntmps33
   go_wp2_with fail
   refine HC.out.mono ?_
   rintro e w1 ⟨rfl,f1⟩
   have hT1:=HT.out.fr0 f1
   have c15:=hT1.cell.cell 15
   have c0:=hT1.cell.cell 0
   have c1:=hT1.cell.cell 1
   have c3:=hT1.cell.cell 3
   have c16:=hT1.cell.cell 16
   have c18:=hT1.cell.cell 18
   have c25:=hT1.cell.cell 25
   simp[taskC,HST.out.1,HST.out.2.1,HST.out.2.2.1,HST.out.2.2.2,HP.out] at c15 c0 c1 c3 c16 c18 c25
   have HT1:=hid hT1
   have HU1:=hid (HU.out w1.drew false f1.drew)
   have F1:=hid f1
   clear f1 hT1
   go_wp2_with fail
   refine wp_region_still_tail 32 (by kernel_rfl) (by kernel_rfl) (Shut.out ?_)
   simp only[List.take_succ_cons,List.take_zero,List.drop_succ_cons,List.drop_zero]
   iterate 17
    refine hst_step (fun K hK=>?_)
    go_simp
    refine hK _ ?_
    clear hK K
   iterate 6
    refine hst_skip rfl (by simp only[Act.put,List.setIfInBounds_toArray,List.set_cons_zero,List.set_cons_succ];rfl) (by kernel_rfl) ?_
   iterate 2
    refine hst_step (fun K hK=>?_)
    go_simp
    refine hK _ ?_
    clear hK K
   iterate 6
    refine hst_skip rfl (by simp only[Act.put,List.setIfInBounds_toArray,List.set_cons_zero,List.set_cons_succ];rfl) (by kernel_rfl) ?_
   iterate 1
    refine hst_step (fun K hK=>?_)
    go_simp
    refine hK _ ?_
    clear hK K
   refine hst_nil ?_
   change wpList _ _ _ _ _ w1.drew
   go_wp2_with fail
   refine HU1.out.mono ?_
   rintro e w3 ⟨rfl,hc3,x3'⟩
   have hT3:=(HT1.out.fr0 (Fr.refl _ _).drew).frx x3' (by decide) (by decide) (by decide)
   have d15:=hT3.cell.cell 15
   have d25:=hT3.cell.cell 25
   have z15:=hT3.cell.frozen 15
   simp[taskC,HP.out] at d15 d25
   have hgl:=hT3.cell.lt
   have HT3:=hid hT3
   have HC3:=hid hc3
   have X3:=hid (((FrX.of_fr0 F1.out.drew:FrX B Ts [] w w1.drew).trans x3').mono (S:=[g]) (fun _ h=>h) (by simp))
   clear hT3 hc3 x3' c0 c1 c3 c15 c16 c18 c25
   go_wp2_with fail
   go_ret
   rw[HE.out]
   have hfin:=stage_set (s:=7) HT3.out HC3.out X3.out hg
   rw[HP.out] at hfin
   exact⟨rfl,hfin⟩
 | true =>
  have HP:=hid hpt
  rw[hpt] at HE
  simp only[Bool.true_and,if_true] at HE
  clear hpt
  obtain⟨wr,hwr⟩:∃ wr,M.writes kd=wr:=⟨_,rfl⟩
  rw[hwr] at HE HW
  clear hwr
  cases wr
  ·simp only[Bool.false_and] at HE
   go_enter Tryz.func33,Tryz.ntmps33
   go_wp2_with fail
   refine HC.out.mono ?_
   rintro e w1 ⟨rfl,f1⟩
   have hT1:=HT.out.fr0 f1
   have c15:=hT1.cell.cell 15
   have c0:=hT1.cell.cell 0
   have c1:=hT1.cell.cell 1
   have c3:=hT1.cell.cell 3
   have c16:=hT1.cell.cell 16
   have c18:=hT1.cell.cell 18
   have c25:=hT1.cell.cell 25
   simp[taskC,HST.out.1,HST.out.2.1,HST.out.2.2.1,HST.out.2.2.2,HP.out] at c15 c0 c1 c3 c16 c18 c25
   have HT1:=hid hT1
   have HU1:=hid (HU.out w1.drew false f1.drew)
   have F1:=hid f1
   clear f1 hT1
   go_wp2_with fail
   refine wp_region_still_tail 32 (by kernel_rfl) (by kernel_rfl) (Shut.out ?_)
   simp only[List.take_succ_cons,List.take_zero,List.drop_succ_cons,List.drop_zero]
   iterate 17
    refine hst_step (fun K hK=>?_)
    go_simp
    refine hK _ ?_
    clear hK K
   iterate 5
    refine hst_step (fun K hK=>?_)
    go_simp
    refine hK _ ?_
    clear hK K
   refine hst_step (fun K hK=>?_)
   go_simp
   refine⟨_,HW.out _,hK _ ?_⟩
   clear hK K
   iterate 2
    refine hst_step (fun K hK=>?_)
    go_simp
    refine hK _ ?_
    clear hK K
   iterate 6
    refine hst_skip rfl (by simp only[Act.put,List.setIfInBounds_toArray,List.set_cons_zero,List.set_cons_succ];rfl) (by kernel_rfl) ?_
   iterate 1
    refine hst_step (fun K hK=>?_)
    go_simp
    refine hK _ ?_
    clear hK K
   refine hst_nil ?_
   change wpList _ _ _ _ _ w1.drew
   go_wp2_with fail
   refine HU1.out.mono ?_
   rintro e w3 ⟨rfl,hc3,x3'⟩
   have hT3:=(HT1.out.fr0 (Fr.refl _ _).drew).frx x3' (by decide) (by decide) (by decide)
   have d15:=hT3.cell.cell 15
   have d25:=hT3.cell.cell 25
   have z15:=hT3.cell.frozen 15
   simp[taskC,HP.out] at d15 d25
   have hgl:=hT3.cell.lt
   have HT3:=hid hT3
   have HC3:=hid hc3
   have X3:=hid (((FrX.of_fr0 F1.out.drew:FrX B Ts [] w w1.drew).trans x3').mono (S:=[g]) (fun _ h=>h) (by simp))
   clear hT3 hc3 x3' c0 c1 c3 c15 c16 c18 c25
   go_wp2_with fail
   go_ret
   rw[HE.out]
   have hfin:=stage_set2 (s:=7) (s':=8) HT3.out HC3.out X3.out hg
   rw[HP.out] at hfin
   exact⟨rfl,hfin⟩
  ·simp only[Bool.true_and] at HE
   go_enter Tryz.func33,Tryz.ntmps33
   go_wp2_with fail
   refine HC.out.mono ?_
   rintro e w1 ⟨rfl,f1⟩
   have hT1:=HT.out.fr0 f1
   have c15:=hT1.cell.cell 15
   have c0:=hT1.cell.cell 0
   have c1:=hT1.cell.cell 1
   have c3:=hT1.cell.cell 3
   have c16:=hT1.cell.cell 16
   have c18:=hT1.cell.cell 18
   have c25:=hT1.cell.cell 25
   simp[taskC,HST.out.1,HST.out.2.1,HST.out.2.2.1,HST.out.2.2.2,HP.out] at c15 c0 c1 c3 c16 c18 c25
   have HT1:=hid hT1
   have HU1:=hid (HU.out w1.drew (er==0) f1.drew)
   have F1:=hid f1
   clear f1 hT1
   go_wp2_with fail
   refine wp_region_still_tail 32 (by kernel_rfl) (by kernel_rfl) (Shut.out ?_)
   simp only[List.take_succ_cons,List.take_zero,List.drop_succ_cons,List.drop_zero]
   iterate 17
    refine hst_step (fun K hK=>?_)
    go_simp
    refine hK _ ?_
    clear hK K
   iterate 5
    refine hst_step (fun K hK=>?_)
    go_simp
    refine hK _ ?_
    clear hK K
   refine hst_step (fun K hK=>?_)
   go_simp
   refine⟨_,HW.out _,hK _ ?_⟩
   clear hK K
   iterate 2
    refine hst_step (fun K hK=>?_)
    go_simp
    refine hK _ ?_
    clear hK K
   iterate 6
    refine hst_step (fun K hK=>?_)
    go_simp
    refine hK _ ?_
    clear hK K
   iterate 1
    refine hst_step (fun K hK=>?_)
    go_simp
    refine hK _ ?_
    clear hK K
   refine hst_nil ?_
   change wpList _ _ _ _ _ w1.drew
   go_wp2_with fail
   refine HU1.out.mono ?_
   rintro e w3 ⟨rfl,hc3,x3'⟩
   have hT3:=(HT1.out.fr0 (Fr.refl _ _).drew).frx x3' (by decide) (by decide) (by decide)
   have d15:=hT3.cell.cell 15
   have d25:=hT3.cell.cell 25
   have z15:=hT3.cell.frozen 15
   simp[taskC,HP.out] at d15 d25
   have hgl:=hT3.cell.lt
   have HT3:=hid hT3
   have HC3:=hid hc3
   have X3:=hid (((FrX.of_fr0 F1.out.drew:FrX B Ts [] w w1.drew).trans x3').mono (S:=[g]) (fun _ h=>h) (by simp))
   clear hT3 hc3 x3' c0 c1 c3 c15 c16 c18 c25
   go_wp2_with fail
   go_ret
   rw[HE.out]
   have hfin:=stage_set2 (s:=7) (s':=8) HT3.out HC3.out X3.out hg
   rw[HP.out] at hfin
   exact⟨rfl,hfin⟩
end Go.Proofs.YtjmkkcckfbnmeaaGreatDoor.Tk
