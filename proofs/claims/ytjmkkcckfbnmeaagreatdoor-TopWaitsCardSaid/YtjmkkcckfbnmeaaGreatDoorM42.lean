/- Texts TaskI, TaskJ. -/
import Derived.Test.YtjmkkcckfbnmeaaGreatDoorM41
import Derived.Test.YtjmkkcckfbnmeaaGreatDoorM51
import Derived.Deep.RegionHeld3
set_option maxRecDepth 100000
set_option maxHeartbeats 8000000
set_option linter.all false
open Go.Lib (hid)
namespace Go.Proofs.YtjmkkcckfbnmeaaGreatDoor.Tk
open Go.RowKit Cr
theorem col_home {q:M.Req}(h:M.reqOk q=true)(h1:q.kind≠1)(h10:q.kind≠10):q.col=M.home:=by
 have hs:=(Rq.sh_of h).1
 revert h1 h10
 generalize q.kind=k at *
 generalize q.tenant=a at *
 generalize q.col=b at *
 generalize q.uid=c at *
 generalize q.card=d at *
 generalize q.ck=e at *
 generalize q.cv=f at *
 generalize q.ops.length=g at *
 generalize q.token=i at *
 generalize q.most=j at *
 generalize q.ticks=l at *
 intro h1 h10
 cases hs<;>first|rfl|exact absurd rfl h1|exact absurd rfl h10
theorem work_len {x:M.Core}{p:M.Place}{q:M.Req}(hp:x.place=some p)(hal:p.alive=true)(hm:M.mayWork p.col x.found x.counter x.budget q=true):(x.work q).2.items.length≤20:=by
 by_cases h8:q.kind=8
 ·have e:x.work q=(x,{ kind:=8,token:=p.col.latest,items:=M.sortI (M.items p.col) }):=by simp[M.Core.work,hp,hal,h8]
  rw[e]
  unfold M.mayWork at hm
  simp[h8] at hm
  obtain⟨⟨_,hl⟩,_,hs⟩:=hm
  simp only[]
  rw[hs]
  simp[M.items]
  omega
 ·have hw:∀ ops ap a,(x.write p ops ap a).2.items=a.items:=fun ops ap a=>by
   unfold M.Core.write
   simp only[]
   split<;>rfl
  unfold M.Core.work
  rw[hp]
  simp only[hal,Bool.not_true,Bool.false_eq_true,if_false]
  split
  ·simp
  split
  ·simp[hw]
  split
  ·simp[hw]
  split
  ·simp[hw]
  split
  ·split<;>simp
  split
  ·split<;>simp
  ·simp
theorem may_core {x:M.Core}(h:M.mayCore x=true):x.cols=2∧x.cards=6∧x.maxBytes=65536∧x.logMost=9∧0≤x.counter∧x.counter≤200∧0≤x.now∧x.now≤1000000∧x.hub.length≤90∧x.alarms.length≤90:=by
 simpa only[M.mayCore,decide_eq_true_eq] using h
theorem step_any (w:World)(B g xp:Nat)(who:Int)(t:M.Task)(k:Cf)(x:M.Core)(h:TaskAt w B g xp who t)(hc:CoreAt w B xp k x)(hg:B≤g)(hxp:B≤xp)(hB:B≤w.heap.size)(hmc:M.mayCan x t=true)(hcan:t.can x who=true)(hm:M.mayStep x t who=true)(hk1:t.q.kind≠1) :
  Calls Tryz.prog 33 #[.pointer (some ⟨g,0,none⟩)] w fun e w'=>e = .returned (.bool true)∧Stepped w B g xp who k (t.step x who) w':=by
 unfold M.mayStep at hm
 simp only[Bool.and_eq_true] at hm
 obtain⟨⟨⟨⟨⟨hq,hcore⟩,hdl⟩,hpt⟩,hpt'⟩,hst⟩:=hm
 obtain⟨m1,m2,m3,m4,m5,m6,m7,m8,m9,m10⟩:=may_core hcore
 by_cases h1:t.stage=1
 ·rw[if_pos h1] at hst
  refine step_seek w B g xp who t k x h hc hmc h1 fun W f=>?_
  obtain⟨vo,vi,hT⟩:=h
  have hBW:B≤W.heap.size:=Nat.le_trans hB f.size
  by_cases h2:t.q.kind=2
  ·rw[if_pos h2] at hst
   simp only[Bool.and_eq_true,decide_eq_true_eq,Bool.not_eq_true',Option.isNone_iff_eq_none] at hst
   obtain⟨⟨hf,hn⟩,b0,b1⟩:=hst
   exact seek_create W B g xp who t vo vi k x (hT.fr0 f) (hc.fr0 f) hg hBW h2 (col_home hq (by omega) (by omega)) h1 hxp ⟨by rw[m1,m2,m3,m4];decide,m5,by omega,hf,hn,b0,by rw[m1];exact b1⟩
  ·rw[if_neg h2] at hst
   by_cases h10:t.q.kind=10
   ·rw[if_pos h10] at hst
    obtain⟨p,hp⟩:=Option.isSome_iff_exists.1 hst
    exact seek_list W B g xp who t vo vi k x p (hT.fr0 f) (hc.fr0 f) hg hBW h10 h1 hp
   ·exact seek_find W B g xp who t vo vi k x (hT.fr0 f) (hc.fr0 f) hg hBW h2 h10 (col_home hq hk1 h10) h1
 ·rw[if_neg h1] at hst
  cases hp:x.place with
  | none=>rw[hp] at hst;cases hst
  | some p =>
   rw[hp] at hst
   simp only[Bool.and_eq_true,decide_eq_true_eq] at hst
   obtain⟨⟨hiq,hlk⟩,hst⟩:=hst
   by_cases h2:t.stage=2
   ·exact step_queue w B g xp who t k x p h hc hg hB hmc h2 hiq hp hlk
   rw[if_neg h2] at hst
   by_cases h3:t.stage=3
   ·rw[if_pos h3] at hst
    have hls:p.lock.state who=3∨p.lock.state who=2:=by
     unfold M.Task.can at hcan
     rw[if_pos h3] at hcan
     have hh:x.held t.id who=p.lock.state who:=by simp[M.Core.held,hp,hiq]
     rw[hh] at hcan
     exact(of_decide_eq_true hcan).symm
    refine step_act w B g xp who t k x h hc hmc h3 hcan fun W f=>?_
    obtain⟨vo,vi,hT⟩:=h
    have hBW:B≤W.heap.size:=Nat.le_trans hB f.size
    cases hal:p.alive with
    | false=>exact act_gone W B g xp who t vo vi k x p (hT.fr0 f) (hc.fr0 f) hg hBW h3 hiq hp hal hls hlk m9
    | true =>
     rw[hal] at hst
     simp only[Bool.not_true,Bool.false_or] at hst
     exact act_body W B g xp who t vo vi k x p (hT.fr0 f) (hc.fr0 f) hg hxp hBW ⟨h3,hiq,hp,hal,hcore,hst,work_len hp hal hst⟩
   rw[if_neg h3] at hst
   by_cases h4:t.stage=4
   ·rw[if_pos h4] at hst
    simp only[Bool.and_eq_true,decide_eq_true_eq] at hst
    obtain⟨⟨n0,n1⟩,hst⟩:=hst
    cases ho:t.q.ops[t.next.toNat]? with
    | none=>rw[ho] at hst;cases hst
    | some o =>
     rw[ho] at hst
     exact step_write w B g xp who t k x p o h hc hg hB hmc h4 hiq hp n0 n1 ho hst
   rw[if_neg h4] at hst
   by_cases h5:t.stage=5
   ·rw[if_pos h5] at hst
    simp only[decide_eq_true_eq] at hst
    exact step_read w B g xp who t k x h hc hg hmc h5 hst.1 hst.2
   rw[if_neg h5] at hst
   by_cases h6:t.stage=6
   ·rw[if_pos h6] at hst
    simp only[decide_eq_true_eq] at hst
    exact step_free w B g xp who t k x p h hc hg hB hmc h6 hiq hp hlk hst m9
   rw[if_neg h6] at hst
   simp only[decide_eq_true_eq] at hst
   exact step_rest w B g xp who t k x h hc hg hB hmc hst hcan m9
end Go.Proofs.YtjmkkcckfbnmeaaGreatDoor.Tk
namespace Go.Proofs.YtjmkkcckfbnmeaaGreatDoor.Tk
open Go.RowKit Cr
theorem req_ranges {q:M.Req}(h:M.reqOk q=true):0≤q.ticks∧q.ticks≤247:=by
 have hs:=(Rq.sh_of h).1
 generalize q.kind=k at *
 generalize q.tenant=a at *
 generalize q.col=b at *
 generalize q.uid=c at *
 generalize q.card=d at *
 generalize q.ck=e at *
 generalize q.cv=f at *
 generalize q.ops.length=g at *
 generalize q.token=i at *
 generalize q.most=j at *
 generalize q.ticks=l at *
 cases hs<;>omega
theorem check_req (w:World)(B:Nat)(q:M.Req)(vo:Value)(hq:M.reqOk q=true)(ho:Ev.OpsAt w B vo q.ops):Calls Tryz.prog 105 #[.agg (Ev.rqc q vo).toArray] w fun e w'=>e = .returned (.int .i64 0)∧Fr [] w w':=by
 obtain⟨a,c,rfl⟩:=Own.form ho
 exact Rq.checkv_any w B _ c q.kind q.tenant q.col q.uid q.card q.ck q.cv q.token q.most q.ticks a q.ops (Rq.sh_of hq).1 ho rfl (Rq.sh_of hq).2
theorem start_cells {w':World}{n:Nat}{q:M.Req}{v:Value}(h:Holds w' n 41 (Ev.rqc q v).toArray) :
  w'.cell? ⟨n,0,none⟩=some (.int .i64 q.kind)∧w'.cell? ⟨n,1,none⟩=some (.string q.tenant)∧w'.cell? ⟨n,2,none⟩=some (.string q.col)∧w'.cell? ⟨n,3,none⟩=some (.string q.uid)∧w'.cell? ⟨n,4,none⟩=some (.string q.card)∧w'.cell? ⟨n,5,none⟩=some (.int .i64 q.ck)∧w'.cell? ⟨n,6,none⟩=some (.int .i64 q.cv)∧w'.cell? ⟨n,7,none⟩=some v∧w'.cell? ⟨n,8,none⟩=some (.int .i64 q.token)∧w'.cell? ⟨n,9,none⟩=some (.int .i64 q.most)∧w'.cell? ⟨n,10,none⟩=some (.int .i64 q.ticks):=by
 refine⟨by simpa[Ev.rqc] using h.cell 0,by simpa[Ev.rqc] using h.cell 1,by simpa[Ev.rqc] using h.cell 2,by simpa[Ev.rqc] using h.cell 3,by simpa[Ev.rqc] using h.cell 4,by simpa[Ev.rqc] using h.cell 5,by simpa[Ev.rqc] using h.cell 6,by simpa[Ev.rqc] using h.cell 7,by simpa[Ev.rqc] using h.cell 8,by simpa[Ev.rqc] using h.cell 9,by simpa[Ev.rqc] using h.cell 10⟩
theorem start_any (w:World)(B xp:Nat)(who:Int)(k:Cf)(x:M.Core)(q:M.Req)(vo:Value)(h:CoreAt w B xp k x)(hmc:M.mayCore x=true)(hq:M.reqOk q=true)(hk1:q.kind≠1)(ho:Ev.OpsAt w B vo q.ops)(hB:B≤w.heap.size)(hl:q.ops.length≤20) :
  Calls Tryz.prog 64 #[.pointer (some ⟨xp,0,none⟩),.int .i64 who,.string tn,.agg (Ev.rqc q vo).toArray] w fun e w'=>∃ ta,e = .returned (.pointer (some ⟨ta,0,none⟩))∧w.heap.size≤ta∧TaskAt w' B ta xp who (M.Task.start x q)∧Fr [] w w':=by
 obtain⟨_,_,_,_,_,_,m7,m8,_,_⟩:=may_core hmc
 obtain⟨hk0,hk2⟩:=Rq.sh_kind (Rq.sh_of hq).1
 obtain⟨r0,r1⟩:=req_ranges hq
 obtain⟨oa,oc,hov⟩:=Own.form ho
 subst hov
 obtain⟨W0,hW0⟩:∃ W0,W0=w.alloc (.cells (Ev.rqc q (.slice oa q.ops.length oc)).toArray 41):=⟨_,rfl⟩
 have f0:Fr [] w W0:=by rw[hW0];exact(Fr.refl _ _).alloc _
 have b0:Holds W0 w.heap.size 41 (Ev.rqc q (.slice oa q.ops.length oc)).toArray:=by rw[hW0];exact Holds.new _ _ _
 have hB0:B≤W0.heap.size:=Nat.le_trans hB f0.size
 have HCp:=hid (fun W (f:Fr [] W0 W)=>copied_any W B q (.slice oa q.ops.length oc) (Own.fr0 ho (f0.trans f)) (Nat.le_trans hB0 f.size) hl)
 have HNw:=hid (fun W (f:Fr [] W0 W)=>now_any W B xp k x (h.fr0 (f0.trans f)))
 have HCk:=hid (fun W (f:Fr [] W0 W)=>check_req W B q (.slice oa q.ops.length oc) hq (Own.fr0 ho (f0.trans f)))
 have hb1:(q.kind==1)=false:=by simpa using hk1
 have hb11:(q.kind==11)=false:=by
  have:¬ q.kind=11:=by omega
  simpa using this
 have hS:=start_cells b0.drew
 have hbl:=b0.lt
 have HB0:=hid b0
 have F0:=hid f0
 clear h hmc hq hk1 ho b0 f0
 simp only[Ev.rqc] at hW0 HCp HCk ⊢
 obtain⟨nw,hnw⟩:∃ nw,x.now=nw:=⟨_,rfl⟩
 have HX:=hid (show M.Task.start x q={ q:=q,deadline:=nw+q.ticks } by rw[←hnw];rfl)
 rw[hnw] at HNw m7 m8
 clear hnw
 have hwr:IntKind.i64.wrap (nw+q.ticks)=nw+q.ticks:=IntWalk.i64_in _ (by omega)
 go_enter Tryz.func64,Tryz.ntmps64
 go_wp2_with fail
 rw[←hW0]
 clear hW0
 go_region_held3 (fun w'=>w'.cell? ⟨w.heap.size,0,none⟩=some (.int .i64 q.kind)∧w'.cell? ⟨w.heap.size,1,none⟩=some (.string q.tenant)∧w'.cell? ⟨w.heap.size,2,none⟩=some (.string q.col)∧w'.cell? ⟨w.heap.size,3,none⟩=some (.string q.uid)∧w'.cell? ⟨w.heap.size,4,none⟩=some (.string q.card)∧w'.cell? ⟨w.heap.size,5,none⟩=some (.int .i64 q.ck)∧w'.cell? ⟨w.heap.size,6,none⟩=some (.int .i64 q.cv)∧w'.cell? ⟨w.heap.size,7,none⟩=some (.slice oa q.ops.length oc)∧w'.cell? ⟨w.heap.size,8,none⟩=some (.int .i64 q.token)∧w'.cell? ⟨w.heap.size,9,none⟩=some (.int .i64 q.most)∧w'.cell? ⟨w.heap.size,10,none⟩=some (.int .i64 q.ticks)) (first|with_reducible exact hS|go_keep)
  (first
   | (go_at_call 104;refine(HNw.out _ (by first|exact(Fr.refl _ _).drew|exact(Fr.refl _ _).drewN _|exact f1)).mono ?_;rintro e w2 ⟨rfl,rfl⟩)
   | (go_at_call 103;refine(HCp.out _ (by first|exact(Fr.refl _ _).drew|exact(Fr.refl _ _).drewN _)).mono ?_;rintro e w1 ⟨v1,rfl,o1,f1'⟩;have f1:Fr [] W0 w1:=(by first|exact((Fr.refl [] W0).drew.trans f1')|exact(((Fr.refl [] W0).drewN _).trans f1'));have b1:=HB0.out.fr f1 (by simp);have hS:=start_cells b1;obtain⟨a1,c1,rfl⟩:=Own.form o1))
 obtain⟨W2,hW2⟩:∃ W2,W2=w1.alloc (.cells (taskC xp who { q:=q,deadline:=nw+q.ticks } (.slice a1 q.ops.length c1) (.slice none 0 0)).toArray 140):=⟨_,rfl⟩
 have g2:Fr [] w1 W2:=by rw[hW2];exact(Fr.refl _ _).alloc _
 have hT:=hid (show TaskP W2 B w1.heap.size xp who { q:=q,deadline:=nw+q.ticks } (.slice a1 q.ops.length c1) (.slice none 0 0) from ⟨by rw[hW2];exact Holds.new _ _ _,Own.fr0 o1 g2,Own.nil _ _ _ _,hl,by simp⟩)
 have HB2:=hid (b1.fr g2 (by simp))
 have F2:=hid (f1.trans g2)
 have HF2:=hid ((F0.out.trans f1).trans g2)
 have hws:=(F0.out.trans f1).size
 have HCk2:=hid (HCk.out W2 F2.out)
 simp only[taskC] at hW2
 clear hS b1 o1 f1 f1' g2
 rw[←hW2]
 clear hW2
 obtain⟨v0,v1,v2,v3,v4,v5,v6,v7,v8,v9,v10⟩:=HB2.out.cs11
 simp[Ev.rqc] at v0 v1 v2 v3 v4 v5 v6 v7 v8 v9 v10
 go_wp2_with fail
 refine HCk2.out.mono ?_
 rintro e w3 ⟨rfl,f3⟩
 have HB3:=hid (HB2.out.fr f3 (by simp))
 have u0:=HB3.out.cell 0
 simp[Ev.rqc] at u0
 have hT3:=hid (hT.out.fr0 f3)
 have F3:=hid (HF2.out.trans f3)
 clear f3 v0 v1 v2 v3 v4 v5 v6 v7 v8 v9 v10
 go_wp2_with fail
 go_ret
 rw[HX.out]
 exact⟨_,rfl,hws,⟨_,_,hT3.out⟩,F3.out⟩
end Go.Proofs.YtjmkkcckfbnmeaaGreatDoor.Tk
