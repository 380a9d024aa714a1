/- Walks. -/
import Derived.Test.YtocppjcocnckmaaGreatDoorM38
import Derived.Test.YtocppjcocnckmaaGreatDoorM45
import Derived.Deep.RegionHeld3
set_option maxRecDepth 100000
set_option maxHeartbeats 8000000
set_option linter.all false
open Go.Lib (hid)
namespace Go.Proofs.YtocppjcocnckmaaGreatDoor
open Go.Proofs.Tryz
namespace Tk
open Go.RowKit Cr
theorem Dj {q:M.Req}(h:M.bF q=true):q.kind≠10:=by
 have hs:=(Rq.iy h).1
 generalize q.kind=k at *
 generalize q.aR=a at *
 generalize q.col=b at *
 generalize q.uid=c at *
 generalize q.au=d at *
 generalize q.ck=e at *
 generalize q.cv=f at *
 generalize q.ops.length=g at *
 generalize q.token=i at *
 generalize q.aD=j at *
 generalize q.bj=l at *
 cases hs<;>decide
theorem sL {q:M.Req}(h:M.bF q=true)(h1:q.kind≠1)(h10:q.kind≠10):q.col=M.home:=by
 have hs:=(Rq.iy h).1
 revert h1 h10
 generalize q.kind=k at *
 generalize q.aR=a at *
 generalize q.col=b at *
 generalize q.uid=c at *
 generalize q.au=d at *
 generalize q.ck=e at *
 generalize q.cv=f at *
 generalize q.ops.length=g at *
 generalize q.token=i at *
 generalize q.aD=j at *
 generalize q.bj=l at *
 intro h1 h10
 cases hs<;>first|rfl|exact absurd rfl h1|exact absurd rfl h10
theorem zt {x:M.Core}{p:M.Place}{q:M.Req}(hp:x.place=some p)(hal:p.alive=true)(hm:M.fT x p.col q=true):(x.work q).2.items.length<=20:=by
 have hw:∀ ops ap a,(x.write p ops ap a).2.items=a.items:=λops ap a=>by
  unfold M.Core.write
  simp only[]
  split
  ·rfl
  split<;>rfl
 unfold M.fT at hm
 split at hm
 ·next h4=>simp[M.Core.work,hp,hal,h4,hw]
 split at hm
 ·next h4 h7=>simp[M.Core.work,hp,hal,h7,hw]
 split at hm
 ·next h4 h7 h8 =>
  simp only[Bool.and_eq_true,decide_eq_true_eq,M.pE] at hm
  have e:x.work q=(match p.col.since q.token with|none=>(x,{ kind:=8,err:=8 })|some l=>(x,{ kind:=8,token:=p.col.az,items:=l })):=by simp[M.Core.work,hp,hal,h8];rfl
  rw[e]
  rcases M.nr hm.2 q.token with h|h|⟨g,t,_,h⟩
  ·rw[h];simp
  ·rw[h];simp
  rw[h];simp[M.two]
 simp only[decide_eq_true_eq] at hm
 rcases hm with h6|h9
 ·simp only[M.Core.work,hp,hal,h6]
  simp
  split<;>simp
 simp only[M.Core.work,hp,hal,h9]
 simp
 split<;>simp
theorem zN (w:World)(B g xp:Nat)(who:Int)(t:M.Task)(k:Cf)(x:M.Core)(h:cU w B g xp who t)(hc:aF w B xp k x)(hg:B<=g)(hxp:B<=xp)(hB:B<=w.heap.size)(hmc:M.eo x t=true)(hcan:t.can x who=true)(hm:M.fV x t who=true)(hk1:t.q.kind≠1) :
  Calls prog 46 #[.pointer (some ⟨g,0,none⟩)] w λe w'=>e = .returned (.bool true)/\Stepped w B g xp who k (t.step x who) w':=by
 unfold M.fV at hm
 simp only[Bool.and_eq_true] at hm
 obtain⟨⟨⟨⟨⟨hq,hcore⟩,hdl⟩,hpt⟩,hpt'⟩,hst⟩:=hm
 obtain⟨m5,m6,m7,m8,m9,m10⟩:=jP hcore
 by_cases h1:t.ax=1
 ·rw[if_pos h1] at hst
  refine wV w B g xp who t k x h hc hmc h1 λW f=>?_
  obtain⟨vo,vi,hT⟩:=h
  have hBW:B<=W.heap.size:=Nat.le_trans hB f.size
  by_cases h2:t.q.kind=2
  ·rw[if_pos h2] at hst
   simp only[Bool.and_eq_true,decide_eq_true_eq,Bool.not_eq_true',Option.isNone_iff_eq_none] at hst
   obtain⟨⟨hf,hn⟩,b0,b1⟩:=hst
   exact rb W B g xp who t vo vi k x (hT.fr0 f) (hc.fr0 f) hg hBW h2 (sL hq (by omega) (by omega)) h1 hxp ⟨nZ hcore,m5,m6,hf,hn,b0,b1⟩
  rw[if_neg h2] at hst
  have h10:t.q.kind≠10:=Dj hq
  exact xg W B g xp who t vo vi k x (hT.fr0 f) (hc.fr0 f) hg hBW h2 h10 (sL hq hk1 h10) h1
 rw[if_neg h1] at hst
 cases hp:x.place with
 | none=>rw[hp] at hst;cases hst
 | some p =>
  rw[hp] at hst
  simp only[Bool.and_eq_true,decide_eq_true_eq] at hst
  obtain⟨⟨hiq,hlk⟩,hst⟩:=hst
  by_cases h2:t.ax=2
  ·exact tB w B g xp who t k x p h hc hg hB hmc h2 hiq hp hlk
  rw[if_neg h2] at hst
  by_cases h3:t.ax=3
  ·rw[if_pos h3] at hst
   have hls:p.lock.state who=3∨p.lock.state who=2:=by
    unfold M.Task.can at hcan
    rw[if_pos h3] at hcan
    have hh:x.held t.id who=p.lock.state who:=by simp[M.Core.held,hp,hiq]
    rw[hh] at hcan
    exact(of_decide_eq_true hcan).symm
   refine zO w B g xp who t k x h hc hmc h3 hcan λW f=>?_
   obtain⟨vo,vi,hT⟩:=h
   have hBW:B<=W.heap.size:=Nat.le_trans hB f.size
   cases hal:p.alive with
   | false=>exact Cy W B g xp who t vo vi k x p (hT.fr0 f) (hc.fr0 f) hg hBW h3 hiq hp hal hls hlk m9
   | true =>
    rw[hal] at hst
    simp only[Bool.not_true,Bool.false_or] at hst
    exact Cz W B g xp who t vo vi k x p (hT.fr0 f) (hc.fr0 f) hg hxp hBW ⟨h3,hiq,hp,hal,hcore,hst,zt hp hal hst⟩
  rw[if_neg h3] at hst
  by_cases h4:t.ax=4
  ·rw[if_pos h4] at hst
   simp only[Bool.and_eq_true,decide_eq_true_eq] at hst
   obtain⟨⟨n0,n1⟩,hst⟩:=hst
   cases ho:t.q.ops[t.next.toNat]? with
   | none=>rw[ho] at hst;cases hst
   | some o =>
    rw[ho] at hst
    exact tz w B g xp who t k x p o h hc hg hB hmc h4 hiq hp n0 n1 ho hst
  rw[if_neg h4] at hst
  by_cases h5:t.ax=5
  ·rw[if_pos h5] at hst
   simp only[decide_eq_true_eq] at hst
   exact wX w B g xp who t k x h hc hg hmc h5 hst.1 hst.2
  rw[if_neg h5] at hst
  by_cases h6:t.ax=6
  ·rw[if_pos h6] at hst
   simp only[decide_eq_true_eq] at hst
   exact wY w B g xp who t k x p h hc hg hB hmc h6 hiq hp hlk hst m9
  rw[if_neg h6] at hst
  simp only[decide_eq_true_eq] at hst
  exact wW w B g xp who t k x h hc hg hB hmc hst hcan m9
theorem tW {q:M.Req}(h:M.bF q=true):0<=q.bj/\q.bj<=247:=by
 have hs:=(Rq.iy h).1
 generalize q.kind=k at *
 generalize q.aR=a at *
 generalize q.col=b at *
 generalize q.uid=c at *
 generalize q.au=d at *
 generalize q.ck=e at *
 generalize q.cv=f at *
 generalize q.ops.length=g at *
 generalize q.token=i at *
 generalize q.aD=j at *
 generalize q.bj=l at *
 cases hs<;>omega
theorem yR (w:World)(B:Nat)(q:M.Req)(vo:Value)(hq:M.bF q=true)(ho:Ev.bD w B vo q.ops)(hG:Sh.Gl w):cA 108 #[.agg (Ev.rqc q vo).toArray] w (.int .i64 0):=by
 obtain⟨a,c,rfl⟩:=Own.form ho
 exact Rq.dX w B _ c q.kind q.aR q.col q.uid q.au q.ck q.cv q.token q.aD q.bj a q.ops (Rq.iy hq).1 ho rfl (Rq.iy hq).2 hG
theorem me {w':World}{n:Nat}{q:M.Req}{v:Value}(h:Holds w' n 37 (Ev.rqc q v).toArray) :
  w'.cell? ⟨n,0,none⟩=some (.int .i64 q.kind)/\w'.cell? ⟨n,1,none⟩=some (.string q.aR)/\w'.cell? ⟨n,2,none⟩=some (.string q.col)/\w'.cell? ⟨n,3,none⟩=some (.string q.uid)/\w'.cell? ⟨n,4,none⟩=some (.string q.au)/\w'.cell? ⟨n,5,none⟩=some (.int .i64 q.ck)/\w'.cell? ⟨n,6,none⟩=some (.int .i64 q.cv)/\w'.cell? ⟨n,7,none⟩=some v/\w'.cell? ⟨n,8,none⟩=some (.int .i64 q.token)/\w'.cell? ⟨n,9,none⟩=some (.int .i64 q.aD)/\w'.cell? ⟨n,10,none⟩=some (.int .i64 q.bj):=by
 refine⟨by simpa[Ev.rqc] using h.cell 0,by simpa[Ev.rqc] using h.cell 1,by simpa[Ev.rqc] using h.cell 2,by simpa[Ev.rqc] using h.cell 3,by simpa[Ev.rqc] using h.cell 4,by simpa[Ev.rqc] using h.cell 5,by simpa[Ev.rqc] using h.cell 6,by simpa[Ev.rqc] using h.cell 7,by simpa[Ev.rqc] using h.cell 8,by simpa[Ev.rqc] using h.cell 9,by simpa[Ev.rqc] using h.cell 10⟩
theorem wZ (w:World)(B xp:Nat)(who:Int)(k:Cf)(x:M.Core)(q:M.Req)(vo:Value)(h:aF w B xp k x)(hmc:M.mayCore x=true)(hq:M.bF q=true)(hk1:q.kind≠1)(ho:Ev.bD w B vo q.ops)(hB:B<=w.heap.size)(hl:q.ops.length<=20)(hG:Sh.Gl w) :
  Calls prog 80 #[.pointer (some ⟨xp,0,none⟩),.int .i64 who,.string tn,.agg (Ev.rqc q vo).toArray] w λe w'=>∃ ta,e = .returned (.pointer (some ⟨ta,0,none⟩))/\w.heap.size<=ta/\cU w' B ta xp who (M.Task.start x q)/\Fr [] w w':=by
 obtain⟨_,_,m7,m8,_,_⟩:=jP hmc
 obtain⟨hk0,hk2⟩:=Rq.bd (Rq.iy hq).1
 obtain⟨r0,r1⟩:=tW hq
 obtain⟨oa,oc,hov⟩:=Own.form ho
 subst hov
 obtain⟨W0,hW0⟩:∃ W0,W0=w.alloc (.cells (Ev.rqc q (.slice oa q.ops.length oc)).toArray 37):=⟨_,rfl⟩
 have f0:Fr [] w W0:=by rw[hW0];exact rZ.alloc _
 have b0:Holds W0 w.heap.size 37 (Ev.rqc q (.slice oa q.ops.length oc)).toArray:=by rw[hW0];exact Holds.new _ _ _
 have hB0:B<=W0.heap.size:=Nat.le_trans hB f0.size
 have HCp:=hid (λW (f:Fr [] W0 W)=>kp W B q (.slice oa q.ops.length oc) (Own.fr0 ho (f0.trans f)) (Nat.le_trans hB0 f.size) hl)
 have HNw:=hid (λW (f:Fr [] W0 W)=>mK W B xp k x (h.fr0 (f0.trans f)))
 have HCk:=hid (λW (f:Fr [] W0 W)=>yR W B q (.slice oa q.ops.length oc) hq (Own.fr0 ho (f0.trans f)) (hG.fr0 (f0.trans f)))
 have hb1:(q.kind==1)=false:=by simpa using hk1
 have hb11:(q.kind==11)=false:=by
  have:¬ q.kind=11:=by omega
  simpa using this
 have hS:=me b0.drew
 have hbl:=b0.lt
 have HB0:=hid b0
 have F0:=hid f0
 clear h hmc hq hk1 ho b0 f0 hG
 simp only[Ev.rqc] at hW0 HCp HCk ⊢
 obtain⟨nw,hnw⟩:∃ nw,x.now=nw:=⟨_,rfl⟩
 have HX:=hid (show M.Task.start x q={ q:=q,deadline:=nw+q.bj } by rw[<-hnw];rfl)
 rw[hnw] at HNw m7 m8
 clear hnw
 have hwr:IntKind.i64.wrap (nw+q.bj)=nw+q.bj:=IntWalk.i64_in _ (by omega)
 go_enter func80,ntmps80
 go_wp2_with fail
 rw[<-hW0]
 clear hW0
 go_region_held3 (λw'=>w'.cell? ⟨w.heap.size,0,none⟩=some (.int .i64 q.kind)/\w'.cell? ⟨w.heap.size,1,none⟩=some (.string q.aR)/\w'.cell? ⟨w.heap.size,2,none⟩=some (.string q.col)/\w'.cell? ⟨w.heap.size,3,none⟩=some (.string q.uid)/\w'.cell? ⟨w.heap.size,4,none⟩=some (.string q.au)/\w'.cell? ⟨w.heap.size,5,none⟩=some (.int .i64 q.ck)/\w'.cell? ⟨w.heap.size,6,none⟩=some (.int .i64 q.cv)/\w'.cell? ⟨w.heap.size,7,none⟩=some (.slice oa q.ops.length oc)/\w'.cell? ⟨w.heap.size,8,none⟩=some (.int .i64 q.token)/\w'.cell? ⟨w.heap.size,9,none⟩=some (.int .i64 q.aD)/\w'.cell? ⟨w.heap.size,10,none⟩=some (.int .i64 q.bj)) (first|with_reducible exact hS|go_keep)
  (first
   | (go_at_call 107;refine(HNw _ (by first|exact rZ.drew|exact rZ.drewN _|exact f1)).mono ?_;rintro e w2 ⟨rfl,rfl⟩)
   | (go_at_call 106;refine(HCp _ (by first|exact rZ.drew|exact rZ.drewN _)).mono ?_;rintro e w1 ⟨v1,rfl,o1,f1'⟩;have f1:Fr [] W0 w1:=(by first|exact((Fr.refl [] W0).drew.trans f1')|exact(((Fr.refl [] W0).drewN _).trans f1'));have b1:=HB0.fr f1 (by simp);have hS:=me b1;obtain⟨a1,c1,rfl⟩:=Own.form o1))
 obtain⟨W2,hW2⟩:∃ W2,W2=w1.alloc (.cells (aO xp who { q:=q,deadline:=nw+q.bj } (.slice a1 q.ops.length c1) (.slice none 0 0)).toArray 153):=⟨_,rfl⟩
 have g2:Fr [] w1 W2:=by rw[hW2];exact rZ.alloc _
 have hT:=hid (show cY W2 B w1.heap.size xp who { q:=q,deadline:=nw+q.bj } (.slice a1 q.ops.length c1) (.slice none 0 0) from ⟨by rw[hW2];exact Holds.new _ _ _,Own.fr0 o1 g2,Own.nil _ _ _ _,hl,by simp⟩)
 have HB2:=hid (b1.fr g2 (by simp))
 have F2:=hid (f1.trans g2)
 have HF2:=hid ((F0.trans f1).trans g2)
 have hws:=(F0.trans f1).size
 have HCk2:=hid (HCk W2 F2)
 simp only[aO] at hW2
 clear hS b1 o1 f1 f1' g2
 rw[<-hW2]
 clear hW2
 obtain⟨v0,v1,v2,v3,v4,v5,v6,v7,v8,v9,v10⟩:=HB2.dW
 simp[Ev.rqc] at v0 v1 v2 v3 v4 v5 v6 v7 v8 v9 v10
 go_wp2_with fail
 refine uu HCk2 λw3 f3=>?_
 have HB3:=hid (HB2.fr f3 (by simp))
 have u0:=HB3.cell 0
 simp[Ev.rqc] at u0
 have hT3:=hid (hT.fr0 f3)
 have F3:=hid (HF2.trans f3)
 clear f3 v0 v1 v2 v3 v4 v5 v6 v7 v8 v9 v10
 go_wp2_with fail
 go_ret
 rw[HX]
 exact⟨_,rfl,hws,⟨_,_,hT3⟩,F3⟩
end Tk
