/- Walks. -/
import Derived.Test.YtocppjcocnckmaaGreatDoorM25
import Derived.Test.YtocppjcocnckmaaGreatDoorM26
import Derived.Deep.CutRange
import Derived.Deep.RegionHeld3
import Derived.StillTailTactics
set_option maxRecDepth 100000
set_option maxHeartbeats 8000000
set_option linter.all false
open Go.Lib (hid)
namespace Go.Proofs.YtocppjcocnckmaaGreatDoor
open Go.Proofs.Tryz
namespace Cr
open Go.RowKit
theorem kr (w:World)(B g:Nat)(k:Cf)(x:M.Core)(vp:Value)(rg bg hg cg:Nat)(h:bz w B g k x vp rg bg hg cg)(hB:B<=w.heap.size)(hq:Bu.qOk x.bQ x.ah x.aH x.aj=true)(y:Int × Int)(hy:x.aZ.getD (0,0)=y) :
  Calls prog 151 #[.pointer (some ⟨g,0,none⟩),.string tn] w λe w'=>∃ q,e = .returned (.pointer (some ⟨q,0,none⟩))/\B<=q/\Ob.aQ w' B bg [(tn,.pointer (some ⟨q,0,none⟩))]/\Bu.j7 w' q x.bQ x.ah x.aH x.aj y.1 y.2/\bz w' B g k { x with aZ:=some y } vp rg bg hg cg/\FrX B BTs [] w w':=by
 have c12:=h.cell.cell 11
 have c4:=h.cell.cell 4
 have c5:=h.cell.cell 5
 have c6:=h.cell.cell 6
 have c7:=h.cell.cell 7
 simp at c12 c4 c5 c6 c7
 have hbug:=h.bug
 cases hbu:x.aZ with
 | some z =>
  rw[hbu] at hbug hy
  simp only[Option.getD_some] at hy
  subst hy
  obtain⟨q,hq1,hm,hb⟩:=hbug
  have hx:([(tn,.pointer (some ⟨q,0,none⟩))]:List Ob.Ent)[idx (Ob.keys [(tn,.pointer (some ⟨q,0,none⟩))]) tn]? = some (tn,.pointer (some ⟨q,0,none⟩)):=by
   have:idx (Ob.keys [(tn,.pointer (some ⟨q,0,none⟩))]) tn=0:=idx_eq (by simp) (kM _ _) (λt x hx _=>by
    match t,hx with
    | 0,hx=>simp[Ob.keys] at hx;subst hx;exact bG _)
   rw[this]
   rfl
  have HG:=hid (Ob.kS w B bg _ tn _ hm (by simp[Ob.dw,Ob.keys]) hx)
  have hxx:({ x with aZ:=some z } : M.Core)=x:=by
   rw[<-hbu]
  rw[hxx]
  have H0:=hid h
  have H1:=hid hm
  have H2:=hid hb
  clear h hm hb hx hxx hbu hq c4 c5 c6 c7
  go_enter func151,ntmps151
  go_wp2_with fail
  refine uu HG λw1 f1=>?_
  go_wp2_with fail
  go_ret
  exact⟨q,rfl,hq1,H1.fr0 f1,Holds.fr H2 f1 (by simp),H0.fr0 f1,FrX.aA f1⟩
 | none =>
  rw[hbu] at hbug hy
  simp only[Option.getD_none] at hy
  subst hy
  have HG:=hid (Ob.nR w B bg [] tn hbug rfl)
  have HN:=hid (λw'=>Bu.Dl x.bQ x.ah x.aH x.aj w' hq)
  have HM:=hid (show Ob.aQ w B bg [] from hbug)
  have HC:=hid (λw' (f:Fr [] w w')=>(⟨(h.cell.fr f (by simp)).cell 4,(h.cell.fr f (by simp)).cell 5,(h.cell.fr f (by simp)).cell 6,(h.cell.fr f (by simp)).cell 7,(h.cell.fr f (by simp)).cell 11⟩:w'.cell? ⟨g,4,none⟩=_/\w'.cell? ⟨g,5,none⟩=_/\w'.cell? ⟨g,6,none⟩=_/\w'.cell? ⟨g,7,none⟩=_/\w'.cell? ⟨g,11,none⟩=_))
  have H0:=hid h
  clear h hbug hbu c4 c5 c6 c7
  go_enter func151,ntmps151
  go_wp2_with fail
  refine uu HG λw1 f1=>?_
  obtain⟨d4,d5,d6,d7,_⟩:=HC.out w1 f1
  simp at d4 d5 d6 d7
  go_wp2_with fail
  refine(HN _).mono ?_
  rintro e w2 ⟨q,rfl,hq2,hb,f2⟩
  have f12:=f1.trans f2
  obtain⟨_,_,_,_,e11⟩:=HC.out w2 f12
  simp at e11
  have hs1:=f1.size
  have HP:=hid (Ob.iW w2 B bg [] tn ⟨q,0,none⟩ (HM.fr0 f12) (by simp) (by simp) (Nat.le_trans hB f12.size) H0.bbg)
  have HB:=hid hb
  clear hb d4 d5 d6 d7 c12
  go_wp2_with fail
  refine HP.mono ?_
  rintro e w3 ⟨rfl,hm3,x3⟩
  go_wp2_with fail
  go_ret
  obtain⟨v0,hv0,_⟩:=(HM.fr0 f12).at_
  have x3':FrX B BTs [] w2 w3:=((x3.mono (Ts:=BTs) (T:=[bg]) (by decide) (λ_ h=>h)).jY (λz hz=>.inr (.inr ⟨176,by decide,by simp at hz;subst hz;exact hv0.ty⟩)))
  have hb3:Bu.j7 w3 q x.bQ x.ah x.aH x.aj 0 0:=Holds.frx HB x3 (by decide) (λhz=>by
   simp at hz
   have:=hv0.ty
   rw[<-hz,Holds.ty HB] at this
   cases this)
  refine⟨q,rfl,by omega,by simpa using hm3,hb3,(H0.fr0 f12).Cs x3' ⟨q,by omega,by simpa using hm3,hb3⟩,(FrX.aA f12).trans x3'⟩
section
variable {w w':World} {B g:Nat} {k:Cf} {x:M.Core} {vp:Value} {rg bg hg cg q:Nat} {p:M.Place}
theorem bz.place (h:bz w B g k x vp rg bg hg cg)(hp:x.place=some p)(ho:Own w B 195 1 vp 1 [.pointer (some ⟨q,0,none⟩)]):B<=q/\gH w B q p:=by
 have hpl:=h.pls
 rw[hp] at hpl
 obtain⟨q',hq,ho',hpa⟩:=hpl
 obtain⟨gv,cv,_,e1,hr⟩:=ho.pos (by omega)
 obtain⟨gv',cv',_,e2,hr'⟩:=ho'.pos (by omega)
 have y0:w.cell? ⟨gv,0,none⟩=some (.pointer (some ⟨q,0,none⟩)):=hr.cell rfl
 have y1:w.cell? ⟨gv',0,none⟩=some (.pointer (some ⟨q',0,none⟩)):=hr'.cell rfl
 rw[e1] at e2
 cases e2
 rw[y0] at y1
 simp at y1
 subst y1
 exact⟨hq,hpa⟩
theorem bz.D9 (h:bz w B g k x vp rg bg hg cg)(hp:x.place=some p)(ho:Own w B 195 1 vp 1 [.pointer (some ⟨q,0,none⟩)])(t:Int) :
  bz (w.setCell ⟨q,5,none⟩ (.int .i64 t)) B g k { x with place:=some { p with drawn:=t } } vp rg bg hg cg/\FrX B [200] [] w (w.setCell ⟨q,5,none⟩ (.int .i64 t)):=by
 obtain⟨hq,c,l,h1,h2,h3,h4,h5⟩:=h.place hp ho
 have hf:FrX B [200] [] w (w.setCell ⟨q,5,none⟩ (.int .i64 t)):=FrX.aB ((Fr.refl [q] w).setCell (by simp) _) (by simpa using hq) (λy hy=>⟨200,by simp,by simp at hy;subst hy;exact h3.ty⟩)
 exact⟨h.Cm (hf.mono (by simp) (λ_ h=>h)) ⟨q,hq,ho.bf hf (by decide),⟨c,l,h1,h2,by simpa using h3.set 5 (.int .i64 t),h4.frx hf (by decide),h5.frx hf (by decide)⟩⟩,hf⟩
theorem bz.Ew (h:bz w B g k x vp rg bg hg cg)(hp:x.place=some p)(ho:Own w B 195 1 vp 1 [.pointer (some ⟨q,0,none⟩)]){cl:Nat}(hc:w.cell? ⟨q,2,none⟩=some (.pointer (some ⟨cl,0,none⟩)))
  (hf:FrX B Co.Ts [] w w') {c':M.Col} (hcol:Co.bX w' B cl c'):bz w' B g k { x with place:=some { p with col:=c' } } vp rg bg hg cg:=by
 obtain⟨hq,c,l,h1,h2,h3,h4,h5⟩:=h.place hp ho
 have e:=h3.cell 2
 rw[hc] at e
 simp at e
 subst e
 exact h.Cm (hf.mono (by decide) (λ_ h=>h)) ⟨q,hq,ho.bf hf (by decide),⟨cl,l,h1,h2,h3.frx hf (by decide) (by simp),hcol,h5.frx hf (by decide)⟩⟩
end
theorem sE (w:World)(B g:Nat)(k:Cf)(x:M.Core)(vp:Value)(rg bg hg cg:Nat)(h:bz w B g k x vp rg bg hg cg)(h1:x.counter=M.aW) :
  Calls prog 153 #[.pointer (some ⟨g,0,none⟩)] w λe w'=>e = .returned (.tuple #[.int .i64 0,.bool false])/\w=w':=by
 have c8:=h.cell.cell 8
 simp at c8
 rw[h1,M.aW] at c8
 clear h h1
 go_enter func153,ntmps153
 go_wp2_with fail
 go_ret2
 exact⟨rfl,rfl⟩
structure ll (x:M.Core)(p:M.Place)(b:Int × Int)(ops:List M.Op):Prop where
 j2:Bu.qOk x.bQ x.ah x.aH x.aj=true
 c0:0<=x.counter
 c1:x.counter<=M.aW
 b0:0<=b.2
 b1:b.2<=x.aH
 FX:ops.length<=100
 cond:∀ o∈ops,Et.aY o.ck o.cv=true
 size:∀ o∈ops,o.au.size<=100000
 text:∀ y∈p.col.ah,y.text.size<=100000
 ah:p.col.ah.length<=1000
 grow:(p.col.check ops (x.aH - b.2)).2.2=0->0<=b.2+(p.col.check ops (x.aH - b.2)).2.1/\(p.col.check ops (x.aH - b.2)).2.1<=x.aH - b.2
theorem oC (w:World)(B g:Nat)(k:Cf)(x:M.Core)(vp:Value)(rg bg hg cg q ra:Nat)(p:M.Place)(b:Int × Int)(a0:M.aU)(vi vo:Value)(ops:List M.Op)(apply:Bool)(h:bz w B g k x vp rg bg hg cg)(hg':B<=g)(hB:B<=w.heap.size)(hp:x.place=some p)
  (ho:Own w B 195 1 vp 1 [.pointer (some ⟨q,0,none⟩)]) (ha:Holds w ra 55 (Ev.rsc a0 vi).toArray) (hra:B<=ra) (hops:Ev.bD w B vo ops) (hb:x.aZ=some b) (hm:ll x p b ops)
  (hap:apply=true->(p.col.check ops (x.aH - b.2)).2.2=0->∀ (j:Nat) o,ops[j]? = some o->∀ W cl,Co.bX W B cl ((ops.take j).foldl (λc o=>c.apply o (x.counter+1)) p.col)->B<=W.heap.size->B<=cl ->
   Calls prog 118 #[.pointer (some ⟨cl,0,none⟩),.agg #[.bool o.del,.string o.uid,.string o.au,.int .i64 o.ck,.int .i64 o.cv],.int .i64 (x.counter+1)] W λe W'=>(∃ b,e = .returned (.bool b))/\Co.bX W' B cl ((ops.take (j+1)).foldl (λc o=>c.apply o (x.counter+1)) p.col)/\FrX B Co.Ts [] W W') :
  Calls prog 162 #[.pointer (some ⟨g,0,none⟩),.pointer (some ⟨q,0,none⟩),vo,.bool apply,.pointer (some ⟨ra,0,none⟩)] w λe w'=>e = .returned (.tuple #[])/\Holds w' ra 55 (Ev.rsc (x.write p ops apply a0).2 vi).toArray/\bz w' B g k (x.write p ops apply a0).1 vp rg bg hg cg/\FrX B Ts [ra] w w':=by
 obtain⟨hq,cl,lg,h1,h2,hc,hcol,hl⟩:=h.place hp ho
 have c0:=hc.cell 0
 simp at c0
 have hx:x.write p ops apply a0=if (p.col.check ops (x.aH - b.2)).2.2≠0 then (x,{ a0 with err:=(p.col.check ops (x.aH - b.2)).2.2,index:=(p.col.check ops (x.aH - b.2)).1 }) else if x.counter=M.aW then (x,{ a0 with err:=9 }) else
  ({ x with counter:=x.counter+1,aZ:=some (b.1,b.2+(p.col.check ops (x.aH - b.2)).2.1),place:=some { p with drawn:=x.counter+1,col:=if apply then ops.foldl (λc o=>c.apply o (x.counter+1)) p.col else p.col } },{ a0 with token:=x.counter+1 }):=by
  simp[M.Core.write,hb]
 have HX:=hid hx
 have HBu:=hid (kr w B g k x vp rg bg hg cg h hB hm.j2 b (by rw[hb];rfl))
 have HAP:=hid hap
 have HM:=hid hm
 have HO:=hid ho
 have HOps:=hid hops
 have HA:=hid ha
 have hbb:({ x with aZ:=some b } : M.Core)=x:=by rw[<-hb]
 rw[hbb] at HBu
 obtain⟨av,cv,rfl⟩:=hops.form
 clear hx hap hm ho hops ha h hcol hl hbb
 go_enter func162,ntmps162
 go_wp2_with fail
 refine HBu.mono ?_
 rintro e w1 ⟨bq,rfl,hbq,hm1,hb1,h1c,x1⟩
 have ho1:=HO.bf x1 (by decide)
 obtain⟨_,cl,lg,e1,e2,hc1,hcol1,_⟩:=h1c.place hp ho1
 have c2:=hc1.cell 2
 simp at c2
 have hqm:x.aH<=1048576:=by
  have:=HM.j2
  simp only[Bu.qOk,decide_eq_true_eq] at this
  omega
 have hB1:=x1.size
 have HRm:=hid (λW (f:Fr [] w1 W)=>Bu.kD W bq x.bQ x.ah x.aH x.aj b.1 b.2 (Holds.fr hb1 f (by simp)) HM.b0 HM.b1 hqm)
 have HCk:=hid (λW (f:Fr [] w1 W)=>Co.dM W B B cl p.col ops _ (x.aH - b.2) (hcol1.fr0 f) ((HOps.bf x1 (by decide)).fr0 f) HM.FX HM.cond HM.size HM.text HM.ah)
 have H1:=hid h1c
 have HO1:=hid ho1
 have HC1:=hid hc1
 have HB1:=hid hb1
 have HM1:=hid hm1
 have HG:=hid HM.grow
 clear h1c ho1 hcol1 hc1 c0 hc hb1 hm1
 generalize p.col.check ops (x.aH - b.2)=r at *
 go_wp2_with fail
 go_region_held3 (λw'=>w'.cell? ⟨q,2,none⟩=some (.pointer (some ⟨cl,0,none⟩))) (first|go_keep|exact c2x)
  (first
   | (go_at_call 213;refine(HRm _ (rZ.drewN _)).mono ?_;rintro e w2 ⟨rfl,n2,rfl⟩)
   | (go_at_call 213;refine(HRm _ (rZ.drew)).mono ?_;rintro e w2 ⟨rfl,n2,rfl⟩)
   | (go_at_call 212;refine uu (HCk _ (rZ.drewN _)) λw3 f3=>?_;have c2x:=f3.cell c2 (block_lt_of_cell c2) (by simp)))
 have f13:Fr [] w1 w3:=(rZ.drewN _).trans f3
 have ha3:=(HA.frx x1 (by decide) (by simp)).fr f13 (by simp)
 have z1:=ha3.frozen 1
 have z5:=ha3.frozen 5
 have d1:=ha3.cell 1
 have d5:=ha3.cell 5
 simp[Ev.rsc] at d1 d5
 have hral:=ha3.lt
 have X13:=hid (x1.trans (FrX.aA f13))
 have H3:=hid (H1.fr0 f13)
 have HO3:=hid (HO1.fr0 f13)
 have HA3:=hid ha3
 have HB3:=hid (Holds.fr HB1 f13 (by simp))
 have HM3:=hid (HM1.fr0 f13)
 have F13:=hid f13
 clear c2x c2 ha3 f13 f3 x1 H1 HO1 HB1 HM1 HRm HCk HBu HC1 HA
 by_cases hr:r.2.2≠0
 ·have hne:(r.2.2 != 0)=true:=by simpa using hr
  have HX2:=hid (HX.trans (if_pos hr))
  clear hr
  go_wp2_with fail
  refine bodyPost_ret (results_none rfl _ _ _) rfl ?_
  rw[HX2]
  refine⟨rfl,?_,?_,?_⟩
  ·simpa[Ev.rsc] using (HA3.set 1 (.int .i64 r.2.2)).set 5 (.int .i64 r.1)
  ·have y1:FrX B [55] [] w3 ((w3.setCell ⟨ra,1,none⟩ (.int .i64 r.2.2)).setCell ⟨ra,5,none⟩ (.int .i64 r.1)):=FrX.aB (((Fr.refl [ra] w3).setCell (by simp) _).setCell (by simp) _) (by simpa using hra) (λy hy=>⟨55,by simp,by simp at hy;subst hy;exact HA3.ty⟩)
   exact H3.frx y1 (by decide)
  have y1:FrX B Ts [ra] w3 ((w3.setCell ⟨ra,1,none⟩ (.int .i64 r.2.2)).setCell ⟨ra,5,none⟩ (.int .i64 r.1)):=FrX.bY (((Fr.refl [ra] w3).setCell (by simp) _).setCell (by simp) _) (by simpa using hra)
  exact(X13.mono (by decide) (by simp)).trans y1
 have hr0:r.2.2=0:=by simpa using hr
 have hne:(r.2.2 != 0)=false:=by simp[hr0]
 have hx2:=HX.trans (if_neg hr)
 obtain⟨hg1,hg2⟩:=HG.out hr0
 have HAP2:=hid (λht=>HAP ht hr0)
 by_cases hmx:x.counter=M.aW
 ·have HX2:=hid (hx2.trans (if_pos hmx))
  have hd1:=d1
  have zz1:=z1
  have HMX:=hid hmx
  clear hr hr0 z5 d5 HAP hx2 hmx hg1 hg2
  go_wp2_with fail
  refine(sE w3 B g k x vp rg bg hg cg H3 HMX).mono ?_
  rintro e w4 ⟨rfl,rfl⟩
  go_wp2_with fail
  refine bodyPost_ret (results_none rfl _ _ _) rfl ?_
  rw[HX2]
  refine⟨rfl,?_,?_,?_⟩
  ·simpa[Ev.rsc] using HA3.set 1 (.int .i64 9)
  ·have y1:FrX B [55] [] w3 (w3.setCell ⟨ra,1,none⟩ (.int .i64 9)):=FrX.aB ((Fr.refl [ra] w3).setCell (by simp) _) (by simpa using hra) (λy hy=>⟨55,by simp,by simp at hy;subst hy;exact HA3.ty⟩)
   exact H3.frx y1 (by decide)
  have y1:FrX B Ts [ra] w3 (w3.setCell ⟨ra,1,none⟩ (.int .i64 9)):=FrX.bY ((Fr.refl [ra] w3).setCell (by simp) _) (by simpa using hra)
  exact(X13.mono (by decide) (by simp)).trans y1
 have HX2:=hid (hx2.trans (if_neg hmx))
 have HMX:=hid (show x.counter<9223372036854775807 by have:=HM.c1;rw[M.aW] at this hmx;omega)
 clear hx2 hmx
 clear hr hr0 d1 d5 z1 z5 HAP
 go_wp2_with fail
 refine(sF w3 B g k x vp rg bg hg cg H3 hg' HM.c0 HMX).mono ?_
 rintro e w4 ⟨rfl,h4,x4⟩
 have hb4:=Holds.frx HB3 x4 (by decide) (by simp)
 have HM4:=hid (HM3.frx x4 (by decide) (by decide) (by simp))
 have HMv:=hid (Bu.jC w4 bq x.bQ x.ah x.aH x.aj b.1 b.2 r.2.1 hb4 HM.b0 HM.b1 hqm (by have:=HM.b1;omega) true (by simpa using hg2))
 have HO4:=hid (HO3.bf x4 (by decide))
 have HA4:=hid (HA3.frx x4 (by decide) (by simp))
 have H4:=hid h4
 clear h4
 go_wp2_with fail
 refine HMv.mono ?_
 rintro e w5 ⟨rfl,hb5,f5⟩
 have x5:FrX B [294] [] w4 w5:=FrX.aB f5 (by simpa using hbq) (λy hy=>⟨294,by simp,by simp at hy;subst hy;exact Holds.ty hb4⟩)
 have hmv:Bu.mv b.2 r.2.1=b.2+r.2.1:=by unfold Bu.mv;omega
 simp only[if_true,hmv] at hb5
 have h5:=H4.Cs (o:=some (b.1,b.2+r.2.1)) (x5.mono (by decide) (λ_ h=>h)) ⟨bq,hbq,HM4.frx x5 (by decide) (by decide) (by simp),hb5⟩
 have HO5:=hid (HO4.bf x5 (by decide))
 have HA5:=hid (HA4.frx x5 (by decide) (by simp))
 obtain⟨_,cl5,lg5,_,_,hc5,_,_⟩:=h5.place hp HO5
 have z5:=hc5.frozen 5
 have d5:=hc5.cell 5
 simp at d5
 have H6:=hid (h5.D9 hp HO5 (x.counter+1))
 have hqra:ra≠q:=λe=>by
  have:=HA5.ty
  rw[e,hc5.ty] at this
  cases this
 have hral5:=HA5.lt
 have hql5:=hc5.lt
 have y2:=HA5.cell 2
 have yz2:=HA5.frozen 2
 simp[Ev.rsc] at y2
 have X5:=hid (X13.mono (Ts:=Ts) (T:=[]) (by decide) (by simp) |>.trans ((x4.mono (by decide) (λ_ h=>h)).trans (x5.mono (by decide) (λ_ h=>h))))
 clear hb4 hb5 h5 hc5 HMv HB3 HM3 HM4 H3 H4 HO4 HO3 HA4 HA3 x4 x5
 have hbs:=X5.size
 have HA7:=hid (show Holds ((w5.setCell ⟨q,5,none⟩ (.int .i64 (x.counter+1))).setCell ⟨ra,2,none⟩ (.int .i64 (x.counter+1))) ra 55 (Ev.rsc { a0 with token:=x.counter+1 } vi).toArray from by
  simpa[Ev.rsc] using (HA5.far hqra (.int .i64 (x.counter+1))).set 2 (.int .i64 (x.counter+1)))
 have Y7:=hid (show FrX B [55] [] (w5.setCell ⟨q,5,none⟩ (.int .i64 (x.counter+1))) ((w5.setCell ⟨q,5,none⟩ (.int .i64 (x.counter+1))).setCell ⟨ra,2,none⟩ (.int .i64 (x.counter+1))) from
  FrX.aB ((Fr.refl [ra] _).setCell (by simp) _) (by simpa using hra) (λy hy=>⟨55,by simp,by simp at hy;subst hy;exact(HA5.far hqra _).ty⟩))
 have Z7:=hid (show FrX B Ts [ra] (w5.setCell ⟨q,5,none⟩ (.int .i64 (x.counter+1))) ((w5.setCell ⟨q,5,none⟩ (.int .i64 (x.counter+1))).setCell ⟨ra,2,none⟩ (.int .i64 (x.counter+1))) from
  FrX.bY ((Fr.refl [ra] _).setCell (by simp) _) (by simpa using hra))
 have X7:=hid (((X5.mono (T:=[]) (λ_ h=>h) (by simp)).trans (H6.2.mono (by decide) (by simp))).mono (λ_ h=>h) (by simp:∀ z,z∈([]:List Nat)->z∈[ra]) |>.trans Z7.out)
 have H7:=hid (H6.1.frx Y7 (by decide))
 have HO7:=hid ((HO5.bf H6.2 (by decide)).bf Y7 (by decide))
 have HP7:=hid (((HOps.bf X5 (by decide)).bf H6.2 (by decide)).bf Y7 (by decide))
 clear HA5 H6 Y7 Z7 X5 HO5 HOps X13 F13
 cases apply with
 | false =>
  go_wp2_with fail
  refine bodyPost_ret (results_none rfl _ _ _) rfl ?_
  rw[HX2]
  exact⟨rfl,HA7,H7,X7⟩
 | true =>
  go_wp2_with fail
  generalize hW7:(w5.setCell ⟨q,5,none⟩ (.int .i64 (x.counter+1))).setCell ⟨ra,2,none⟩ (.int .i64 (x.counter+1))=w7 at *
  clear hW7
  go_loopw [17,71] (λ_ i wr=>∃ j:Nat,j<=ops.length/\i = .int .i64 j/\Holds wr ra 55 (Ev.rsc { a0 with token:=x.counter+1 } vi).toArray/\bz wr B g k { x with counter:=x.counter+1,aZ:=some (b.1,b.2+r.2.1),place:=some { p with drawn:=x.counter+1,col:=(ops.take j).foldl (λc o=>c.apply o (x.counter+1)) p.col } } vp rg bg hg cg/\Own wr B 195 1 vp 1 [.pointer (some ⟨q,0,none⟩)]/\Ev.bD wr B (.slice av ops.length cv) ops/\FrX B Ts [ra] w wr) (λ_ i _=>ops.length - (intOf i).toNat)
  case atStart=>exact⟨0,Nat.zero_le _,rfl,HA7,H7,HO7,HP7,X7⟩
  obtain⟨j,hj,rfl,ra1,rc,ro,rp,rx⟩:=hrel
  by_cases hlt:j<ops.length
  ·have hx:ops[j]? = some ops[j]:=List.getElem?_eq_getElem hlt
   obtain⟨o,hx'⟩:∃ o,ops[j]=o:=⟨_,rfl⟩
   rw[hx'] at hx
   clear hx'
   have HLT:=hid hlt
   have hlo:=HM.FX
   have hk1:(j:Int)<(ops.length:Int):=by omega
   obtain⟨gq,cq,hgq,hv,hrow,hgl,hcell⟩:=rp.cell Lp.bh rfl hx
   cases hv
   have q0:wr.cell? ⟨gq,j*5,none⟩=some (.bool o.del):=hcell 0 _ (by omega) rfl
   have q1:wr.cell? ⟨gq,j*5+1,none⟩=some (.string o.uid):=hcell 1 _ (by omega) rfl
   have q2:wr.cell? ⟨gq,j*5+2,none⟩=some (.string o.au):=hcell 2 _ (by omega) rfl
   have q3:wr.cell? ⟨gq,j*5+3,none⟩=some (.int .i64 o.ck):=hcell 3 _ (by omega) rfl
   have q4:wr.cell? ⟨gq,j*5+4,none⟩=some (.int .i64 o.cv):=hcell 4 _ (by omega) rfl
   have hbw:=rx.size
   obtain⟨_,clr,lgr,hb1,_,hcr,hcolr,_⟩:=rc.place rfl ro
   have d2:=hcr.cell 2
   simp at d2
   have hqlr:=hcr.lt
   have f1:Fr [] wr (wr.alloc (.cells #[.bool o.del,.string o.uid,.string o.au,.int .i64 o.ck,.int .i64 o.cv] 43)):=rZ.alloc _
   have HAp:=hid (λW (f:Fr [] wr W)=>HAP2 trivial j o hx W clr (hcolr.fr0 f) (by have:=f.size;omega) hb1)
   have R1:=hid ra1
   have R2:=hid rc
   have R3:=hid ro
   have R4:=hid rp
   have R5:=hid rx
   clear ra1 rc ro rp rx hcr hcolr hcell hrow hx
   go_wp2_with fail
   obtain⟨WA,hWA⟩:∃ WA,WA=wr.alloc (.cells #[.bool o.del,.string o.uid,.string o.au,.int .i64 o.ck,.int .i64 o.cv] 43):=⟨_,rfl⟩
   have bx:=Holds.new wr 43 #[.bool o.del,.string o.uid,.string o.au,.int .i64 o.ck,.int .i64 o.cv]
   rw[<-hWA] at f1 bx ⊢
   have F1:=hid f1
   have D2:=hid d2
   have e2:=f1.cell d2 hqlr (by simp)
   have y0:=bx.cell 0
   have y1:=bx.cell 1
   have y2:=bx.cell 2
   have y3:=bx.cell 3
   have y4:=bx.cell 4
   simp at y0 y1 y2 y3 y4
   clear hWA f1 d2 q0 q1 q2 q3 q4 bx
   go_still_tail 6,(by kernel_rfl)
   change wpList _ _ _ _ _ WA.drew
   go_wp2_with fail
   refine(HAp _ (F1.drew)).mono ?_
   rintro e w8 ⟨⟨bb,rfl⟩,q8,x8⟩
   go_wp2_with fail
   go_roundw
   case rel =>
    have f01:Fr [] wr WA.drew:=F1.drew
    have hlt2:=HLT.out
    refine⟨j+1,by omega,by go_num,(R1.fr f01 (by simp)).frx x8 (by decide) (by simp),?_,(R3.fr0 f01).bf x8 (by decide),(R4.fr0 f01).bf x8 (by decide),R5.trans ((FrX.aA f01).trans (x8.mono (by decide) (by simp)))⟩
    exact(R2.fr0 f01).Ew rfl (R3.fr0 f01) (F1.drew.cell D2 hqlr (by simp)) x8 q8
   have hlt2:=HLT.out
   simp[intOf]
   omega
  obtain rfl:j=ops.length:=by omega
  rw[List.take_length] at rc
  clear HA7 H7 HO7 HP7 X7 HAP2 HM
  go_wp2_with fail
  refine bodyPost_end (results_none rfl _ _ _) rfl ?_
  rw[HX2]
  exact⟨rfl,ra1,rc,rx⟩
end Cr
namespace Tk
open Go.RowKit Cr
theorem qE (t:M.Task)(x:M.Core)(who:Int):t.can x who=if t.ax=3 then decide (x.held t.id who=2∨x.held t.id who=3) else if t.ax=7 then x.pw who else decide (t.ax≠8):=rfl
theorem ef (w:World)(B g xp:Nat)(who:Int)(t:M.Task)(k:Cf)(x:M.Core)(h:cU w B g xp who t)(hc:aF w B xp k x)(hm:M.eo x t=true) :
  Calls prog 76 #[.pointer (some ⟨g,0,none⟩)] w λe w'=>e = .returned (.bool (t.can x who))/\Fr [] w w':=by
 obtain⟨vo,vi,h⟩:=h
 simp only[M.eo,M.mayCore,Bool.and_eq_true,Bool.or_eq_true,decide_eq_true_eq] at hm
 obtain⟨hmc,hm⟩:=hm
 have hhub:x.hub.length<=900:=by omega
 clear hmc
 have c0:=h.cell.cell 0
 have c1:=h.cell.cell 1
 have c15:=h.cell.cell 15
 have c16:=h.cell.cell 16
 have c27:=h.cell.cell 27
 simp[aO] at c0 c1 c15 c16 c27
 have HE:=hid (qE t x who)
 clear h
 by_cases h3:t.ax=3
 ·obtain⟨hp,hiq⟩:x.place.isSome=true/\t.id=0:=by
   rcases hm with h|h
   ·exact absurd h3 h
   exact h
  obtain⟨p,hp⟩:=Option.isSome_iff_exists.1 hp
  have hh:x.held t.id who=p.lock.state who:=by simp[M.Core.held,hp,hiq]
  have HH:=hid (Bt w.drew B xp k x p who (hc.fr0 rZ.drew) hp)
  have he:t.can x who=decide (p.lock.state who=2∨p.lock.state who=3):=by rw[qE,if_pos h3,hh]
  have HE2:=hid he
  rw[h3] at c15
  rw[hiq] at c16
  clear HE hm hc hh he hp
  go_enter func76,ntmps76
  go_wp2_with fail
  go_still_tail 12,(by kernel_rfl)
  change wpList _ _ _ _ _ w.drew
  go_wp2_with fail
  refine uu HH λw2 f2=>?_
  have FF:=hid ((Fr.refl [] w).drew.trans f2)
  generalize p.lock.state who=st at *
  clear HH c0 c1 c15 c16 c27 f2
  by_cases s2:st=2
  ·subst s2
   go_wp2_with fail
   go_ret
   exact⟨by rw[HE2];rfl,FF⟩
  by_cases s3:st=3
  ·subst s3
   go_wp2_with fail
   go_ret
   exact⟨by rw[HE2];rfl,FF⟩
  have b2:(st==2)=false:=by simpa using s2
  have b3:(st==3)=false:=by simpa using s3
  have HS:=hid (And.intro s2 s3)
  clear s2 s3
  go_wp2_with fail
  go_ret
  exact⟨by rw[HE2];simp[HS.1,HS.2],FF.out⟩
 by_cases h7:t.ax=7
 ·have he:t.can x who=x.pw who:=by rw[qE,if_neg h3,if_pos h7]
  have HH:=hid (λW (f:Fr [] w W)=>zi W B xp k x who (hc.fr0 f) hhub)
  have HE2:=hid he
  rw[h7] at c15
  generalize x.pw who=bb at *
  clear HE hm hc he
  go_enter func76,ntmps76
  go_wp2_with fail
  go_region_held3 (λw'=>w'.cell? ⟨g,27,none⟩=some (.bool false)/\w'.cell? ⟨g,0,none⟩=some (.pointer (some ⟨xp,0,none⟩))/\w'.cell? ⟨g,1,none⟩=some (.int .i64 who)) (first|go_keep|exact hS)
   (first|(go_at_call 104;refine uu (HH _ (by first|exact rZ.drewN _|exact rZ.drew)) λw2 f2=>?_;have FF:=hid (show Fr [] w w2 from (by first|exact(rZ.drewN _).trans f2|exact rZ.drew.trans f2));have hS:=(⟨FF.cell c27 (block_lt_of_cell c27) (by simp),FF.cell c0 (block_lt_of_cell c0) (by simp),FF.cell c1 (block_lt_of_cell c1) (by simp)⟩:w2.cell? ⟨g,27,none⟩=_/\w2.cell? ⟨g,0,none⟩=_/\w2.cell? ⟨g,1,none⟩=_)))
  clear hS c0 c1 c15 c16 c27 HH
  go_wp2_with fail
  go_ret
  exact⟨by rw[HE2];rfl,FF⟩
 have he:t.can x who=decide (t.ax≠8):=by rw[qE,if_neg h3,if_neg h7]
 have HE2:=hid he
 have b3:(t.ax==3)=false:=by simpa using h3
 have b7:(t.ax==7)=false:=by simpa using h7
 clear HE hm hc he h3 h7
 generalize t.ax=st at *
 go_enter func76,ntmps76
 by_cases h8:st=8
 ·subst h8
  go_wp2_with fail
  go_ret
  exact⟨by rw[HE2];rfl,rZ⟩
 have b8:(st==8)=false:=by simpa using h8
 have HS:=hid h8
 clear h8
 go_wp2_with fail
 go_ret
 exact⟨by rw[HE2];simp[HS.out],rZ⟩
theorem tV (W:World)(tmps:Array Value)(g:Nat)(q:M.Req)(v:Value)(hp:Holds W g 37 (Ev.rqc q v).toArray)(h2:tmps[2]?.getD undef = .pointer (some ⟨g,0,none⟩)) :
  (results f106 tmps).run prog W = .ok (.agg (Ev.rqc q v).toArray) W:=by
 have hr:f106.results=#[.cell 2 37]:=rfl
 obtain⟨q0,q1,q2,q3,q4,q5,q6,q7,q8,q9,q10⟩:=hp.dW
 simp[Ev.rqc] at q0 q1 q2 q3 q4 q5 q6 q7 q8 q9 q10
 simp[results,h2,go_sem,q0,q1,q2,q3,q4,q5,q6,q7,q8,q9,q10,Ev.rqc]
theorem vh {tmps:Array Value}{w W1:World}{B:Nat}{q q0:M.Req}{v v0:Value}(b:Holds W1 (w.heap.size+1) 37 (Ev.rqc q0 v0).toArray)(ho:Ev.bD W1 B v q.ops)(hf:Fr [] w W1)(hB:B<=w.heap.size)
  (h2:tmps[2]?.getD undef = .pointer (some ⟨w.heap.size+1,0,none⟩)) :
  bodyPost prog f106 (λe w'=>∃ v,e = .returned (.agg (Ev.rqc q v).toArray)/\Ev.bD w' B v q.ops/\Fr [] w w') Exit.ret ⟨tmps,[]⟩ (Ev.oO W1 (w.heap.size+1) 0 q v) :=
 bodyPost_ret (tV _ _ (w.heap.size+1) q v (Ev.rJ b) h2) rfl ⟨_,rfl,ho.bf (Ev.xE (Ts:=[37]) (by omega) b.ty (by simp)) (by decide),Ev.xF hf (by simp)⟩
theorem kp (w:World)(B:Nat)(q:M.Req)(vo:Value)(h:Ev.bD w B vo q.ops)(hB:B<=w.heap.size)(hl:q.ops.length<=20) :
  Calls prog 106 #[.agg (Ev.rqc q vo).toArray] w λe w'=>∃ v,e = .returned (.agg (Ev.rqc q v).toArray)/\Ev.bD w' B v q.ops/\Fr [] w w':=by
 obtain⟨i3,hi,hz0,hz1,hz2⟩:=info_parts Lp.dU
 obtain⟨a,c,rfl,hcs,hlen⟩:=Ev.Own.cells h
 obtain⟨w0,hw0⟩:∃ w0,w0=(w.alloc (.cells (Ev.rqc q (.slice a q.ops.length c)).toArray 37)).alloc (.cells (Ev.rqc { kind:=0 } (.slice none 0 0)).toArray 37):=⟨_,rfl⟩
 have f0:Fr [] w w0:=by rw[hw0];exact(rZ.alloc _).alloc _
 have b1:Holds w0 w.heap.size 37 (Ev.rqc q (.slice a q.ops.length c)).toArray:=by rw[hw0];exact(Holds.new _ _ _).alloc _
 have b2:Holds w0 (w.heap.size+1) 37 (Ev.rqc { kind:=0 } (.slice none 0 0)).toArray:=by rw[hw0];exact aE (by simp)
 have h0:=Own.fr0 h f0
 obtain⟨_,_,he0,hc0,_⟩:=Ev.Own.cells h0
 cases he0
 simp only[Ev.rqc] at hw0 ⊢
 go_enter func106,ntmps106
 go_wp2_with (at_builtin;rw[<-hw0];(refine Ev.dR B rfl (.const (.slice none 0 0)) (.tmp 4) 35 rfl i3 _ 56 underlying35 hi hz0 hz1 hz2 rfl (by decide) rfl a q.ops.length c (flat Lp.cs q.ops) rfl hlen hc0 (cm (λ_=>Lp.cQ) _) (by unfold maxLen;omega) (by omega) (by have:=f0.size;omega) ?_;intro v3 w3 o3 f3;obtain⟨a3,c3,rfl⟩:=Own.form o3;have b13:=b1.fr f3 (by simp);have b23:=b2.fr f3 (by simp);have d0:=b13.cell 0;have d1:=b13.cell 1;have d2:=b13.cell 2;have d3:=b13.cell 3;have d4:=b13.cell 4;have d5:=b13.cell 5;have d6:=b13.cell 6;have d7:=b13.cell 7;have d8:=b13.cell 8;have d9:=b13.cell 9;have d10:=b13.cell 10;have z7:=b13.frozen 7;have e0:=b23.cell 0;have y0:=b23.frozen 0;have e1:=b23.cell 1;have y1:=b23.frozen 1;have e2:=b23.cell 2;have y2:=b23.frozen 2;have e3:=b23.cell 3;have y3:=b23.frozen 3;have e4:=b23.cell 4;have y4:=b23.frozen 4;have e5:=b23.cell 5;have y5:=b23.frozen 5;have e6:=b23.cell 6;have y6:=b23.frozen 6;have e7:=b23.cell 7;have y7:=b23.frozen 7;have e8:=b23.cell 8;have y8:=b23.frozen 8;have e9:=b23.cell 9;have y9:=b23.frozen 9;have e10:=b23.cell 10;have y10:=b23.frozen 10;simp[Ev.rqc] at d0 e0 d1 e1 d2 e2 d3 e3 d4 e4 d5 e5 d6 e6 d7 e7 d8 e8 d9 e9 d10 e10;have l1:=b13.lt;have l2:=b23.lt))
 have b2W:Holds (w3.setCell ⟨w.heap.size,7,none⟩ (.slice a3 q.ops.length c3)) (w.heap.size+1) 37 (Ev.rqc { kind:=0 } (.slice none 0 0)).toArray:=b23.far (by simp) _
 exact vh (q:=q) b2W (o3.bf (FrX.aB (Ts:=[37]) ((Fr.refl [w.heap.size] _).setCell (by simp) _) (by simpa using hB) (λy hy=>⟨37,by simp,by simp at hy;subst hy;exact b13.ty⟩)) (by decide)) (Ev.Fr.aw (p:=⟨w.heap.size,7,none⟩) (f0.trans f3) (Nat.le_refl _) _) hB rfl
theorem Ak (W:World)(tmps:Array Value)(g:Nat)(a:M.aU)(v:Value)(hp:Holds W g 55 (Ev.rsc a v).toArray)(h2:tmps[2]?.getD undef = .pointer (some ⟨g,0,none⟩)) :
  (results f82 tmps).run prog W = .ok (.agg (Ev.rsc a v).toArray) W:=by
 have hr:f82.results=#[.cell 2 55]:=rfl
 obtain⟨q0,q1,q2,q3,q4,q5,q6,q7⟩:=hp.cs8
 simp[Ev.rsc] at q0 q1 q2 q3 q4 q5 q6 q7
 simp[results,h2,go_sem,q0,q1,q2,q3,q4,q5,q6,q7,Ev.rsc]
theorem zJ {tmps:Array Value}{w W1:World}{B:Nat}{q q0:M.aU}{v v0:Value}(b:Holds W1 (w.heap.size+1) 55 (Ev.rsc q0 v0).toArray)(ho:Ev.aV W1 B v q.items)(hf:Fr [] w W1)(hB:B<=w.heap.size)
  (h2:tmps[2]?.getD undef = .pointer (some ⟨w.heap.size+1,0,none⟩)) :
  bodyPost prog f82 (λe w'=>∃ v,e = .returned (.agg (Ev.rsc q v).toArray)/\Ev.aV w' B v q.items/\Fr [] w w') Exit.ret ⟨tmps,[]⟩ (Ev.eD W1 (w.heap.size+1) 0 q v) :=
 bodyPost_ret (Ak _ _ (w.heap.size+1) q v (Ev.eC b) h2) rfl ⟨_,rfl,ho.bf (Ev.gi (Ts:=[55]) (by omega) b.ty (by simp)) (by decide),Ev.nC hf (by simp)⟩
theorem qQ (w:World)(B:Nat)(q:M.aU)(vo:Value)(h:Ev.aV w B vo q.items)(hB:B<=w.heap.size)(hl:q.items.length<=20) :
  Calls prog 82 #[.agg (Ev.rsc q vo).toArray] w λe w'=>∃ v,e = .returned (.agg (Ev.rsc q v).toArray)/\Ev.aV w' B v q.items/\Fr [] w w':=by
 obtain⟨i3,hi,hz0,hz1,hz2⟩:=info_parts Ev.pf
 obtain⟨a,c,rfl,hcs,hlen⟩:=Ev.Own.cells h
 obtain⟨w0,hw0⟩:∃ w0,w0=(w.alloc (.cells (Ev.rsc q (.slice a q.items.length c)).toArray 55)).alloc (.cells (Ev.rsc { kind:=0 } (.slice none 0 0)).toArray 55):=⟨_,rfl⟩
 have f0:Fr [] w w0:=by rw[hw0];exact(rZ.alloc _).alloc _
 have b1:Holds w0 w.heap.size 55 (Ev.rsc q (.slice a q.items.length c)).toArray:=by rw[hw0];exact(Holds.new _ _ _).alloc _
 have b2:Holds w0 (w.heap.size+1) 55 (Ev.rsc { kind:=0 } (.slice none 0 0)).toArray:=by rw[hw0];exact aE (by simp)
 have h0:=Own.fr0 h f0
 obtain⟨_,_,he0,hc0,_⟩:=Ev.Own.cells h0
 cases he0
 simp only[Ev.rsc] at hw0 ⊢
 go_enter func82,ntmps82
 go_wp2_with (at_builtin;rw[<-hw0];(refine Ev.dR B rfl (.const (.slice none 0 0)) (.tmp 4) 53 rfl i3 _ 48 underlying53 hi hz0 hz1 hz2 rfl (by decide) rfl a q.items.length c (flat Ev.ic q.items) rfl hlen hc0 (cm Ev.kj _) (by unfold maxLen;omega) (by omega) (by have:=f0.size;omega) ?_;intro v3 w3 o3 f3;obtain⟨a3,c3,rfl⟩:=Own.form o3;have b13:=b1.fr f3 (by simp);have b23:=b2.fr f3 (by simp);have d0:=b13.cell 0;have d1:=b13.cell 1;have d2:=b13.cell 2;have d3:=b13.cell 3;have d4:=b13.cell 4;have d5:=b13.cell 5;have d6:=b13.cell 6;have d7:=b13.cell 7;have z7:=b13.frozen 7;have e0:=b23.cell 0;have y0:=b23.frozen 0;have e1:=b23.cell 1;have y1:=b23.frozen 1;have e2:=b23.cell 2;have y2:=b23.frozen 2;have e3:=b23.cell 3;have y3:=b23.frozen 3;have e4:=b23.cell 4;have y4:=b23.frozen 4;have e5:=b23.cell 5;have y5:=b23.frozen 5;have e6:=b23.cell 6;have y6:=b23.frozen 6;have e7:=b23.cell 7;have y7:=b23.frozen 7;simp[Ev.rsc] at d0 e0 d1 e1 d2 e2 d3 e3 d4 e4 d5 e5 d6 e6 d7 e7;have l1:=b13.lt;have l2:=b23.lt))
 have b2W:Holds (w3.setCell ⟨w.heap.size,7,none⟩ (.slice a3 q.items.length c3)) (w.heap.size+1) 55 (Ev.rsc { kind:=0 } (.slice none 0 0)).toArray:=b23.far (by simp) _
 exact zJ (q:=q) b2W (o3.bf (FrX.aB (Ts:=[55]) ((Fr.refl [w.heap.size] _).setCell (by simp) _) (by simpa using hB) (λy hy=>⟨55,by simp,by simp at hy;subst hy;exact b13.ty⟩)) (by decide)) (Ev.Fr.aw (p:=⟨w.heap.size,7,none⟩) (f0.trans f3) (Nat.le_refl _) _) hB rfl
open Go.RowKit Cr
theorem pJ {W:World}{g xp:Nat}{who s:Int}{t:M.Task}{a:M.aU}{vo vi v:Value}(h:Holds W g 153 (aO xp who t vo vi).toArray) :
  Holds (((Ev.eD W g 17 a v).setCell ⟨g,25,none⟩ (.bool true)).setCell ⟨g,15,none⟩ (.int .i64 s)) g 153 (aO xp who (t.settle a s) vo v).toArray:=by
 have:=(((((((((h.set 17 (.int .i64 a.kind)).set 18 (.int .i64 a.err)).set 19 (.int .i64 a.token)).set 20 (.int .i64 a.version)).set 21 (.string a.au)).set 22 (.int .i64 a.index)).set 23 (.bool a.more)).set 24 v).set 25 (.bool true)).set 15 (.int .i64 s)
 simpa[aO,Ev.eD,M.Task.settle] using this
theorem iR (w:World)(B g xp:Nat)(who s:Int)(t:M.Task)(a:M.aU)(vo vi v:Value)(h:cY w B g xp who t vo vi)(hg:B<=g)(hi:Ev.aV w B v a.items)(hl:a.items.length<=20) :
  Calls prog 109 #[.pointer (some ⟨g,0,none⟩),.agg (Ev.rsc a v).toArray,.int .i64 s] w λe w'=>e = .returned (.tuple #[])/\cY w' B g xp who (t.settle a s) vo v/\Fr [g] w w':=by
 obtain⟨av,cv,rfl⟩:=Own.form hi
 have e17:=h.cell.cell 17
 have e18:=h.cell.cell 18
 have e19:=h.cell.cell 19
 have e20:=h.cell.cell 20
 have e21:=h.cell.cell 21
 have e22:=h.cell.cell 22
 have e23:=h.cell.cell 23
 have e24:=h.cell.cell 24
 have e25:=h.cell.cell 25
 have e15:=h.cell.cell 15
 have y17:=h.cell.frozen 17
 have y18:=h.cell.frozen 18
 have y19:=h.cell.frozen 19
 have y20:=h.cell.frozen 20
 have y21:=h.cell.frozen 21
 have y22:=h.cell.frozen 22
 have y23:=h.cell.frozen 23
 have y24:=h.cell.frozen 24
 have y25:=h.cell.frozen 25
 have y15:=h.cell.frozen 15
 simp[aO] at e17 e18 e19 e20 e21 e22 e23 e24 e25 e15
 have hgl:=h.cell.lt
 have H0:=hid h
 have HI:=hid hi
 simp only[Ev.rsc]
 clear h hi
 go_enter func109,ntmps109
 go_wp2_with fail
 go_end0
 have c:=pJ (a:=a) (s:=s) (v:=.slice av a.items.length cv) H0.cell
 have f1:Fr [g] w (((Ev.eD w g 17 a (.slice av a.items.length cv)).setCell ⟨g,25,none⟩ (.bool true)).setCell ⟨g,15,none⟩ (.int .i64 s)):=((Ev.vW rZ (by simp)).setCell (by simp) _).setCell (by simp) _
 have x1:FrX B [153] [] w (((Ev.eD w g 17 a (.slice av a.items.length cv)).setCell ⟨g,25,none⟩ (.bool true)).setCell ⟨g,15,none⟩ (.int .i64 s)):=FrX.aB f1 (by simpa using hg) (λy hy=>⟨153,by simp,by simp at hy;subst hy;exact H0.cell.ty⟩)
 exact⟨rfl,⟨c.alloc _,Own.fr0 (H0.ops.bf x1 (by decide)) (rZ.alloc _),Own.fr0 (HI.bf x1 (by decide)) (rZ.alloc _),H0.l1,hl⟩,f1.alloc _⟩
theorem oM (W:World)(tmps:Array Value)(g:Nat)(a:M.aU)(v vb:Value)(hp:Holds W g 55 (Ev.rsc a v).toArray)(h2:tmps[2]?.getD undef = .pointer (some ⟨g,0,none⟩))(h3:tmps[3]?.getD undef=vb) :
  (results f45 tmps).run prog W = .ok (.tuple #[.agg (Ev.rsc a v).toArray,vb]) W:=by
 have hr:f45.results=#[.cell 2 55,.tmp 3]:=rfl
 obtain⟨q0,q1,q2,q3,q4,q5,q6,q7⟩:=hp.cs8
 simp[Ev.rsc] at q0 q1 q2 q3 q4 q5 q6 q7
 simp[results,h2,h3,go_sem,q0,q1,q2,q3,q4,q5,q6,q7,Ev.rsc]
theorem nA (W:World)(tmps:Array Value)(g:Nat)(a:M.aU)(v vb:Value)(hp:Holds W g 55 (Ev.rsc a v).toArray)(h2:tmps[2]?.getD undef = .pointer (some ⟨g,0,none⟩))(h3:tmps[3]?.getD undef=vb) :
  (results f48 tmps).run prog W = .ok (.tuple #[.agg (Ev.rsc a v).toArray,vb]) W:=by
 have hr:f48.results=#[.cell 2 55,.tmp 3]:=rfl
 obtain⟨q0,q1,q2,q3,q4,q5,q6,q7⟩:=hp.cs8
 simp[Ev.rsc] at q0 q1 q2 q3 q4 q5 q6 q7
 simp[results,h2,h3,go_sem,q0,q1,q2,q3,q4,q5,q6,q7,Ev.rsc]
theorem oQ (w:World)(B g xp:Nat)(who:Int)(t:M.Task)(h:cU w B g xp who t)(hB:B<=w.heap.size) :
  Calls prog 45 #[.pointer (some ⟨g,0,none⟩)] w λe w'=>∃ v,e = .returned (.tuple #[.agg (Ev.rsc (if t.aX then t.aM else { kind:=0 }) v).toArray,.bool (t.aX)])/\Ev.aV w' B v (if t.aX then t.aM else { kind:=0 }).items/\Fr [] w w':=by
 obtain⟨vo,vi,h⟩:=h
 have c25:=h.cell.cell 25
 have e17:=h.cell.cell 17
 have e18:=h.cell.cell 18
 have e19:=h.cell.cell 19
 have e20:=h.cell.cell 20
 have e21:=h.cell.cell 21
 have e22:=h.cell.cell 22
 have e23:=h.cell.cell 23
 have e24:=h.cell.cell 24
 simp[aO] at c25 e17 e18 e19 e20 e21 e22 e23 e24
 have hgl:=h.cell.lt
 have HI:=hid h.its
 have HL:=hid h.l2
 clear h
 cases hp:t.aX with
 | false =>
  rw[hp] at c25
  go_enter func45,ntmps45
  go_wp2_with fail
  exact bodyPost_ret (oM _ _ w.heap.size { kind:=0 } (.slice none 0 0) _ (Holds.new w 55 _) rfl rfl) rfl ⟨_,rfl,Own.nil _ _ _ _,rZ.alloc _⟩
 | true =>
  rw[hp] at c25
  have f0:Fr [] w (w.alloc (.cells (Ev.rsc { kind:=0 } (.slice none 0 0)).toArray 55)):=rZ.alloc _
  have b2:=Holds.new w 55 (Ev.rsc { kind:=0 } (.slice none 0 0)).toArray
  have HT:=hid (qQ _ B t.aM vi (Own.fr0 HI f0) (by simp;omega) HL)
  go_enter func45,ntmps45
  go_wp2_with fail
  refine HT.mono ?_
  rintro e w2 ⟨v,rfl,hi2,f2⟩
  obtain⟨av,cv,rfl⟩:=Own.form hi2
  have b3:=b2.fr f2 (by simp)
  obtain⟨y0,y1,y2,y3,y4,y5,y6,y7⟩:=b3.fz8
  obtain⟨z0,z1,z2,z3,z4,z5,z6,z7⟩:=b3.cs8
  simp[Ev.rsc] at z0 z1 z2 z3 z4 z5 z6 z7
  have hl3:=b3.lt
  simp only[Ev.rsc]
  go_wp2_with fail
  exact bodyPost_ret (oM _ _ w.heap.size t.aM (.slice av t.aM.items.length cv) _ (Ev.eC (a:=t.aM) (v:=.slice av t.aM.items.length cv) b3) rfl rfl) rfl ⟨_,rfl,hi2.bf (Ev.gi (Ts:=[55]) hB b3.ty (by simp)) (by decide),Ev.nC (f0.trans f2) (Nat.le_refl _)⟩
theorem fP (w:World)(B g xp:Nat)(who:Int)(t:M.Task)(h:cU w B g xp who t)(hB:B<=w.heap.size) :
  Calls prog 48 #[.pointer (some ⟨g,0,none⟩)] w λe w'=>∃ v,e = .returned (.tuple #[.agg (Ev.rsc (if t.ax=8 then t.aM else { kind:=0 }) v).toArray,.bool (decide (t.ax=8))])/\Ev.aV w' B v (if t.ax=8 then t.aM else { kind:=0 }).items/\Fr [] w w':=by
 obtain⟨vo,vi,h⟩:=h
 have c15:=h.cell.cell 15
 have e17:=h.cell.cell 17
 have e18:=h.cell.cell 18
 have e19:=h.cell.cell 19
 have e20:=h.cell.cell 20
 have e21:=h.cell.cell 21
 have e22:=h.cell.cell 22
 have e23:=h.cell.cell 23
 have e24:=h.cell.cell 24
 simp[aO] at c15 e17 e18 e19 e20 e21 e22 e23 e24
 have hgl:=h.cell.lt
 have HI:=hid h.its
 have HL:=hid h.l2
 clear h
 refine(Decidable.em (t.ax=8)).symm.elim (λhp=>?_) (λhp=>?_)
 ·rw[if_neg hp,decide_eq_false hp]
  have hb:(t.ax==8)=false:=by simpa using hp
  have hb2:(t.ax != 8)=true:=by simp[hp]
  go_enter func48,ntmps48
  go_wp2_with fail
  exact bodyPost_ret (nA _ _ w.heap.size { kind:=0 } (.slice none 0 0) _ (Holds.new w 55 _) rfl rfl) rfl ⟨_,rfl,Own.nil _ _ _ _,rZ.alloc _⟩
 rw[if_pos hp,decide_eq_true hp]
 rw[hp] at c15
 have f0:Fr [] w (w.alloc (.cells (Ev.rsc { kind:=0 } (.slice none 0 0)).toArray 55)):=rZ.alloc _
 have b2:=Holds.new w 55 (Ev.rsc { kind:=0 } (.slice none 0 0)).toArray
 have HT:=hid (qQ _ B t.aM vi (Own.fr0 HI f0) (by simp;omega) HL)
 go_enter func48,ntmps48
 go_wp2_with fail
 refine HT.mono ?_
 rintro e w2 ⟨v,rfl,hi2,f2⟩
 obtain⟨av,cv,rfl⟩:=Own.form hi2
 have b3:=b2.fr f2 (by simp)
 obtain⟨y0,y1,y2,y3,y4,y5,y6,y7⟩:=b3.fz8
 obtain⟨z0,z1,z2,z3,z4,z5,z6,z7⟩:=b3.cs8
 simp[Ev.rsc] at z0 z1 z2 z3 z4 z5 z6 z7
 have hl3:=b3.lt
 simp only[Ev.rsc]
 go_wp2_with fail
 exact bodyPost_ret (nA _ _ w.heap.size t.aM (.slice av t.aM.items.length cv) _ (Ev.eC (a:=t.aM) (v:=.slice av t.aM.items.length cv) b3) rfl rfl) rfl ⟨_,rfl,hi2.bf (Ev.gi (Ts:=[55]) hB b3.ty (by simp)) (by decide),Ev.nC (f0.trans f2) (Nat.le_refl _)⟩
end Tk
namespace Cr
open Go.RowKit
theorem zn (w:World)(B g:Nat)(k:Cf)(x:M.Core)(p:M.Place)(o:M.Op)(t:Int)(h:aF w B g k x)(hp:x.place=some p)(hB:B<=w.heap.size)
  (hap:∀ W cl,Co.bX W B cl p.col->B<=W.heap.size->B<=cl->Calls prog 118 #[.pointer (some ⟨cl,0,none⟩),.agg #[.bool o.del,.string o.uid,.string o.au,.int .i64 o.ck,.int .i64 o.cv],.int .i64 t] W λe W'=>(∃ b,e = .returned (.bool b))/\Co.bX W' B cl (p.col.apply o t)/\FrX B Co.Ts [] W W') :
  Calls prog 87 #[.pointer (some ⟨g,0,none⟩),.int .i64 0,.agg #[.bool o.del,.string o.uid,.string o.au,.int .i64 o.ck,.int .i64 o.cv],.int .i64 t] w λe w'=>(∃ b,e = .returned (.bool b))/\aF w' B g k (x.gG 0 o t)/\FrX B Ts [] w w':=by
 obtain⟨vp,rg,bg,hg,cg,h⟩:=h
 have hx:x.gG 0 o t={ x with place:=some { p with col:=p.col.apply o t } }:=by simp[M.Core.gG,hp]
 rw[hx]
 have HAP:=hid hap
 have f0:Fr [] w (w.alloc (.cells #[.bool o.del,.string o.uid,.string o.au,.int .i64 o.ck,.int .i64 o.cv] 43)):=rZ.alloc _
 have b0:=Holds.new w 43 #[.bool o.del,.string o.uid,.string o.au,.int .i64 o.ck,.int .i64 o.cv]
 have h0:=h.fr0 f0
 clear hx hap h
 go_enter func87,ntmps87
 go_wp2_with fail
 refine(ir _ B g k x vp rg bg hg cg p h0 hp).mono ?_
 rintro e w1 ⟨⟨q,rfl,hq,ho,⟨cl,lg,h1,h2,hc,hcol,hl⟩⟩,rfl⟩
 obtain⟨WA,hWA⟩:∃ WA,WA=w.alloc (.cells #[.bool o.del,.string o.uid,.string o.au,.int .i64 o.ck,.int .i64 o.cv] 43):=⟨_,rfl⟩
 rw[<-hWA] at f0 b0 h0 ho hc hcol ⊢
 have c2:=hc.cell 2
 have hql:=hc.lt
 have y0:=b0.cell 0
 have y1:=b0.cell 1
 have y2:=b0.cell 2
 have y3:=b0.cell 3
 have y4:=b0.cell 4
 simp at c2 y0 y1 y2 y3 y4
 have hbs:=f0.size
 have HAp:=hid (λW (f:Fr [] WA W)=>HAP W cl (hcol.fr0 f) (by have:=f.size;omega) h1)
 have H0:=hid h0
 have HO:=hid ho
 have HC:=hid hc
 have HB:=hid b0
 have F0:=hid f0
 clear hWA h0 ho hc hcol hl b0 f0
 go_wp2_with fail
 go_region_held3 (λw'=>w'.cell? ⟨q,2,none⟩=some (.pointer (some ⟨cl,0,none⟩))/\w'.cell? ⟨w.heap.size,0,none⟩=some (.bool o.del)/\w'.cell? ⟨w.heap.size,1,none⟩=some (.string o.uid)/\w'.cell? ⟨w.heap.size,2,none⟩=some (.string o.au)/\w'.cell? ⟨w.heap.size,3,none⟩=some (.int .i64 o.ck)/\w'.cell? ⟨w.heap.size,4,none⟩=some (.int .i64 o.cv)) (first|go_keep|exact hS)
  (first
   | (go_at_call 118;refine(HAp _ (by first|exact rZ.drewN _|exact rZ.drew)).mono ?_;rintro e w3 ⟨⟨bb,rfl⟩,q3,x3'⟩;have x3:FrX B Co.Ts [] WA w3:=(by first|exact(FrX.aA ((Fr.refl [] WA).drew)).trans x3'|exact(FrX.aA ((Fr.refl [] WA).drewN _)).trans x3');have hS:=(⟨(HC.frx x3 (by decide) (by simp)).cell 2,(HB.frx x3 (by decide) (by simp)).cell 0,(HB.frx x3 (by decide) (by simp)).cell 1,(HB.frx x3 (by decide) (by simp)).cell 2,(HB.frx x3 (by decide) (by simp)).cell 3,(HB.frx x3 (by decide) (by simp)).cell 4⟩:w3.cell? ⟨q,2,none⟩=_/\w3.cell? ⟨w.heap.size,0,none⟩=_/\w3.cell? ⟨w.heap.size,1,none⟩=_/\w3.cell? ⟨w.heap.size,2,none⟩=_/\w3.cell? ⟨w.heap.size,3,none⟩=_/\w3.cell? ⟨w.heap.size,4,none⟩=_)))
 have C2:=hid c2
 clear hS c2 y0 y1 y2 y3 y4
 go_wp2_with fail
 go_ret
 exact⟨⟨_,rfl⟩,⟨_,_,_,_,_,H0.Ew hp HO C2 x3 q3⟩,(FrX.aA F0).trans (x3.mono (by decide) (λ_ h=>h))⟩
open Go.RowKit
theorem Aj (W:World)(tmps:Array Value)(g:Nat)(a:M.aU)(v vi:Value)(hp:Holds W g 55 (Ev.rsc a v).toArray)(h6:tmps[6]?.getD undef = .pointer (some ⟨g,0,none⟩))(h7:tmps[7]?.getD undef=vi) :
  (results f116 tmps).run prog W = .ok (.tuple #[.agg (Ev.rsc a v).toArray,vi]) W:=by
 have hr:f116.results=#[.cell 6 55,.tmp 7]:=rfl
 obtain⟨q0,q1,q2,q3,q4,q5,q6,q7⟩:=hp.cs8
 simp[Ev.rsc] at q0 q1 q2 q3 q4 q5 q6 q7
 simp[results,h6,h7,go_sem,q0,q1,q2,q3,q4,q5,q6,q7,Ev.rsc]
theorem gL {tmps:Array Value}{w W1:World}{B g:Nat}{k:Cf}{vi:Value}{rs:M.Core × M.aU}(hB:B<=w.heap.size)(b:Holds W1 (w.heap.size+1) 55 (Ev.rsc rs.2 (.slice none 0 0)).toArray)(hi:Ev.aV W1 B vi rs.2.items)(hc:aF W1 B g k rs.1)(hf:FrX B Ts [] w W1)
  (h6:tmps[6]?.getD undef = .pointer (some ⟨w.heap.size+1,0,none⟩)) (h7:tmps[7]?.getD undef=vi) :
  bodyPost prog f116 (λe w'=>∃ vi,e = .returned (.tuple #[.agg (Ev.rsc rs.2 (.slice none 0 0)).toArray,vi])/\Ev.aV w' B vi rs.2.items/\aF w' B g k rs.1/\FrX B Ts [] w w') Exit.ret ⟨tmps,[]⟩ (Ev.eD W1 (w.heap.size+1) 0 rs.2 (.slice none 0 0)):=by
 have x8:FrX B [55] [] W1 (Ev.eD W1 (w.heap.size+1) 0 rs.2 (.slice none 0 0)):=Ev.gi (by omega) b.ty (by simp)
 exact bodyPost_ret (Aj _ _ (w.heap.size+1) _ _ _ (Ev.eC b) h6 h7) rfl ⟨_,rfl,hi.bf x8 (by decide),hc.frx x8 (by decide),Ev.kF hf (by simp)⟩
theorem iC {w W:World}{B r:Nat}(hr:B<=r){t:TypeId}{cs:Array Value}(b:Holds W r t cs)(j:Nat)(u:Value):FrX B [t] [] W (W.setCell ⟨r,j,none⟩ u) :=
 FrX.aB ((Fr.refl [r] _).setCell (by simp) _) (by simpa using hr) (λy hy=>⟨t,by simp,by simp at hy;subst hy;exact b.ty⟩)
theorem wJ (w:World)(B g:Nat)(k:Cf)(x:M.Core)(p:M.Place)(q:M.Req)(vo:Value)(h:aF w B g k x)(hg':B<=g)(hB:B<=w.heap.size)(hp:x.place=some p)(hal:p.alive=true)(hk:q.kind=9) :
  Calls prog 116 #[.pointer (some ⟨g,0,none⟩),.int .i64 0,.agg (Ev.rqc q vo).toArray] w λe w'=>∃ vi,e = .returned (.tuple #[.agg (Ev.rsc (x.work q).2 (.slice none 0 0)).toArray,vi])/\Ev.aV w' B vi (x.work q).2.items/\aF w' B g k (x.work q).1/\FrX B Ts [] w w':=by
 obtain⟨vp,rg,bg,hg,cg,h⟩:=h
 have hx:x.work q=if p.col.az<=q.token then (x,{ kind:=9,err:=15 }) else (x,{ kind:=9,token:=p.col.az }):=by simp[M.Core.work,hp,hal,hk]
 obtain⟨w0,hw0⟩:∃ w0,w0=(w.alloc (.cells (Ev.rqc q vo).toArray 37)).alloc (.cells (Ev.rsc { kind:=9 } (.slice none 0 0)).toArray 55):=⟨_,rfl⟩
 have f0:Fr [] w w0:=by rw[hw0];exact(rZ.alloc _).alloc _
 have b5:Holds w0 w.heap.size 37 (Ev.rqc q vo).toArray:=by rw[hw0];exact(Holds.new _ _ _).alloc _
 have b6:Holds w0 (w.heap.size+1) 55 (Ev.rsc { kind:=9 } (.slice none 0 0)).toArray:=by rw[hw0];exact aE (by simp)
 have h0:=h.fr0 f0
 have HX:=hid hx
 obtain⟨kind,aR,col,uid,au,ck,cv,ops,token,aD,bj⟩:=q
 simp only at hk
 subst hk
 simp only[Ev.rqc,Ev.rsc] at hw0
 simp only[Ev.rqc] at b5 ⊢
 clear hx h
 go_enter func116,ntmps116
 go_wp2_with fail
 rw[<-hw0]
 refine(ir w0 B g k x vp rg bg hg cg p h0 hp).mono ?_
 rintro e w1 ⟨⟨q,rfl,hq,ho,⟨cl,lg,h1,h2,hc,hcol,hl⟩⟩,rfl⟩
 have d2:=hc.cell 2
 have d4:=hc.cell 4
 have y0:=b5.cell 0
 have y8:=b5.cell 8
 have HB6:=hid b6
 have HL:=hid (λW (f:Fr [] w0 W)=>Co.uD W B cl p.col (hcol.fr0 f))
 have H0:=hid h0
 have F0:=hid f0
 simp[hal] at d2 d4 y0 y8
 clear hw0 h0 ho hc hcol hl b5 b6 f0
 go_wp2_with fail
 go_quiet ((go_at_call 165;exact bB (HL _ (by first|exact rZ.drewN _|exact rZ.drew|exact rZ))))
 obtain⟨W,hW⟩:∃ W,W=w0.drewN nq:=⟨_,rfl⟩
 have fW:Fr [] w0 W:=by rw[hW];exact rZ.drewN _
 have b6W:=HB6.fr fW (by simp)
 have HW:=hid (H0.fr0 fW)
 have XW:FrX B Ts [] w W:=FrX.aA (F0.trans fW)
 rw[<-hW]
 have l6:=b6W.lt
 have D2:=hid (λ(f:Fr [] w0 W)=>f.cell d2 (block_lt_of_cell d2) (by simp))
 have fW2:=hid fW
 clear d2 d4 y0 y8 hW
 obtain⟨bb,hbb⟩:∃ bb,decide (p.col.az<=token)=bb:=⟨_,rfl⟩
 rw[hbb]
 cases bb with
 | true =>
  have hlt:=of_decide_eq_true hbb
  have HX2:=hid (HX.trans (if_pos hlt))
  clear hlt hbb
  obtain⟨e0,e1,e2,e3,e4,e5,e6,e7⟩:=b6W.cs8
  obtain⟨z0,z1,z2,z3,z4,z5,z6,z7⟩:=b6W.fz8
  simp[Ev.rsc] at e0 e1 e2 e3 e4 e5 e6 e7
  go_wp2_with fail
  have b7:Holds (W.setCell ⟨w.heap.size+1,1,none⟩ (.int .i64 15)) (w.heap.size+1) 55 (Ev.rsc { kind:=9,err:=15 } (.slice none 0 0)).toArray:=by simpa[Ev.rsc] using b6W.set 1 (.int .i64 15)
  rw[HX2]
  exact gL (rs:=(x,{ kind:=9,err:=15 })) hB b7 (Own.nil _ _ _ _) ⟨_,_,_,_,_,HW.frx (iC (w:=w) (by omega) b6W _ _) (by decide)⟩ (XW.aw (by simp) _) rfl rfl
 | false =>
  have hlt:=of_decide_eq_false hbb
  have HX2:=hid (HX.trans (if_neg hlt))
  clear hlt hbb
  have d2:=D2.out fW
  obtain⟨e0,e1,e2,e3,e4,e5,e6,e7⟩:=b6W.cs8
  obtain⟨z0,z1,z2,z3,z4,z5,z6,z7⟩:=b6W.fz8
  simp[Ev.rsc] at e0 e1 e2 e3 e4 e5 e6 e7
  go_wp2_with fail
  refine(HL W fW).mono ?_
  rintro e w3 ⟨rfl,rfl⟩
  go_wp2_with fail
  have b7:Holds (W.setCell ⟨w.heap.size+1,2,none⟩ (.int .i64 p.col.az)) (w.heap.size+1) 55 (Ev.rsc { kind:=9,token:=p.col.az } (.slice none 0 0)).toArray:=by simpa[Ev.rsc] using b6W.set 2 (.int .i64 p.col.az)
  rw[HX2]
  exact gL (rs:=(x,{ kind:=9,token:=p.col.az })) hB b7 (Own.nil _ _ _ _) ⟨_,_,_,_,_,HW.frx (iC (w:=w) (by omega) b6W _ _) (by decide)⟩ (XW.aw (by simp) _) rfl rfl
open Go.RowKit
theorem mc (x:M.Core)(p:M.Place)(ops:List M.Op)(ap:Bool)(a:M.aU)(h:a.items=[]):(x.write p ops ap a).2.items=[]:=by
 unfold M.Core.write
 simp only[]
 split
 ·exact h
 split<;>exact h
theorem zs (w:World)(B g:Nat)(k:Cf)(x:M.Core)(p:M.Place)(q:M.Req)(vo:Value)(h:aF w B g k x)(hg':B<=g)(hB:B<=w.heap.size)(hp:x.place=some p)(hal:p.alive=true)(hk:q.kind=4)(b:Int × Int)(hb:x.aZ=some b)(hm:ll x p b [⟨false,q.uid,q.au,q.ck,q.cv⟩])(hap:(p.col.check ([⟨false,q.uid,q.au,q.ck,q.cv⟩]:List M.Op) (x.aH - b.2)).2.2=0->∀ (j:Nat) (o:M.Op),(([⟨false,q.uid,q.au,q.ck,q.cv⟩]:List M.Op))[j]? = some o->∀ W cl,Co.bX W B cl ((([⟨false,q.uid,q.au,q.ck,q.cv⟩]:List M.Op).take j).foldl (λc o=>c.apply o (x.counter+1)) p.col)->B<=W.heap.size->B<=cl ->
   Calls prog 118 #[.pointer (some ⟨cl,0,none⟩),.agg #[.bool o.del,.string o.uid,.string o.au,.int .i64 o.ck,.int .i64 o.cv],.int .i64 (x.counter+1)] W λe W'=>(∃ b,e = .returned (.bool b))/\Co.bX W' B cl ((([⟨false,q.uid,q.au,q.ck,q.cv⟩]:List M.Op).take (j+1)).foldl (λc o=>c.apply o (x.counter+1)) p.col)/\FrX B Co.Ts [] W W') :
  Calls prog 116 #[.pointer (some ⟨g,0,none⟩),.int .i64 0,.agg (Ev.rqc q vo).toArray] w λe w'=>∃ vi,e = .returned (.tuple #[.agg (Ev.rsc (x.work q).2 (.slice none 0 0)).toArray,vi])/\Ev.aV w' B vi (x.work q).2.items/\aF w' B g k (x.work q).1/\FrX B Ts [] w w':=by
 obtain⟨vp,rg,bg,hg,cg,h⟩:=h
 obtain⟨r,hr⟩:∃ r,x.write p [⟨false,q.uid,q.au,q.ck,q.cv⟩] true { kind:=4 }=r:=⟨_,rfl⟩
 have hx:x.work q=(r.1,{ r.2 with version:=r.2.token }):=by rw[<-hr];simp[M.Core.work,hp,hal,hk]
 have HM:=hid hm
 have HAp:=hid hap
 have HR:=hid hr
 clear hr
 obtain⟨w0,hw0⟩:∃ w0,w0=(w.alloc (.cells (Ev.rqc q vo).toArray 37)).alloc (.cells (Ev.rsc { kind:=4 } (.slice none 0 0)).toArray 55):=⟨_,rfl⟩
 have f0:Fr [] w w0:=by rw[hw0];exact(rZ.alloc _).alloc _
 have b5:Holds w0 w.heap.size 37 (Ev.rqc q vo).toArray:=by rw[hw0];exact(Holds.new _ _ _).alloc _
 have b6:Holds w0 (w.heap.size+1) 55 (Ev.rsc { kind:=4 } (.slice none 0 0)).toArray:=by rw[hw0];exact aE (by simp)
 have h0:=h.fr0 f0
 have HX:=hid hx
 obtain⟨kind,aR,col,uid,au,ck,cv,ops,token,aD,bj⟩:=q
 simp only at HM HAp HR
 simp only at hk
 subst hk
 simp only[Ev.rqc,Ev.rsc] at hw0
 simp only[Ev.rqc] at b5 ⊢
 clear hx hm hap
 go_enter func116,ntmps116
 go_wp2_with fail
 rw[<-hw0]
 refine(ir w0 B g k x vp rg bg hg cg p h0 hp).mono ?_
 rintro e w1 ⟨⟨q,rfl,hq,ho,⟨cl,lg,h1,h2,hc,hcol,hl⟩⟩,rfl⟩
 have d2:=hc.cell 2
 have d4:=hc.cell 4
 obtain⟨y0,y1,y2,y3,y4,y5,y6,y7,y8,y9,y10⟩:=b5.dW
 have hs0:=f0.size
 have HB6:=hid b6
 have H0:=hid h0
 have F0:=hid f0
 have HO:=hid ho
 have HC:=hid hc
 have HCol:=hid hcol
 have HB5:=hid b5
 have hl5:=b5.lt
 have hl6:=b6.lt
 have hlq:=hc.lt
 simp[hal] at d2 d4 y0 y1 y2 y3 y4 y5 y6 y7 y8 y9 y10
 clear hw0 h0 ho hc hcol hl b5 b6 f0 h
 go_wp2_with fail
 have fA:Fr [] w0 (w0.alloc (.cells #[.bool false,.string uid,.string au,.int .i64 ck,.int .i64 cv] 43)):=rZ.alloc _
 have rA:Row (w0.alloc (.cells #[.bool false,.string uid,.string au,.int .i64 ck,.int .i64 cv] 43)) 43 5 w0.heap.size 1 1 (flat Lp.cs [⟨false,uid,au,ck,cv⟩]):=Row.new w0 #[.bool false,.string uid,.string au,.int .i64 ck,.int .i64 cv] (by simp) (by decide)
 refine(oC _ B g k x vp rg bg hg cg q (w.heap.size+1) p b { kind:=4 } (.slice none 0 0) _ [⟨false,uid,au,ck,cv⟩] true (H0.fr0 fA) hg' (by simp;omega) hp (Own.fr0 HO.out fA) (HB6.fr fA (by simp)) (by omega) (.inr ⟨w0.heap.size,1,by omega,rfl,rA⟩) hb HM.out (λ_ hck j o hj W cl' hc' hB' hcl'=>HAp.out hck j o hj W cl' hc' hB' hcl')).mono ?_
 rw[HR]
 rintro e w3 ⟨rfl,b7,h3,x3⟩
 have hl7:=b7.lt
 obtain⟨e0,e1,e2,e3,e4,e5,e6,e7⟩:=b7.cs8
 obtain⟨z0,z1,z2,z3,z4,z5,z6,z7⟩:=b7.fz8
 simp[Ev.rsc] at e0 e1 e2 e3 e4 e5 e6 e7
 have B7:=hid b7
 have H3:=hid h3
 have X3:=hid x3
 clear b7 h3 x3 d2 d4 y0 y1 y2 y3 y4 y5 y6 y7 y8 y9 y10
 go_wp2_with fail
 rw[HX]
 have b8:Holds (w3.setCell ⟨w.heap.size+1,3,none⟩ (.int .i64 r.2.token)) (w.heap.size+1) 55 (Ev.rsc { r.2 with version:=r.2.token } (.slice none 0 0)).toArray:=by simpa[Ev.rsc] using B7.set 3 (.int .i64 r.2.token)
 exact gL (rs:=(r.1,{ r.2 with version:=r.2.token })) hB b8 (by rw[show ({ r.2 with version:=r.2.token } : M.aU).items=[] from by rw[<-HR];exact mc _ _ _ _ _ rfl];exact Own.nil _ _ _ _) ⟨_,_,_,_,_,H3.frx (iC (w:=w) (by omega) B7 _ _) (by decide)⟩ ((((FrX.aA (F0.trans fA):FrX B Ts [w.heap.size+1] w _).trans X3).jY (λz hz=>.inl (by simp at hz;omega))).aw (by simp) _) rfl rfl
theorem tg (w:World)(B g:Nat)(k:Cf)(x:M.Core)(p:M.Place)(q:M.Req)(vo:Value)(h:aF w B g k x)(hg':B<=g)(hB:B<=w.heap.size)(hp:x.place=some p)(hal:p.alive=true)(hk:q.kind=7)(b:Int × Int)(hb:x.aZ=some b)(hm:ll x p b q.ops)(ho':Ev.bD w B vo q.ops) :
  Calls prog 116 #[.pointer (some ⟨g,0,none⟩),.int .i64 0,.agg (Ev.rqc q vo).toArray] w λe w'=>∃ vi,e = .returned (.tuple #[.agg (Ev.rsc (x.work q).2 (.slice none 0 0)).toArray,vi])/\Ev.aV w' B vi (x.work q).2.items/\aF w' B g k (x.work q).1/\FrX B Ts [] w w':=by
 obtain⟨vp,rg,bg,hg,cg,h⟩:=h
 obtain⟨r,hr⟩:∃ r,x.write p q.ops false { kind:=7 }=r:=⟨_,rfl⟩
 have hx:x.work q=r:=by rw[<-hr];simp[M.Core.work,hp,hal,hk]
 have HM:=hid hm
 have HR:=hid hr
 have HOp:=hid ho'
 clear hr
 obtain⟨w0,hw0⟩:∃ w0,w0=(w.alloc (.cells (Ev.rqc q vo).toArray 37)).alloc (.cells (Ev.rsc { kind:=7 } (.slice none 0 0)).toArray 55):=⟨_,rfl⟩
 have f0:Fr [] w w0:=by rw[hw0];exact(rZ.alloc _).alloc _
 have b5:Holds w0 w.heap.size 37 (Ev.rqc q vo).toArray:=by rw[hw0];exact(Holds.new _ _ _).alloc _
 have b6:Holds w0 (w.heap.size+1) 55 (Ev.rsc { kind:=7 } (.slice none 0 0)).toArray:=by rw[hw0];exact aE (by simp)
 have h0:=h.fr0 f0
 have HX:=hid hx
 obtain⟨kind,aR,col,uid,au,ck,cv,ops,token,aD,bj⟩:=q
 simp only at HM HR HOp
 obtain⟨av,cvo,rfl⟩:=Own.form HOp
 simp only at hk
 subst hk
 simp only[Ev.rqc,Ev.rsc] at hw0
 simp only[Ev.rqc] at b5 ⊢
 clear hx hm ho'
 go_enter func116,ntmps116
 go_wp2_with fail
 rw[<-hw0]
 refine(ir w0 B g k x vp rg bg hg cg p h0 hp).mono ?_
 rintro e w1 ⟨⟨q,rfl,hq,ho,⟨cl,lg,h1,h2,hc,hcol,hl⟩⟩,rfl⟩
 have d2:=hc.cell 2
 have d4:=hc.cell 4
 obtain⟨y0,y1,y2,y3,y4,y5,y6,y7,y8,y9,y10⟩:=b5.dW
 have hs0:=f0.size
 have HB6:=hid b6
 have H0:=hid h0
 have F0:=hid f0
 have HO:=hid ho
 have HC:=hid hc
 have HCol:=hid hcol
 have HB5:=hid b5
 have hl5:=b5.lt
 have hl6:=b6.lt
 have hlq:=hc.lt
 simp[hal] at d2 d4 y0 y1 y2 y3 y4 y5 y6 y7 y8 y9 y10
 clear hw0 h0 ho hc hcol hl b5 b6 f0 h
 go_wp2_with fail
 refine(oC w0 B g k x vp rg bg hg cg q (w.heap.size+1) p b { kind:=7 } (.slice none 0 0) _ ops false H0.out hg' (by omega) hp HO.out HB6.out (by omega) (Own.fr0 HOp F0) hb HM (λh=>by cases h)).mono ?_
 rw[HR]
 rintro e w3 ⟨rfl,b7,h3,x3⟩
 have hl7:=b7.lt
 obtain⟨e0,e1,e2,e3,e4,e5,e6,e7⟩:=b7.cs8
 obtain⟨z0,z1,z2,z3,z4,z5,z6,z7⟩:=b7.fz8
 simp[Ev.rsc] at e0 e1 e2 e3 e4 e5 e6 e7
 have B7:=hid b7
 have H3:=hid h3
 have X3:=hid x3
 clear b7 h3 x3 d2 d4 y0 y1 y2 y3 y4 y5 y6 y7 y8 y9 y10
 go_wp2_with fail
 rw[HX]
 exact gL (rs:=r) hB B7 (by rw[show r.2.items=[] from by rw[<-HR];exact mc _ _ _ _ _ rfl];exact Own.nil _ _ _ _) ⟨_,_,_,_,_,H3⟩ (((FrX.aA F0:FrX B Ts [w.heap.size+1] w _).trans X3).jY (λz hz=>.inl (by simp at hz;omega))) rfl rfl
open Go.RowKit
theorem zu (w:World)(B g:Nat)(k:Cf)(x:M.Core)(p:M.Place)(q:M.Req)(vo:Value)(h:aF w B g k x)(hg':B<=g)(hB:B<=w.heap.size)(hp:x.place=some p)(hal:p.alive=true)(hk:q.kind=6) :
  Calls prog 116 #[.pointer (some ⟨g,0,none⟩),.int .i64 0,.agg (Ev.rqc q vo).toArray] w λe w'=>∃ vi,e = .returned (.tuple #[.agg (Ev.rsc (x.work q).2 (.slice none 0 0)).toArray,vi])/\Ev.aV w' B vi (x.work q).2.items/\aF w' B g k (x.work q).1/\FrX B Ts [] w w':=by
 obtain⟨vp,rg,bg,hg,cg,h⟩:=h
 obtain⟨rs,hrs⟩:∃ rs,(match M.bR p.col.ah q.uid with|none=>((x,{ kind:=6,err:=4 }):M.Core × M.aU)|some e=>(x,{ kind:=6,version:=e.version,au:=e.text }))=rs:=⟨_,rfl⟩
 have hx:x.work q=rs:=by rw[<-hrs];simp only[M.Core.work,hp,hal,hk];rfl
 obtain⟨w0,hw0⟩:∃ w0,w0=(w.alloc (.cells (Ev.rqc q vo).toArray 37)).alloc (.cells (Ev.rsc { kind:=6 } (.slice none 0 0)).toArray 55):=⟨_,rfl⟩
 have f0:Fr [] w w0:=by rw[hw0];exact(rZ.alloc _).alloc _
 have b5:Holds w0 w.heap.size 37 (Ev.rqc q vo).toArray:=by rw[hw0];exact(Holds.new _ _ _).alloc _
 have b6:Holds w0 (w.heap.size+1) 55 (Ev.rsc { kind:=6 } (.slice none 0 0)).toArray:=by rw[hw0];exact aE (by simp)
 have h0:=h.fr0 f0
 have HX:=hid hx
 obtain⟨kind,aR,col,uid,au,ck,cv,ops,token,aD,bj⟩:=q
 simp only at hrs
 simp only at hk
 subst hk
 simp only[Ev.rqc,Ev.rsc] at hw0
 simp only[Ev.rqc] at b5 ⊢
 clear hx
 go_enter func116,ntmps116
 go_wp2_with fail
 rw[<-hw0]
 refine(ir w0 B g k x vp rg bg hg cg p h0 hp).mono ?_
 rintro e w1 ⟨⟨q,rfl,hq,ho,⟨cl,lg,h1,h2,hc,hcol,hl⟩⟩,rfl⟩
 have d2:=hc.cell 2
 have d4:=hc.cell 4
 obtain⟨y0,y1,y2,y3,y4,y5,y6,y7,y8,y9,y10⟩:=b5.dW
 have hs0:=f0.size
 have HB6:=hid b6
 have H0:=hid h0
 have F0:=hid f0
 have HO:=hid ho
 have HC:=hid hc
 have HCol:=hid hcol
 have HB5:=hid b5
 have hl5:=b5.lt
 have hl6:=b6.lt
 have hlq:=hc.lt
 simp[hal] at d2 d4 y0 y1 y2 y3 y4 y5 y6 y7 y8 y9 y10
 clear hw0 h0 ho hc hcol hl b5 b6 f0 h
 go_wp2_with fail
 obtain⟨oc,hoc⟩:∃ oc,M.bR p.col.ah uid=oc:=⟨_,rfl⟩
 have HG:=hid (λW (f:Fr [] w0 W)=>Co.jL W B cl p.col uid (HCol.fr0 f))
 rw[hoc] at HG hrs
 have HS:=hid hrs
 obtain⟨vv,hvv⟩:∃ vv,Co.vOf oc=vv:=⟨_,rfl⟩
 obtain⟨tt,htt⟩:∃ tt,Co.tOf oc=tt:=⟨_,rfl⟩
 obtain⟨bb,hbb⟩:∃ bb,oc.isSome=bb:=⟨_,rfl⟩
 rw[hvv,htt,hbb] at HG
 have HV:=hid (And.intro hvv (And.intro htt hbb))
 have D2:=hid d2
 have Y3:=hid y3
 clear hoc hrs hvv htt hbb d4 y0 y1 y2 y4 y5 y6 y7 y8 y9 y10
 go_region_held3 (λw'=>w'.cell? ⟨q,2,none⟩=some (.pointer (some ⟨cl,0,none⟩))/\w'.cell? ⟨w.heap.size,3,none⟩=some (.string uid)) (first|go_keep|exact hS)
  (first|(go_at_call 163;refine uu (HG _ (by first|exact rZ.drewN _|exact rZ.drew)) λw2 f2'=>?_;have f2:Fr [] w0 w2:=(by first|exact(rZ.drewN _).trans f2'|exact rZ.drew.trans f2');have hS:=(⟨f2.cell D2 (block_lt_of_cell D2) (by simp),f2.cell Y3.out (block_lt_of_cell Y3.out) (by simp)⟩:w2.cell? ⟨q,2,none⟩=_/\w2.cell? ⟨w.heap.size,3,none⟩=_)))
 have b6W:=HB6.fr f2 (by simp)
 have l6:=b6W.lt
 clear hS d2 y3 hl5 hl6 hlq f2'
 obtain⟨e0,e1,e2,e3,e4,e5,e6,e7⟩:=b6W.cs8
 obtain⟨z0,z1,z2,z3,z4,z5,z6,z7⟩:=b6W.fz8
 simp[Ev.rsc] at e0 e1 e2 e3 e4 e5 e6 e7
 have H3:=hid (H0.fr0 f2)
 have XW:=hid (FrX.aA (F0.trans f2):FrX B Ts [] w w2)
 have BW:=hid b6W
 cases bb with
 | false =>
  go_wp2_with fail
  rw[HX]
  obtain⟨_,_,hb⟩:=HV.out
  have ho:oc=none:=by simpa using hb
  have hrs:=HS.out
  rw[ho] at hrs
  subst hrs
  have b7:Holds (w2.setCell ⟨w.heap.size+1,1,none⟩ (.int .i64 4)) (w.heap.size+1) 55 (Ev.rsc { kind:=6,err:=4 } (.slice none 0 0)).toArray:=by simpa[Ev.rsc] using BW.set 1 (.int .i64 4)
  exact gL (rs:=(x,{ kind:=6,err:=4 })) hB b7 (Own.nil _ _ _ _) ⟨_,_,_,_,_,H3.frx (iC (w:=w) (by omega) BW _ _) (by decide)⟩ (XW.aw (by simp) _) rfl rfl
 | true =>
  go_wp2_with fail
  rw[HX]
  obtain⟨hv,ht,hb⟩:=HV.out
  obtain⟨e,ho⟩:=Option.isSome_iff_exists.1 hb
  have hrs:=HS.out
  rw[ho] at hrs hv ht
  have hv':e.version=vv:=hv
  have ht':e.text=tt:=ht
  have b7:Holds ((w2.setCell ⟨w.heap.size+1,3,none⟩ (.int .i64 vv)).setCell ⟨w.heap.size+1,4,none⟩ (.string tt)) (w.heap.size+1) 55 (Ev.rsc { kind:=6,version:=vv,au:=tt } (.slice none 0 0)).toArray:=by simpa[Ev.rsc] using (BW.set 3 (.int .i64 vv)).set 4 (.string tt)
  have hrs2:rs=(x,{ kind:=6,version:=vv,au:=tt }):=by rw[<-hrs,<-hv',<-ht']
  rw[hrs2]
  exact gL (rs:=(x,{ kind:=6,version:=vv,au:=tt })) hB b7 (Own.nil _ _ _ _) ⟨_,_,_,_,_,(H3.frx (iC (w:=w) (by omega) BW.out 3 (.int .i64 vv)) (by decide)).frx (iC (w:=w) (by omega) (BW.set 3 (.int .i64 vv)) 4 (.string tt)) (by decide)⟩ ((XW.aw (p:=⟨w.heap.size+1,3,none⟩) (by simp) _).aw (by simp) _) rfl rfl
end Cr
