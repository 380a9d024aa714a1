/- Texts CoreB, TaskA, TaskB, CoreW, CoreK. -/
import Derived.Test.YtjmkkcckfbnmeaaGreatDoorM02
import Derived.Test.YtjmkkcckfbnmeaaGreatDoorM19
import Derived.Test.YtjmkkcckfbnmeaaGreatDoorM22
import Derived.Test.YtjmkkcckfbnmeaaGreatDoorM25
import Derived.Test.YtjmkkcckfbnmeaaGreatDoorM26
import Derived.Deep.CutRange
import Derived.Deep.RegionHeld3
import Derived.StillTailTactics
set_option maxRecDepth 100000
set_option maxHeartbeats 8000000
set_option linter.all false
open Go.Lib (hid)
namespace Go.Proofs.YtjmkkcckfbnmeaaGreatDoor.Cr
open Go.RowKit
theorem budget_any (w:World)(B g:Nat)(k:Cf)(x:M.Core)(vp:Value)(rg bg hg cg:Nat)(h:CoreP w B g k x vp rg bg hg cg)(hB:B≤w.heap.size)(hq:Bu.qOk x.cols x.cards x.maxBytes x.logMost=true)(y:Int × Int)(hy:x.budget.getD (0,0)=y) :
  Calls Tryz.prog 152 #[.pointer (some ⟨g,0,none⟩),.string tn] w fun e w'=>∃ q,e = .returned (.pointer (some ⟨q,0,none⟩))∧B≤q∧Ob.MapAt w' B bg [(tn,.pointer (some ⟨q,0,none⟩))]∧Bu.BudAt w' q x.cols x.cards x.maxBytes x.logMost y.1 y.2∧CoreP w' B g k { x with budget:=some y } vp rg bg hg cg∧FrX B BTs [] w w':=by
 have c12:=h.cell.cell 11
 have c4:=h.cell.cell 4
 have c5:=h.cell.cell 5
 have c6:=h.cell.cell 6
 have c7:=h.cell.cell 7
 simp at c12 c4 c5 c6 c7
 have hbug:=h.bug
 cases hbu:x.budget with
 | some z =>
  rw[hbu] at hbug hy
  simp only[Option.getD_some] at hy
  subst hy
  obtain⟨q,hq1,hm,hb⟩:=hbug
  have hx:([(tn,.pointer (some ⟨q,0,none⟩))]:List Ob.Ent)[idx (Ob.keys [(tn,.pointer (some ⟨q,0,none⟩))]) tn]? = some (tn,.pointer (some ⟨q,0,none⟩)):=by
   have:idx (Ob.keys [(tn,.pointer (some ⟨q,0,none⟩))]) tn=0:=idx_eq (by simp) (lo_zero _ _) (fun t x hx _=>by
    match t,hx with
    | 0,hx=>simp[Ob.keys] at hx;subst hx;exact kl_irrefl _)
   rw[this]
   rfl
  have HG:=hid (Ob.get_yes w B bg _ tn _ hm (by simp[Ob.hasK,Ob.keys]) hx)
  have hxx:({ x with budget:=some z } : M.Core)=x:=by
   rw[←hbu]
  rw[hxx]
  have H0:=hid h
  have H1:=hid hm
  have H2:=hid hb
  clear h hm hb hx hxx hbu hq c4 c5 c6 c7
  go_enter Tryz.func152,Tryz.ntmps152
  go_wp2_with fail
  refine HG.out.mono ?_
  rintro e w1 ⟨rfl,f1⟩
  go_wp2_with fail
  go_ret
  exact⟨q,rfl,hq1,H1.out.fr0 f1,Holds.fr H2.out f1 (by simp),H0.out.fr0 f1,FrX.of_fr0 f1⟩
 | none =>
  rw[hbu] at hbug hy
  simp only[Option.getD_none] at hy
  subst hy
  have HG:=hid (Ob.get_no w B bg [] tn hbug rfl)
  have HN:=hid (fun w'=>Bu.new_yes x.cols x.cards x.maxBytes x.logMost w' hq)
  have HM:=hid (show Ob.MapAt w B bg [] from hbug)
  have HC:=hid (fun w' (f:Fr [] w w')=>(⟨(h.cell.fr f (by simp)).cell 4,(h.cell.fr f (by simp)).cell 5,(h.cell.fr f (by simp)).cell 6,(h.cell.fr f (by simp)).cell 7,(h.cell.fr f (by simp)).cell 11⟩:w'.cell? ⟨g,4,none⟩=_∧w'.cell? ⟨g,5,none⟩=_∧w'.cell? ⟨g,6,none⟩=_∧w'.cell? ⟨g,7,none⟩=_∧w'.cell? ⟨g,11,none⟩=_))
  have H0:=hid h
  clear h hbug hbu c4 c5 c6 c7
  go_enter Tryz.func152,Tryz.ntmps152
  go_wp2_with fail
  refine HG.out.mono ?_
  rintro e w1 ⟨rfl,f1⟩
  obtain⟨d4,d5,d6,d7,_⟩:=HC.out w1 f1
  simp at d4 d5 d6 d7
  go_wp2_with fail
  refine(HN.out _).mono ?_
  rintro e w2 ⟨q,rfl,hq2,hb,f2⟩
  have f12:=f1.trans f2
  obtain⟨_,_,_,_,e11⟩:=HC.out w2 f12
  simp at e11
  have hs1:=f1.size
  have HP:=hid (Ob.put_end w2 B bg [] tn ⟨q,0,none⟩ (HM.out.fr0 f12) (by simp) (by simp) (Nat.le_trans hB f12.size) H0.out.bbg)
  have HB:=hid hb
  clear hb d4 d5 d6 d7 c12
  go_wp2_with fail
  refine HP.out.mono ?_
  rintro e w3 ⟨rfl,hm3,x3⟩
  go_wp2_with fail
  go_ret
  obtain⟨v0,hv0,_⟩:=(HM.out.fr0 f12).at_
  have x3':FrX B BTs [] w2 w3:=((x3.mono (Ts:=BTs) (T:=[bg]) (by decide) (fun _ h=>h)).shed (fun z hz=>.inr (.inr ⟨172,by decide,by simp at hz;subst hz;exact hv0.ty⟩)))
  have hb3:Bu.BudAt w3 q x.cols x.cards x.maxBytes x.logMost 0 0:=Holds.frx HB.out x3 (by decide) (fun hz=>by
   simp at hz
   have:=hv0.ty
   rw[←hz,Holds.ty HB.out] at this
   cases this)
  refine⟨q,rfl,by omega,by simpa using hm3,hb3,(H0.out.fr0 f12).atBug x3' ⟨q,by omega,by simpa using hm3,hb3⟩,(FrX.of_fr0 f12).trans x3'⟩
section
variable {w w':World} {B g:Nat} {k:Cf} {x:M.Core} {vp:Value} {rg bg hg cg q:Nat} {p:M.Place}
theorem CoreP.place (h:CoreP w B g k x vp rg bg hg cg)(hp:x.place=some p)(ho:Own w B 182 1 vp 1 [.pointer (some ⟨q,0,none⟩)]):B≤q∧PlaceAt w B q p:=by
 have hpl:=h.pls
 rw[hp] at hpl
 obtain⟨q',hq,ho',hpa⟩:=hpl
 obtain⟨gv,cv,_,e1,hr⟩:=ho.pos (by omega)
 obtain⟨gv',cv',_,e2,hr'⟩:=ho'.pos (by omega)
 have y0:w.cell? ⟨gv,0,none⟩=some (.pointer (some ⟨q,0,none⟩)):=hr.cell rfl
 have y1:w.cell? ⟨gv',0,none⟩=some (.pointer (some ⟨q',0,none⟩)):=hr'.cell rfl
 rw[e1] at e2
 cases e2
 rw[y0] at y1
 simp at y1
 subst y1
 exact⟨hq,hpa⟩
theorem CoreP.atDrawn (h:CoreP w B g k x vp rg bg hg cg)(hp:x.place=some p)(ho:Own w B 182 1 vp 1 [.pointer (some ⟨q,0,none⟩)])(t:Int) :
  CoreP (w.setCell ⟨q,5,none⟩ (.int .i64 t)) B g k { x with place:=some { p with drawn:=t } } vp rg bg hg cg∧FrX B [187] [] w (w.setCell ⟨q,5,none⟩ (.int .i64 t)):=by
 obtain⟨hq,c,l,h1,h2,h3,h4,h5⟩:=h.place hp ho
 have hf:FrX B [187] [] w (w.setCell ⟨q,5,none⟩ (.int .i64 t)):=FrX.of_frT ((Fr.refl [q] w).setCell (by simp) _) (by simpa using hq) (fun y hy=>⟨187,by simp,by simp at hy;subst hy;exact h3.ty⟩)
 exact⟨h.atPls (hf.mono (by simp) (fun _ h=>h)) ⟨q,hq,ho.frx0 hf (by decide),⟨c,l,h1,h2,by simpa using h3.set 5 (.int .i64 t),h4.frx hf (by decide),h5.frx hf (by decide)⟩⟩,hf⟩
theorem CoreP.atAlive (h:CoreP w B g k x vp rg bg hg cg)(hp:x.place=some p)(ho:Own w B 182 1 vp 1 [.pointer (some ⟨q,0,none⟩)])(t:Bool) :
  CoreP (w.setCell ⟨q,4,none⟩ (.bool t)) B g k { x with place:=some { p with alive:=t } } vp rg bg hg cg∧FrX B [187] [] w (w.setCell ⟨q,4,none⟩ (.bool t)):=by
 obtain⟨hq,c,l,h1,h2,h3,h4,h5⟩:=h.place hp ho
 have hf:FrX B [187] [] w (w.setCell ⟨q,4,none⟩ (.bool t)):=FrX.of_frT ((Fr.refl [q] w).setCell (by simp) _) (by simpa using hq) (fun y hy=>⟨187,by simp,by simp at hy;subst hy;exact h3.ty⟩)
 exact⟨h.atPls (hf.mono (by simp) (fun _ h=>h)) ⟨q,hq,ho.frx0 hf (by decide),⟨c,l,h1,h2,by simpa using h3.set 4 (.bool t),h4.frx hf (by decide),h5.frx hf (by decide)⟩⟩,hf⟩
theorem CoreP.atCol (h:CoreP w B g k x vp rg bg hg cg)(hp:x.place=some p)(ho:Own w B 182 1 vp 1 [.pointer (some ⟨q,0,none⟩)]){cl:Nat}(hc:w.cell? ⟨q,2,none⟩=some (.pointer (some ⟨cl,0,none⟩)))
  (hf:FrX B Co.Ts [] w w') {c':M.Col} (hcol:Co.ColAt w' B cl c'):CoreP w' B g k { x with place:=some { p with col:=c' } } vp rg bg hg cg:=by
 obtain⟨hq,c,l,h1,h2,h3,h4,h5⟩:=h.place hp ho
 have e:=h3.cell 2
 rw[hc] at e
 simp at e
 subst e
 exact h.atPls (hf.mono (by decide) (fun _ h=>h)) ⟨q,hq,ho.frx0 hf (by decide),⟨cl,l,h1,h2,h3.frx hf (by decide) (by simp),hcol,h5.frx hf (by decide)⟩⟩
end
structure MayWrite (x:M.Core)(p:M.Place)(b:Int × Int)(ops:List M.Op):Prop where
 quota:Bu.qOk x.cols x.cards x.maxBytes x.logMost=true
 c0:0≤x.counter
 c1:x.counter<9223372036854775807
 b0:0≤b.2
 b1:b.2≤x.maxBytes
 lops:ops.length≤100
 cond:∀ o∈ops,Et.condOk o.ck o.cv=true
 size:∀ o∈ops,o.card.size≤100000
 text:∀ y∈p.col.cards,y.text.size≤100000
 cards:p.col.cards.length≤1000
 grow:(p.col.check ops (x.maxBytes - b.2)).2.2=0→0≤b.2+(p.col.check ops (x.maxBytes - b.2)).2.1∧(p.col.check ops (x.maxBytes - b.2)).2.1≤x.maxBytes - b.2
theorem write_any (w:World)(B g:Nat)(k:Cf)(x:M.Core)(vp:Value)(rg bg hg cg q ra:Nat)(p:M.Place)(b:Int × Int)(a0:M.Resp)(vi vo:Value)(ops:List M.Op)(apply:Bool)(h:CoreP w B g k x vp rg bg hg cg)(hg':B≤g)(hB:B≤w.heap.size)(hp:x.place=some p)
  (ho:Own w B 182 1 vp 1 [.pointer (some ⟨q,0,none⟩)]) (ha:Holds w ra 53 (Ev.rsc a0 vi).toArray) (hra:B≤ra) (hops:Ev.OpsAt w B vo ops) (hb:x.budget=some b) (hm:MayWrite x p b ops)
  (hap:apply=true→(p.col.check ops (x.maxBytes - b.2)).2.2=0→∀ (j:Nat) o,ops[j]? = some o→∀ W cl,Co.ColAt W B cl ((ops.take j).foldl (fun c o=>c.apply o (x.counter+1)) p.col)→B≤W.heap.size→B≤cl →
   Calls Tryz.prog 114 #[.pointer (some ⟨cl,0,none⟩),.agg #[.bool o.del,.string o.uid,.string o.card,.int .i64 o.ck,.int .i64 o.cv],.int .i64 (x.counter+1)] W fun e W'=>(∃ b,e = .returned (.bool b))∧Co.ColAt W' B cl ((ops.take (j+1)).foldl (fun c o=>c.apply o (x.counter+1)) p.col)∧FrX B Co.Ts [] W W') :
  Calls Tryz.prog 163 #[.pointer (some ⟨g,0,none⟩),.pointer (some ⟨q,0,none⟩),vo,.bool apply,.pointer (some ⟨ra,0,none⟩)] w fun e w'=>e = .returned (.tuple #[])∧Holds w' ra 53 (Ev.rsc (x.write p ops apply a0).2 vi).toArray∧CoreP w' B g k (x.write p ops apply a0).1 vp rg bg hg cg∧FrX B Ts [ra] w w':=by
 obtain⟨hq,cl,lg,h1,h2,hc,hcol,hl⟩:=h.place hp ho
 have c0:=hc.cell 0
 simp at c0
 have hx:x.write p ops apply a0=if (p.col.check ops (x.maxBytes - b.2)).2.2≠0 then (x,{ a0 with err:=(p.col.check ops (x.maxBytes - b.2)).2.2,index:=(p.col.check ops (x.maxBytes - b.2)).1 }) else
  ({ x with counter:=x.counter+1,budget:=some (b.1,b.2+(p.col.check ops (x.maxBytes - b.2)).2.1),place:=some { p with drawn:=x.counter+1,col:=if apply then ops.foldl (fun c o=>c.apply o (x.counter+1)) p.col else p.col } },{ a0 with token:=x.counter+1 }):=by
  simp[M.Core.write,hb]
 have HX:=hid hx
 have HBu:=hid (budget_any w B g k x vp rg bg hg cg h hB hm.quota b (by rw[hb];rfl))
 have HAP:=hid hap
 have HM:=hid hm
 have HO:=hid ho
 have HOps:=hid hops
 have HA:=hid ha
 have hbb:({ x with budget:=some b } : M.Core)=x:=by rw[←hb]
 rw[hbb] at HBu
 obtain⟨av,cv,rfl⟩:=hops.form
 clear hx hap hm ho hops ha h hcol hl hbb
 go_enter Tryz.func163,Tryz.ntmps163
 go_wp2_with fail
 refine HBu.out.mono ?_
 rintro e w1 ⟨bq,rfl,hbq,hm1,hb1,h1c,x1⟩
 have ho1:=HO.out.frx0 x1 (by decide)
 obtain⟨_,cl,lg,e1,e2,hc1,hcol1,_⟩:=h1c.place hp ho1
 have c2:=hc1.cell 2
 simp at c2
 have hqm:x.maxBytes≤1048576:=by
  have:=HM.out.quota
  simp only[Bu.qOk,decide_eq_true_eq] at this
  omega
 have hB1:=x1.size
 have HRm:=hid (fun W (f:Fr [] w1 W)=>Bu.room_any W bq x.cols x.cards x.maxBytes x.logMost b.1 b.2 (Holds.fr hb1 f (by simp)) HM.out.b0 HM.out.b1 hqm)
 have HCk:=hid (fun W (f:Fr [] w1 W)=>Co.check_any W B B cl p.col ops _ (x.maxBytes - b.2) (hcol1.fr0 f) ((HOps.out.frx0 x1 (by decide)).fr0 f) HM.out.lops HM.out.cond HM.out.size HM.out.text HM.out.cards)
 have H1:=hid h1c
 have HO1:=hid ho1
 have HC1:=hid hc1
 have HB1:=hid hb1
 have HM1:=hid hm1
 have HG:=hid HM.out.grow
 clear h1c ho1 hcol1 hc1 c0 hc hb1 hm1
 generalize p.col.check ops (x.maxBytes - b.2)=r at *
 go_wp2_with fail
 go_region_held3 (fun w'=>w'.cell? ⟨q,2,none⟩=some (.pointer (some ⟨cl,0,none⟩))) (first|go_keep|exact c2x)
  (first
   | (go_at_call 211;refine(HRm.out _ ((Fr.refl _ _).drewN _)).mono ?_;rintro e w2 ⟨rfl,n2,rfl⟩)
   | (go_at_call 211;refine(HRm.out _ ((Fr.refl _ _).drew)).mono ?_;rintro e w2 ⟨rfl,n2,rfl⟩)
   | (go_at_call 210;refine(HCk.out _ ((Fr.refl _ _).drewN _)).mono ?_;rintro e w3 ⟨rfl,f3⟩;have c2x:=f3.cell c2 (block_lt_of_cell c2) (by simp)))
 have f13:Fr [] w1 w3:=((Fr.refl _ _).drewN _).trans f3
 have ha3:=(HA.out.frx x1 (by decide) (by simp)).fr f13 (by simp)
 have z1:=ha3.frozen 1
 have z5:=ha3.frozen 5
 have d1:=ha3.cell 1
 have d5:=ha3.cell 5
 simp[Ev.rsc] at d1 d5
 have hral:=ha3.lt
 have X13:=hid (x1.trans (FrX.of_fr0 f13))
 have H3:=hid (H1.out.fr0 f13)
 have HO3:=hid (HO1.out.fr0 f13)
 have HA3:=hid ha3
 have HB3:=hid (Holds.fr HB1.out f13 (by simp))
 have HM3:=hid (HM1.out.fr0 f13)
 have F13:=hid f13
 clear c2x c2 ha3 f13 f3 x1 H1 HO1 HB1 HM1 HRm HCk HBu HC1 HA
 by_cases hr:r.2.2≠0
 ·have hne:(r.2.2 != 0)=true:=by simpa using hr
  have HX2:=hid (HX.out.trans (if_pos hr))
  clear hr
  go_wp2_with fail
  refine bodyPost_ret (results_none rfl _ _ _) rfl ?_
  rw[HX2.out]
  refine⟨rfl,?_,?_,?_⟩
  ·simpa[Ev.rsc] using (HA3.out.set 1 (.int .i64 r.2.2)).set 5 (.int .i64 r.1)
  ·have y1:FrX B [53] [] w3 ((w3.setCell ⟨ra,1,none⟩ (.int .i64 r.2.2)).setCell ⟨ra,5,none⟩ (.int .i64 r.1)):=FrX.of_frT (((Fr.refl [ra] w3).setCell (by simp) _).setCell (by simp) _) (by simpa using hra) (fun y hy=>⟨53,by simp,by simp at hy;subst hy;exact HA3.out.ty⟩)
   exact H3.out.frx y1 (by decide)
  ·have y1:FrX B Ts [ra] w3 ((w3.setCell ⟨ra,1,none⟩ (.int .i64 r.2.2)).setCell ⟨ra,5,none⟩ (.int .i64 r.1)):=FrX.of_fr (((Fr.refl [ra] w3).setCell (by simp) _).setCell (by simp) _) (by simpa using hra)
   exact(X13.out.mono (by decide) (by simp)).trans y1
 ·have hr0:r.2.2=0:=by simpa using hr
  have hne:(r.2.2 != 0)=false:=by simp[hr0]
  have HX2:=hid (HX.out.trans (if_neg hr))
  obtain⟨hg1,hg2⟩:=HG.out hr0
  have HAP2:=hid (fun ht=>HAP.out ht hr0)
  clear hr hr0 d1 d5 z1 z5 HAP
  go_wp2_with fail
  refine(draw_any w3 B g k x vp rg bg hg cg H3.out hg' HM.out.c0 HM.out.c1).mono ?_
  rintro e w4 ⟨rfl,h4,x4⟩
  have hb4:=Holds.frx HB3.out x4 (by decide) (by simp)
  have HM4:=hid (HM3.out.frx x4 (by decide) (by decide) (by simp))
  have HMv:=hid (Bu.move_any w4 bq x.cols x.cards x.maxBytes x.logMost b.1 b.2 r.2.1 hb4 HM.out.b0 HM.out.b1 hqm (by have:=HM.out.b1;omega) true (by simpa using hg2))
  have HO4:=hid (HO3.out.frx0 x4 (by decide))
  have HA4:=hid (HA3.out.frx x4 (by decide) (by simp))
  have H4:=hid h4
  clear h4
  go_wp2_with fail
  refine HMv.out.mono ?_
  rintro e w5 ⟨rfl,hb5,f5⟩
  have x5:FrX B [293] [] w4 w5:=FrX.of_frT f5 (by simpa using hbq) (fun y hy=>⟨293,by simp,by simp at hy;subst hy;exact Holds.ty hb4⟩)
  have hmv:Bu.mv b.2 r.2.1=b.2+r.2.1:=by unfold Bu.mv;omega
  simp only[if_true,hmv] at hb5
  have h5:=H4.out.atBug (o:=some (b.1,b.2+r.2.1)) (x5.mono (by decide) (fun _ h=>h)) ⟨bq,hbq,HM4.out.frx x5 (by decide) (by decide) (by simp),hb5⟩
  have HO5:=hid (HO4.out.frx0 x5 (by decide))
  have HA5:=hid (HA4.out.frx x5 (by decide) (by simp))
  obtain⟨_,cl5,lg5,_,_,hc5,_,_⟩:=h5.place hp HO5.out
  have z5:=hc5.frozen 5
  have d5:=hc5.cell 5
  simp at d5
  have H6:=hid (h5.atDrawn hp HO5.out (x.counter+1))
  have hqra:ra≠q:=fun e=>by
   have:=HA5.out.ty
   rw[e,hc5.ty] at this
   cases this
  have hral5:=HA5.out.lt
  have hql5:=hc5.lt
  have y2:=HA5.out.cell 2
  have yz2:=HA5.out.frozen 2
  simp[Ev.rsc] at y2
  have X5:=hid (X13.out.mono (Ts:=Ts) (T:=[]) (by decide) (by simp) |>.trans ((x4.mono (by decide) (fun _ h=>h)).trans (x5.mono (by decide) (fun _ h=>h))))
  clear hb4 hb5 h5 hc5 HMv HB3 HM3 HM4 H3 H4 HO4 HO3 HA4 HA3 x4 x5
  have hbs:=X5.out.size
  have HA7:=hid (show Holds ((w5.setCell ⟨q,5,none⟩ (.int .i64 (x.counter+1))).setCell ⟨ra,2,none⟩ (.int .i64 (x.counter+1))) ra 53 (Ev.rsc { a0 with token:=x.counter+1 } vi).toArray from by
   simpa[Ev.rsc] using (HA5.out.far hqra (.int .i64 (x.counter+1))).set 2 (.int .i64 (x.counter+1)))
  have Y7:=hid (show FrX B [53] [] (w5.setCell ⟨q,5,none⟩ (.int .i64 (x.counter+1))) ((w5.setCell ⟨q,5,none⟩ (.int .i64 (x.counter+1))).setCell ⟨ra,2,none⟩ (.int .i64 (x.counter+1))) from
   FrX.of_frT ((Fr.refl [ra] _).setCell (by simp) _) (by simpa using hra) (fun y hy=>⟨53,by simp,by simp at hy;subst hy;exact(HA5.out.far hqra _).ty⟩))
  have Z7:=hid (show FrX B Ts [ra] (w5.setCell ⟨q,5,none⟩ (.int .i64 (x.counter+1))) ((w5.setCell ⟨q,5,none⟩ (.int .i64 (x.counter+1))).setCell ⟨ra,2,none⟩ (.int .i64 (x.counter+1))) from
   FrX.of_fr ((Fr.refl [ra] _).setCell (by simp) _) (by simpa using hra))
  have X7:=hid (((X5.out.mono (T:=[]) (fun _ h=>h) (by simp)).trans (H6.out.2.mono (by decide) (by simp))).mono (fun _ h=>h) (by simp:∀ z,z∈([]:List Nat)→z∈[ra]) |>.trans Z7.out)
  have H7:=hid (H6.out.1.frx Y7.out (by decide))
  have HO7:=hid ((HO5.out.frx0 H6.out.2 (by decide)).frx0 Y7.out (by decide))
  have HP7:=hid (((HOps.out.frx0 X5.out (by decide)).frx0 H6.out.2 (by decide)).frx0 Y7.out (by decide))
  clear HA5 H6 Y7 Z7 X5 HO5 HOps X13 F13
  cases apply with
  | false =>
   go_wp2_with fail
   refine bodyPost_ret (results_none rfl _ _ _) rfl ?_
   rw[HX2.out]
   exact⟨rfl,HA7.out,H7.out,X7.out⟩
  | true =>
   go_wp2_with fail
   generalize hW7:(w5.setCell ⟨q,5,none⟩ (.int .i64 (x.counter+1))).setCell ⟨ra,2,none⟩ (.int .i64 (x.counter+1))=w7 at *
   clear hW7
   go_loopw [17,71] (fun _ i wr=>∃ j:Nat,j≤ops.length∧i = .int .i64 j∧Holds wr ra 53 (Ev.rsc { a0 with token:=x.counter+1 } vi).toArray∧CoreP wr B g k { x with counter:=x.counter+1,budget:=some (b.1,b.2+r.2.1),place:=some { p with drawn:=x.counter+1,col:=(ops.take j).foldl (fun c o=>c.apply o (x.counter+1)) p.col } } vp rg bg hg cg∧Own wr B 182 1 vp 1 [.pointer (some ⟨q,0,none⟩)]∧Ev.OpsAt wr B (.slice av ops.length cv) ops∧FrX B Ts [ra] w wr) (fun _ i _=>ops.length - (intOf i).toNat)
   case atStart=>exact⟨0,Nat.zero_le _,rfl,HA7.out,H7.out,HO7.out,HP7.out,X7.out⟩
   case round =>
    obtain⟨j,hj,rfl,ra1,rc,ro,rp,rx⟩:=hrel
    by_cases hlt:j<ops.length
    ·have hx:ops[j]? = some ops[j]:=List.getElem?_eq_getElem hlt
     obtain⟨o,hx'⟩:∃ o,ops[j]=o:=⟨_,rfl⟩
     rw[hx'] at hx
     clear hx'
     have HLT:=hid hlt
     have hlo:=HM.out.lops
     have hk1:(j:Int)<(ops.length:Int):=by omega
     obtain⟨gq,cq,hgq,hv,hrow,hgl,hcell⟩:=rp.cell Lp.cs_len rfl hx
     cases hv
     have q0:wr.cell? ⟨gq,j*5,none⟩=some (.bool o.del):=hcell 0 _ (by omega) rfl
     have q1:wr.cell? ⟨gq,j*5+1,none⟩=some (.string o.uid):=hcell 1 _ (by omega) rfl
     have q2:wr.cell? ⟨gq,j*5+2,none⟩=some (.string o.card):=hcell 2 _ (by omega) rfl
     have q3:wr.cell? ⟨gq,j*5+3,none⟩=some (.int .i64 o.ck):=hcell 3 _ (by omega) rfl
     have q4:wr.cell? ⟨gq,j*5+4,none⟩=some (.int .i64 o.cv):=hcell 4 _ (by omega) rfl
     have hbw:=rx.size
     obtain⟨_,clr,lgr,hb1,_,hcr,hcolr,_⟩:=rc.place rfl ro
     have d2:=hcr.cell 2
     simp at d2
     have hqlr:=hcr.lt
     have f1:Fr [] wr (wr.alloc (.cells #[.bool o.del,.string o.uid,.string o.card,.int .i64 o.ck,.int .i64 o.cv] 49)):=(Fr.refl _ _).alloc _
     have HAp:=hid (fun W (f:Fr [] wr W)=>HAP2.out trivial j o hx W clr (hcolr.fr0 f) (by have:=f.size;omega) hb1)
     have R1:=hid ra1
     have R2:=hid rc
     have R3:=hid ro
     have R4:=hid rp
     have R5:=hid rx
     clear ra1 rc ro rp rx hcr hcolr hcell hrow hx
     go_wp2_with fail
     obtain⟨WA,hWA⟩:∃ WA,WA=wr.alloc (.cells #[.bool o.del,.string o.uid,.string o.card,.int .i64 o.ck,.int .i64 o.cv] 49):=⟨_,rfl⟩
     have bx:=Holds.new wr 49 #[.bool o.del,.string o.uid,.string o.card,.int .i64 o.ck,.int .i64 o.cv]
     rw[←hWA] at f1 bx ⊢
     have F1:=hid f1
     have D2:=hid d2
     have e2:=f1.cell d2 hqlr (by simp)
     have y0:=bx.cell 0
     have y1:=bx.cell 1
     have y2:=bx.cell 2
     have y3:=bx.cell 3
     have y4:=bx.cell 4
     simp at y0 y1 y2 y3 y4
     clear hWA f1 d2 q0 q1 q2 q3 q4 bx
     go_still_tail 6,(by kernel_rfl)
     change wpList _ _ _ _ _ WA.drew
     go_wp2_with fail
     refine(HAp.out _ (F1.out.drew)).mono ?_
     rintro e w8 ⟨⟨bb,rfl⟩,q8,x8⟩
     go_wp2_with fail
     go_roundw
     case rel =>
      have f01:Fr [] wr WA.drew:=F1.out.drew
      have hlt2:=HLT.out
      refine⟨j+1,by omega,by go_num,(R1.out.fr f01 (by simp)).frx x8 (by decide) (by simp),?_,(R3.out.fr0 f01).frx0 x8 (by decide),(R4.out.fr0 f01).frx0 x8 (by decide),R5.out.trans ((FrX.of_fr0 f01).trans (x8.mono (by decide) (by simp)))⟩
      exact(R2.out.fr0 f01).atCol rfl (R3.out.fr0 f01) (F1.out.drew.cell D2.out hqlr (by simp)) x8 q8
     case measure =>
      have hlt2:=HLT.out
      simp[intOf]
      omega
    ·obtain rfl:j=ops.length:=by omega
     rw[List.take_length] at rc
     clear HA7 H7 HO7 HP7 X7 HAP2 HM
     go_wp2_with fail
     refine bodyPost_end (results_none rfl _ _ _) rfl ?_
     rw[HX2.out]
     exact⟨rfl,ra1,rc,rx⟩
end Go.Proofs.YtjmkkcckfbnmeaaGreatDoor.Cr
namespace Go.Proofs.YtjmkkcckfbnmeaaGreatDoor.Tk
open Go.RowKit Cr
theorem can_eq (t:M.Task)(x:M.Core)(who:Int):t.can x who=if t.stage=3 then decide (x.held t.id who=2∨x.held t.id who=3) else if t.stage=7 then x.awake who else decide (t.stage≠8):=rfl
theorem can_any (w:World)(B g xp:Nat)(who:Int)(t:M.Task)(k:Cf)(x:M.Core)(h:TaskAt w B g xp who t)(hc:CoreAt w B xp k x)(hm:M.mayCan x t=true) :
  Calls Tryz.prog 29 #[.pointer (some ⟨g,0,none⟩)] w fun e w'=>e = .returned (.bool (t.can x who))∧Fr [] w w':=by
 obtain⟨vo,vi,h⟩:=h
 simp only[M.mayCan,M.mayCore,Bool.and_eq_true,Bool.or_eq_true,decide_eq_true_eq] at hm
 obtain⟨hmc,hm⟩:=hm
 have hhub:x.hub.length≤900:=by omega
 clear hmc
 have c0:=h.cell.cell 0
 have c1:=h.cell.cell 1
 have c15:=h.cell.cell 15
 have c16:=h.cell.cell 16
 have c27:=h.cell.cell 27
 simp[taskC] at c0 c1 c15 c16 c27
 have HE:=hid (can_eq t x who)
 clear h
 by_cases h3:t.stage=3
 ·obtain⟨hp,hiq⟩:x.place.isSome=true∧t.id=0:=by
   rcases hm with h|h
   ·exact absurd h3 h
   ·exact h
  obtain⟨p,hp⟩:=Option.isSome_iff_exists.1 hp
  have hh:x.held t.id who=p.lock.state who:=by simp[M.Core.held,hp,hiq]
  have HH:=hid (held_any w.drew B xp k x p who (hc.fr0 (Fr.refl _ _).drew) hp)
  have he:t.can x who=decide (p.lock.state who=2∨p.lock.state who=3):=by rw[can_eq,if_pos h3,hh]
  have HE2:=hid he
  rw[h3] at c15
  rw[hiq] at c16
  clear HE hm hc hh he hp
  go_enter Tryz.func29,Tryz.ntmps29
  go_wp2_with fail
  go_still_tail 12,(by kernel_rfl)
  change wpList _ _ _ _ _ w.drew
  go_wp2_with fail
  refine HH.out.mono ?_
  rintro e w2 ⟨rfl,f2⟩
  have FF:=hid ((Fr.refl [] w).drew.trans f2)
  generalize p.lock.state who=st at *
  clear HH c0 c1 c15 c16 c27 f2
  by_cases s2:st=2
  ·subst s2
   go_wp2_with fail
   go_ret
   exact⟨by rw[HE2.out];rfl,FF.out⟩
  ·by_cases s3:st=3
   ·subst s3
    go_wp2_with fail
    go_ret
    exact⟨by rw[HE2.out];rfl,FF.out⟩
   ·have b2:(st==2)=false:=by simpa using s2
    have b3:(st==3)=false:=by simpa using s3
    have HS:=hid (And.intro s2 s3)
    clear s2 s3
    go_wp2_with fail
    go_ret
    exact⟨by rw[HE2.out];simp[HS.out.1,HS.out.2],FF.out⟩
 ·by_cases h7:t.stage=7
  ·have he:t.can x who=x.awake who:=by rw[can_eq,if_neg h3,if_pos h7]
   have HH:=hid (fun W (f:Fr [] w W)=>awake_any W B xp k x who (hc.fr0 f) hhub)
   have HE2:=hid he
   rw[h7] at c15
   generalize x.awake who=bb at *
   clear HE hm hc he
   go_enter Tryz.func29,Tryz.ntmps29
   go_wp2_with fail
   go_region_held3 (fun w'=>w'.cell? ⟨g,27,none⟩=some (.bool false)∧w'.cell? ⟨g,0,none⟩=some (.pointer (some ⟨xp,0,none⟩))∧w'.cell? ⟨g,1,none⟩=some (.int .i64 who)) (first|go_keep|exact hS)
    (first|(go_at_call 61;refine(HH.out _ (by first|exact(Fr.refl _ _).drewN _|exact(Fr.refl _ _).drew)).mono ?_;rintro e w2 ⟨rfl,f2⟩;have FF:=hid (show Fr [] w w2 from (by first|exact((Fr.refl _ _).drewN _).trans f2|exact(Fr.refl _ _).drew.trans f2));have hS:=(⟨FF.out.cell c27 (block_lt_of_cell c27) (by simp),FF.out.cell c0 (block_lt_of_cell c0) (by simp),FF.out.cell c1 (block_lt_of_cell c1) (by simp)⟩:w2.cell? ⟨g,27,none⟩=_∧w2.cell? ⟨g,0,none⟩=_∧w2.cell? ⟨g,1,none⟩=_)))
   clear hS c0 c1 c15 c16 c27 HH
   go_wp2_with fail
   go_ret
   exact⟨by rw[HE2.out];rfl,FF.out⟩
  ·have he:t.can x who=decide (t.stage≠8):=by rw[can_eq,if_neg h3,if_neg h7]
   have HE2:=hid he
   have b3:(t.stage==3)=false:=by simpa using h3
   have b7:(t.stage==7)=false:=by simpa using h7
   clear HE hm hc he h3 h7
   generalize t.stage=st at *
   go_enter Tryz.func29,Tryz.ntmps29
   by_cases h8:st=8
   ·subst h8
    go_wp2_with fail
    go_ret
    exact⟨by rw[HE2.out];rfl,Fr.refl _ _⟩
   ·have b8:(st==8)=false:=by simpa using h8
    have HS:=hid h8
    clear h8
    go_wp2_with fail
    go_ret
    exact⟨by rw[HE2.out];simp[HS.out],Fr.refl _ _⟩
theorem ret_copied (W:World)(tmps:Array Value)(g:Nat)(q:M.Req)(v:Value)(hp:Holds W g 41 (Ev.rqc q v).toArray)(h2:tmps[2]?.getD undef = .pointer (some ⟨g,0,none⟩)) :
  (results Tryz.f103 tmps).run Tryz.prog W = .ok (.agg (Ev.rqc q v).toArray) W:=by
 have hr:Tryz.f103.results=#[.cell 2 41]:=rfl
 obtain⟨q0,q1,q2,q3,q4,q5,q6,q7,q8,q9,q10⟩:=hp.cs11
 simp[Ev.rqc] at q0 q1 q2 q3 q4 q5 q6 q7 q8 q9 q10
 simp[results,h2,go_sem,q0,q1,q2,q3,q4,q5,q6,q7,q8,q9,q10,Ev.rqc]
theorem copied_end {tmps:Array Value}{w W1:World}{B:Nat}{q q0:M.Req}{v v0:Value}(b:Holds W1 (w.heap.size+1) 41 (Ev.rqc q0 v0).toArray)(ho:Ev.OpsAt W1 B v q.ops)(hf:Fr [] w W1)(hB:B≤w.heap.size)
  (h2:tmps[2]?.getD undef = .pointer (some ⟨w.heap.size+1,0,none⟩)) :
  bodyPost Tryz.prog Tryz.f103 (fun e w'=>∃ v,e = .returned (.agg (Ev.rqc q v).toArray)∧Ev.OpsAt w' B v q.ops∧Fr [] w w') Exit.ret ⟨tmps,[]⟩ (Ev.put11 W1 (w.heap.size+1) 0 q v) :=
 bodyPost_ret (ret_copied _ _ (w.heap.size+1) q v (Ev.put11_holds b) h2) rfl ⟨_,rfl,ho.frx0 (Ev.put11_frx (Ts:=[41]) (by omega) b.ty (by simp)) (by decide),Ev.put11_frn hf (by simp)⟩
theorem copied_any (w:World)(B:Nat)(q:M.Req)(vo:Value)(h:Ev.OpsAt w B vo q.ops)(hB:B≤w.heap.size)(hl:q.ops.length≤20) :
  Calls Tryz.prog 103 #[.agg (Ev.rqc q vo).toArray] w fun e w'=>∃ v,e = .returned (.agg (Ev.rqc q v).toArray)∧Ev.OpsAt w' B v q.ops∧Fr [] w w':=by
 obtain⟨i3,hi,hz0,hz1,hz2⟩:=info_parts Lp.infoE
 obtain⟨a,c,rfl,hcs,hlen⟩:=Ev.Own.cells h
 obtain⟨w0,hw0⟩:∃ w0,w0=(w.alloc (.cells (Ev.rqc q (.slice a q.ops.length c)).toArray 41)).alloc (.cells (Ev.rqc { kind:=0 } (.slice none 0 0)).toArray 41):=⟨_,rfl⟩
 have f0:Fr [] w w0:=by rw[hw0];exact((Fr.refl _ _).alloc _).alloc _
 have b1:Holds w0 w.heap.size 41 (Ev.rqc q (.slice a q.ops.length c)).toArray:=by rw[hw0];exact(Holds.new _ _ _).alloc _
 have b2:Holds w0 (w.heap.size+1) 41 (Ev.rqc { kind:=0 } (.slice none 0 0)).toArray:=by rw[hw0];exact at_new (by simp)
 have h0:=Own.fr0 h f0
 obtain⟨_,_,he0,hc0,_⟩:=Ev.Own.cells h0
 cases he0
 simp only[Ev.rqc] at hw0 ⊢
 go_enter Tryz.func103,Tryz.ntmps103
 go_wp2_with (at_builtin;rw[←hw0];(refine Ev.wpList_copy B rfl (.const (.slice none 0 0)) (.tmp 4) 39 rfl i3 _ 56 Tryz.underlying39 hi hz0 hz1 hz2 rfl (by decide) rfl a q.ops.length c (flat Lp.cs q.ops) rfl hlen hc0 (flat_cells (fun _=>Lp.cs_one) _) (by unfold maxLen;omega) (by omega) (by have:=f0.size;omega) ?_;intro v3 w3 o3 f3;obtain⟨a3,c3,rfl⟩:=Own.form o3;have b13:=b1.fr f3 (by simp);have b23:=b2.fr f3 (by simp);have d0:=b13.cell 0;have d1:=b13.cell 1;have d2:=b13.cell 2;have d3:=b13.cell 3;have d4:=b13.cell 4;have d5:=b13.cell 5;have d6:=b13.cell 6;have d7:=b13.cell 7;have d8:=b13.cell 8;have d9:=b13.cell 9;have d10:=b13.cell 10;have z7:=b13.frozen 7;have e0:=b23.cell 0;have y0:=b23.frozen 0;have e1:=b23.cell 1;have y1:=b23.frozen 1;have e2:=b23.cell 2;have y2:=b23.frozen 2;have e3:=b23.cell 3;have y3:=b23.frozen 3;have e4:=b23.cell 4;have y4:=b23.frozen 4;have e5:=b23.cell 5;have y5:=b23.frozen 5;have e6:=b23.cell 6;have y6:=b23.frozen 6;have e7:=b23.cell 7;have y7:=b23.frozen 7;have e8:=b23.cell 8;have y8:=b23.frozen 8;have e9:=b23.cell 9;have y9:=b23.frozen 9;have e10:=b23.cell 10;have y10:=b23.frozen 10;simp[Ev.rqc] at d0 e0 d1 e1 d2 e2 d3 e3 d4 e4 d5 e5 d6 e6 d7 e7 d8 e8 d9 e9 d10 e10;have l1:=b13.lt;have l2:=b23.lt))
 have b2W:Holds (w3.setCell ⟨w.heap.size,7,none⟩ (.slice a3 q.ops.length c3)) (w.heap.size+1) 41 (Ev.rqc { kind:=0 } (.slice none 0 0)).toArray:=b23.far (by simp) _
 exact copied_end (q:=q) b2W (o3.frx0 (FrX.of_frT (Ts:=[41]) ((Fr.refl [w.heap.size] _).setCell (by simp) _) (by simpa using hB) (fun y hy=>⟨41,by simp,by simp at hy;subst hy;exact b13.ty⟩)) (by decide)) (Ev.Fr.setNew (p:=⟨w.heap.size,7,none⟩) (f0.trans f3) (Nat.le_refl _) _) hB rfl
theorem ret_told (W:World)(tmps:Array Value)(g:Nat)(a:M.Resp)(v:Value)(hp:Holds W g 53 (Ev.rsc a v).toArray)(h2:tmps[2]?.getD undef = .pointer (some ⟨g,0,none⟩)) :
  (results Tryz.f66 tmps).run Tryz.prog W = .ok (.agg (Ev.rsc a v).toArray) W:=by
 have hr:Tryz.f66.results=#[.cell 2 53]:=rfl
 obtain⟨q0,q1,q2,q3,q4,q5,q6,q7⟩:=hp.cs8
 simp[Ev.rsc] at q0 q1 q2 q3 q4 q5 q6 q7
 simp[results,h2,go_sem,q0,q1,q2,q3,q4,q5,q6,q7,Ev.rsc]
theorem told_end {tmps:Array Value}{w W1:World}{B:Nat}{q q0:M.Resp}{v v0:Value}(b:Holds W1 (w.heap.size+1) 53 (Ev.rsc q0 v0).toArray)(ho:Ev.ItsAt W1 B v q.items)(hf:Fr [] w W1)(hB:B≤w.heap.size)
  (h2:tmps[2]?.getD undef = .pointer (some ⟨w.heap.size+1,0,none⟩)) :
  bodyPost Tryz.prog Tryz.f66 (fun e w'=>∃ v,e = .returned (.agg (Ev.rsc q v).toArray)∧Ev.ItsAt w' B v q.items∧Fr [] w w') Exit.ret ⟨tmps,[]⟩ (Ev.put8 W1 (w.heap.size+1) 0 q v) :=
 bodyPost_ret (ret_told _ _ (w.heap.size+1) q v (Ev.put8_holds b) h2) rfl ⟨_,rfl,ho.frx0 (Ev.put8_frx (Ts:=[53]) (by omega) b.ty (by simp)) (by decide),Ev.put8_frn hf (by simp)⟩
theorem told_any (w:World)(B:Nat)(q:M.Resp)(vo:Value)(h:Ev.ItsAt w B vo q.items)(hB:B≤w.heap.size)(hl:q.items.length≤20) :
  Calls Tryz.prog 66 #[.agg (Ev.rsc q vo).toArray] w fun e w'=>∃ v,e = .returned (.agg (Ev.rsc q v).toArray)∧Ev.ItsAt w' B v q.items∧Fr [] w w':=by
 obtain⟨i3,hi,hz0,hz1,hz2⟩:=info_parts Ev.infoI
 obtain⟨a,c,rfl,hcs,hlen⟩:=Ev.Own.cells h
 obtain⟨w0,hw0⟩:∃ w0,w0=(w.alloc (.cells (Ev.rsc q (.slice a q.items.length c)).toArray 53)).alloc (.cells (Ev.rsc { kind:=0 } (.slice none 0 0)).toArray 53):=⟨_,rfl⟩
 have f0:Fr [] w w0:=by rw[hw0];exact((Fr.refl _ _).alloc _).alloc _
 have b1:Holds w0 w.heap.size 53 (Ev.rsc q (.slice a q.items.length c)).toArray:=by rw[hw0];exact(Holds.new _ _ _).alloc _
 have b2:Holds w0 (w.heap.size+1) 53 (Ev.rsc { kind:=0 } (.slice none 0 0)).toArray:=by rw[hw0];exact at_new (by simp)
 have h0:=Own.fr0 h f0
 obtain⟨_,_,he0,hc0,_⟩:=Ev.Own.cells h0
 cases he0
 simp only[Ev.rsc] at hw0 ⊢
 go_enter Tryz.func66,Tryz.ntmps66
 go_wp2_with (at_builtin;rw[←hw0];(refine Ev.wpList_copy B rfl (.const (.slice none 0 0)) (.tmp 4) 51 rfl i3 _ 48 Tryz.underlying51 hi hz0 hz1 hz2 rfl (by decide) rfl a q.items.length c (flat Ev.ic q.items) rfl hlen hc0 (flat_cells Ev.ic_one _) (by unfold maxLen;omega) (by omega) (by have:=f0.size;omega) ?_;intro v3 w3 o3 f3;obtain⟨a3,c3,rfl⟩:=Own.form o3;have b13:=b1.fr f3 (by simp);have b23:=b2.fr f3 (by simp);have d0:=b13.cell 0;have d1:=b13.cell 1;have d2:=b13.cell 2;have d3:=b13.cell 3;have d4:=b13.cell 4;have d5:=b13.cell 5;have d6:=b13.cell 6;have d7:=b13.cell 7;have z7:=b13.frozen 7;have e0:=b23.cell 0;have y0:=b23.frozen 0;have e1:=b23.cell 1;have y1:=b23.frozen 1;have e2:=b23.cell 2;have y2:=b23.frozen 2;have e3:=b23.cell 3;have y3:=b23.frozen 3;have e4:=b23.cell 4;have y4:=b23.frozen 4;have e5:=b23.cell 5;have y5:=b23.frozen 5;have e6:=b23.cell 6;have y6:=b23.frozen 6;have e7:=b23.cell 7;have y7:=b23.frozen 7;simp[Ev.rsc] at d0 e0 d1 e1 d2 e2 d3 e3 d4 e4 d5 e5 d6 e6 d7 e7;have l1:=b13.lt;have l2:=b23.lt))
 have b2W:Holds (w3.setCell ⟨w.heap.size,7,none⟩ (.slice a3 q.items.length c3)) (w.heap.size+1) 53 (Ev.rsc { kind:=0 } (.slice none 0 0)).toArray:=b23.far (by simp) _
 exact told_end (q:=q) b2W (o3.frx0 (FrX.of_frT (Ts:=[53]) ((Fr.refl [w.heap.size] _).setCell (by simp) _) (by simpa using hB) (fun y hy=>⟨53,by simp,by simp at hy;subst hy;exact b13.ty⟩)) (by decide)) (Ev.Fr.setNew (p:=⟨w.heap.size,7,none⟩) (f0.trans f3) (Nat.le_refl _) _) hB rfl
end Go.Proofs.YtjmkkcckfbnmeaaGreatDoor.Tk
namespace Go.Proofs.YtjmkkcckfbnmeaaGreatDoor.Tk
open Go.RowKit Cr
theorem settle_cells {W:World}{g xp:Nat}{who s:Int}{t:M.Task}{a:M.Resp}{vo vi v:Value}(h:Holds W g 140 (taskC xp who t vo vi).toArray) :
  Holds (((Ev.put8 W g 17 a v).setCell ⟨g,25,none⟩ (.bool true)).setCell ⟨g,15,none⟩ (.int .i64 s)) g 140 (taskC xp who (t.settle a s) vo v).toArray:=by
 have:=(((((((((h.set 17 (.int .i64 a.kind)).set 18 (.int .i64 a.err)).set 19 (.int .i64 a.token)).set 20 (.int .i64 a.version)).set 21 (.string a.card)).set 22 (.int .i64 a.index)).set 23 (.bool a.more)).set 24 v).set 25 (.bool true)).set 15 (.int .i64 s)
 simpa[taskC,Ev.put8,M.Task.settle] using this
theorem settle_any (w:World)(B g xp:Nat)(who s:Int)(t:M.Task)(a:M.Resp)(vo vi v:Value)(h:TaskP w B g xp who t vo vi)(hg:B≤g)(hi:Ev.ItsAt w B v a.items)(hl:a.items.length≤20) :
  Calls Tryz.prog 106 #[.pointer (some ⟨g,0,none⟩),.agg (Ev.rsc a v).toArray,.int .i64 s] w fun e w'=>e = .returned (.tuple #[])∧TaskP w' B g xp who (t.settle a s) vo v∧Fr [g] w w':=by
 obtain⟨av,cv,rfl⟩:=Own.form hi
 have e17:=h.cell.cell 17
 have e18:=h.cell.cell 18
 have e19:=h.cell.cell 19
 have e20:=h.cell.cell 20
 have e21:=h.cell.cell 21
 have e22:=h.cell.cell 22
 have e23:=h.cell.cell 23
 have e24:=h.cell.cell 24
 have e25:=h.cell.cell 25
 have e15:=h.cell.cell 15
 have y17:=h.cell.frozen 17
 have y18:=h.cell.frozen 18
 have y19:=h.cell.frozen 19
 have y20:=h.cell.frozen 20
 have y21:=h.cell.frozen 21
 have y22:=h.cell.frozen 22
 have y23:=h.cell.frozen 23
 have y24:=h.cell.frozen 24
 have y25:=h.cell.frozen 25
 have y15:=h.cell.frozen 15
 simp[taskC] at e17 e18 e19 e20 e21 e22 e23 e24 e25 e15
 have hgl:=h.cell.lt
 have H0:=hid h
 have HI:=hid hi
 simp only[Ev.rsc]
 clear h hi
 go_enter Tryz.func106,Tryz.ntmps106
 go_wp2_with fail
 go_end0
 have c:=settle_cells (a:=a) (s:=s) (v:=.slice av a.items.length cv) H0.out.cell
 have f1:Fr [g] w (((Ev.put8 w g 17 a (.slice av a.items.length cv)).setCell ⟨g,25,none⟩ (.bool true)).setCell ⟨g,15,none⟩ (.int .i64 s)):=((Ev.put8_fr (Fr.refl _ _) (by simp)).setCell (by simp) _).setCell (by simp) _
 have x1:FrX B [140] [] w (((Ev.put8 w g 17 a (.slice av a.items.length cv)).setCell ⟨g,25,none⟩ (.bool true)).setCell ⟨g,15,none⟩ (.int .i64 s)):=FrX.of_frT f1 (by simpa using hg) (fun y hy=>⟨140,by simp,by simp at hy;subst hy;exact H0.out.cell.ty⟩)
 exact⟨rfl,⟨c.alloc _,Own.fr0 (H0.out.ops.frx0 x1 (by decide)) ((Fr.refl _ _).alloc _),Own.fr0 (HI.out.frx0 x1 (by decide)) ((Fr.refl _ _).alloc _),H0.out.l1,hl⟩,f1.alloc _⟩
theorem ret_point (W:World)(tmps:Array Value)(g:Nat)(a:M.Resp)(v vb:Value)(hp:Holds W g 53 (Ev.rsc a v).toArray)(h2:tmps[2]?.getD undef = .pointer (some ⟨g,0,none⟩))(h3:tmps[3]?.getD undef=vb) :
  (results Tryz.f32 tmps).run Tryz.prog W = .ok (.tuple #[.agg (Ev.rsc a v).toArray,vb]) W:=by
 have hr:Tryz.f32.results=#[.cell 2 53,.tmp 3]:=rfl
 obtain⟨q0,q1,q2,q3,q4,q5,q6,q7⟩:=hp.cs8
 simp[Ev.rsc] at q0 q1 q2 q3 q4 q5 q6 q7
 simp[results,h2,h3,go_sem,q0,q1,q2,q3,q4,q5,q6,q7,Ev.rsc]
theorem ret_answer (W:World)(tmps:Array Value)(g:Nat)(a:M.Resp)(v vb:Value)(hp:Holds W g 53 (Ev.rsc a v).toArray)(h2:tmps[2]?.getD undef = .pointer (some ⟨g,0,none⟩))(h3:tmps[3]?.getD undef=vb) :
  (results Tryz.f35 tmps).run Tryz.prog W = .ok (.tuple #[.agg (Ev.rsc a v).toArray,vb]) W:=by
 have hr:Tryz.f35.results=#[.cell 2 53,.tmp 3]:=rfl
 obtain⟨q0,q1,q2,q3,q4,q5,q6,q7⟩:=hp.cs8
 simp[Ev.rsc] at q0 q1 q2 q3 q4 q5 q6 q7
 simp[results,h2,h3,go_sem,q0,q1,q2,q3,q4,q5,q6,q7,Ev.rsc]
theorem point_any (w:World)(B g xp:Nat)(who:Int)(t:M.Task)(h:TaskAt w B g xp who t)(hB:B≤w.heap.size) :
  Calls Tryz.prog 32 #[.pointer (some ⟨g,0,none⟩)] w fun e w'=>∃ v,e = .returned (.tuple #[.agg (Ev.rsc (if t.pointed then t.point else { kind:=0 }) v).toArray,.bool (t.pointed)])∧Ev.ItsAt w' B v (if t.pointed then t.point else { kind:=0 }).items∧Fr [] w w':=by
 obtain⟨vo,vi,h⟩:=h
 have c25:=h.cell.cell 25
 have e17:=h.cell.cell 17
 have e18:=h.cell.cell 18
 have e19:=h.cell.cell 19
 have e20:=h.cell.cell 20
 have e21:=h.cell.cell 21
 have e22:=h.cell.cell 22
 have e23:=h.cell.cell 23
 have e24:=h.cell.cell 24
 simp[taskC] at c25 e17 e18 e19 e20 e21 e22 e23 e24
 have hgl:=h.cell.lt
 have HI:=hid h.its
 have HL:=hid h.l2
 clear h
 cases hp:t.pointed with
 | false =>
  rw[hp] at c25
  go_enter Tryz.func32,Tryz.ntmps32
  go_wp2_with fail
  exact bodyPost_ret (ret_point _ _ w.heap.size { kind:=0 } (.slice none 0 0) _ (Holds.new w 53 _) rfl rfl) rfl ⟨_,rfl,Own.nil _ _ _ _,(Fr.refl _ _).alloc _⟩
 | true =>
  rw[hp] at c25
  have f0:Fr [] w (w.alloc (.cells (Ev.rsc { kind:=0 } (.slice none 0 0)).toArray 53)):=(Fr.refl _ _).alloc _
  have b2:=Holds.new w 53 (Ev.rsc { kind:=0 } (.slice none 0 0)).toArray
  have HT:=hid (told_any _ B t.point vi (Own.fr0 HI.out f0) (by simp;omega) HL.out)
  go_enter Tryz.func32,Tryz.ntmps32
  go_wp2_with fail
  refine HT.out.mono ?_
  rintro e w2 ⟨v,rfl,hi2,f2⟩
  obtain⟨av,cv,rfl⟩:=Own.form hi2
  have b3:=b2.fr f2 (by simp)
  obtain⟨y0,y1,y2,y3,y4,y5,y6,y7⟩:=b3.fz8
  obtain⟨z0,z1,z2,z3,z4,z5,z6,z7⟩:=b3.cs8
  simp[Ev.rsc] at z0 z1 z2 z3 z4 z5 z6 z7
  have hl3:=b3.lt
  simp only[Ev.rsc]
  go_wp2_with fail
  exact bodyPost_ret (ret_point _ _ w.heap.size t.point (.slice av t.point.items.length cv) _ (Ev.put8_holds (a:=t.point) (v:=.slice av t.point.items.length cv) b3) rfl rfl) rfl ⟨_,rfl,hi2.frx0 (Ev.put8_frx (Ts:=[53]) hB b3.ty (by simp)) (by decide),Ev.put8_frn (f0.trans f2) (Nat.le_refl _)⟩
theorem answer_any (w:World)(B g xp:Nat)(who:Int)(t:M.Task)(h:TaskAt w B g xp who t)(hB:B≤w.heap.size) :
  Calls Tryz.prog 35 #[.pointer (some ⟨g,0,none⟩)] w fun e w'=>∃ v,e = .returned (.tuple #[.agg (Ev.rsc (if t.stage=8 then t.point else { kind:=0 }) v).toArray,.bool (decide (t.stage=8))])∧Ev.ItsAt w' B v (if t.stage=8 then t.point else { kind:=0 }).items∧Fr [] w w':=by
 obtain⟨vo,vi,h⟩:=h
 have c15:=h.cell.cell 15
 have e17:=h.cell.cell 17
 have e18:=h.cell.cell 18
 have e19:=h.cell.cell 19
 have e20:=h.cell.cell 20
 have e21:=h.cell.cell 21
 have e22:=h.cell.cell 22
 have e23:=h.cell.cell 23
 have e24:=h.cell.cell 24
 simp[taskC] at c15 e17 e18 e19 e20 e21 e22 e23 e24
 have hgl:=h.cell.lt
 have HI:=hid h.its
 have HL:=hid h.l2
 clear h
 refine(Decidable.em (t.stage=8)).symm.elim (fun hp=>?_) (fun hp=>?_)
 ·rw[if_neg hp,decide_eq_false hp]
  have hb:(t.stage==8)=false:=by simpa using hp
  have hb2:(t.stage != 8)=true:=by simp[hp]
  go_enter Tryz.func35,Tryz.ntmps35
  go_wp2_with fail
  exact bodyPost_ret (ret_answer _ _ w.heap.size { kind:=0 } (.slice none 0 0) _ (Holds.new w 53 _) rfl rfl) rfl ⟨_,rfl,Own.nil _ _ _ _,(Fr.refl _ _).alloc _⟩
 ·rw[if_pos hp,decide_eq_true hp]
  rw[hp] at c15
  have f0:Fr [] w (w.alloc (.cells (Ev.rsc { kind:=0 } (.slice none 0 0)).toArray 53)):=(Fr.refl _ _).alloc _
  have b2:=Holds.new w 53 (Ev.rsc { kind:=0 } (.slice none 0 0)).toArray
  have HT:=hid (told_any _ B t.point vi (Own.fr0 HI.out f0) (by simp;omega) HL.out)
  go_enter Tryz.func35,Tryz.ntmps35
  go_wp2_with fail
  refine HT.out.mono ?_
  rintro e w2 ⟨v,rfl,hi2,f2⟩
  obtain⟨av,cv,rfl⟩:=Own.form hi2
  have b3:=b2.fr f2 (by simp)
  obtain⟨y0,y1,y2,y3,y4,y5,y6,y7⟩:=b3.fz8
  obtain⟨z0,z1,z2,z3,z4,z5,z6,z7⟩:=b3.cs8
  simp[Ev.rsc] at z0 z1 z2 z3 z4 z5 z6 z7
  have hl3:=b3.lt
  simp only[Ev.rsc]
  go_wp2_with fail
  exact bodyPost_ret (ret_answer _ _ w.heap.size t.point (.slice av t.point.items.length cv) _ (Ev.put8_holds (a:=t.point) (v:=.slice av t.point.items.length cv) b3) rfl rfl) rfl ⟨_,rfl,hi2.frx0 (Ev.put8_frx (Ts:=[53]) hB b3.ty (by simp)) (by decide),Ev.put8_frn (f0.trans f2) (Nat.le_refl _)⟩
end Go.Proofs.YtjmkkcckfbnmeaaGreatDoor.Tk
namespace Go.Proofs.YtjmkkcckfbnmeaaGreatDoor.Cr
open Go.RowKit
structure MayDrop (x:M.Core)(p:M.Place)(b:Int × Int):Prop where
 quota:Bu.qOk x.cols x.cards x.maxBytes x.logMost=true
 c0:0≤x.counter
 c1:x.counter<9223372036854775807
 a0:0≤b.1
 a1:b.1≤8
 b0:0≤b.2
 b1:b.2≤1048576
 y0:0≤p.col.bytes
 found:x.found=true
theorem cl2_eq (b n:Int)(h:0≤n)(hb:0≤b):Bu.cl2 b n=max (b - n) 0:=by unfold Bu.cl2;omega
theorem drop_any (w:World)(B g:Nat)(k:Cf)(x:M.Core)(vp:Value)(rg bg hg cg q ra:Nat)(p:M.Place)(b:Int × Int)(a0:M.Resp)(vi:Value)(h:CoreP w B g k x vp rg bg hg cg)(hg':B≤g)(hB:B≤w.heap.size)(hp:x.place=some p)
  (ho:Own w B 182 1 vp 1 [.pointer (some ⟨q,0,none⟩)]) (ha:Holds w ra 53 (Ev.rsc a0 vi).toArray) (hra:B≤ra) (hb:x.budget=some b) (hm:MayDrop x p b) :
  Calls Tryz.prog 162 #[.pointer (some ⟨g,0,none⟩),.pointer (some ⟨q,0,none⟩),.int .i64 0,.pointer (some ⟨ra,0,none⟩)] w fun e w'=>e = .returned (.tuple #[])∧Holds w' ra 53 (Ev.rsc { a0 with token:=x.counter+1 } vi).toArray ∧
   CoreP w' B g k { x with counter:=x.counter+1,found:=false,budget:=some (max (b.1 - 1) 0,max (b.2 - p.col.bytes) 0),place:=some { p with alive:=false } } vp rg bg hg cg∧FrX B Ts [ra] w w':=by
 have HM:=hid hm
 have HO:=hid ho
 have HA:=hid ha
 have H0:=hid h
 have HK:=hid key_facts
 clear hm ho ha h
 go_enter Tryz.func162,Tryz.ntmps162
 go_wp2_with fail
 refine(draw_any w B g k x vp rg bg hg cg H0.out hg' HM.out.c0 HM.out.c1).mono ?_
 rintro e w1 ⟨rfl,h1,x1⟩
 have ho1:=HO.out.frx0 x1 (by decide)
 obtain⟨hq,cl,lg,e1,e2,hc1,hcol1,_⟩:=h1.place hp ho1
 have z4:=hc1.frozen 4
 have d4:=hc1.cell 4
 simp at d4
 have H1:=hid h1
 have HO1:=hid ho1
 have HC1:=hid hc1
 have X1:=hid x1
 have hql:=hc1.lt
 clear h1 ho1 hc1 hcol1 x1
 go_wp2_with fail
 obtain⟨h2,x2⟩:=H1.out.atAlive hp HO1.out false
 have ho2:=HO1.out.frx0 x2 (by decide)
 have hc2:=(H1.out.atAlive hp HO1.out false).1.place rfl ho2
 obtain⟨_,cl2,lg2,_,_,hc2,hcol2,_⟩:=hc2
 obtain⟨w2,hw2⟩:∃ w2,w2=w1.setCell ⟨q,4,none⟩ (.bool false):=⟨_,rfl⟩
 rw[←hw2] at h2 x2 ho2 hc2 hcol2 ⊢
 clear hw2 d4 z4
 have d0:=hc2.cell 0
 have d1:=hc2.cell 1
 have d2:=hc2.cell 2
 have c10:=h2.cell.cell 10
 simp at d0 d1 d2 c10
 have hql2:=hc2.lt
 have hB1:=X1.out.size
 have hB2:=x2.size
 have hreg:=h2.reg
 simp only[HM.out.found,ents,if_true] at hreg
 have HRm:=hid (fun W (f:Fr [] w2 W)=>Rk.remove_any W B rg k.shards key 0 (hreg.fr0 f) HK.out.2 (by omega) (by have:=f.size;omega))
 have HKe:=hid (fun W=>(Id.key_low tn M.home W low_tn low_home:Calls Tryz.prog 150 #[.string tn,.string M.home] W fun e w'=>e = .returned (.string key)∧W=w'))
 have H2:=hid h2
 have HO2:=hid ho2
 have HC2:=hid hc2
 have HCol2:=hid hcol2
 have X2:=hid x2
 clear h2 ho2 hc2 hcol2 x2 hreg
 go_wp2_with fail
 go_region_held3 (fun w'=>w'.cell? ⟨q,0,none⟩=some (.string tn)∧w'.cell? ⟨q,1,none⟩=some (.string M.home)∧w'.cell? ⟨g,10,none⟩=some (.pointer (some ⟨rg,0,none⟩))) (first|go_keep|exact hS)
  (first
   | (go_at_call 150;refine(HKe.out _).mono ?_;rintro e w3 ⟨rfl,rfl⟩)
   | (go_at_call 207;refine(HRm.out _ (by first|exact(Fr.refl _ _).drewN _|exact(Fr.refl _ _).drew)).mono ?_;rintro e w3 ⟨rfl,r3,x3'⟩;have x3:FrX B Rk.Ts [] w2 w3:=(by first|exact(FrX.of_fr0 ((Fr.refl [] w2).drew)).trans x3'|exact(FrX.of_fr0 ((Fr.refl [] w2).drewN _)).trans x3');have hS:=(⟨(HC2.out.frx x3 (by decide) (by simp)).cell 0,(HC2.out.frx x3 (by decide) (by simp)).cell 1,(H2.out.cell.frx x3 (by decide) (by simp)).cell 10⟩:w3.cell? ⟨q,0,none⟩=_∧w3.cell? ⟨q,1,none⟩=_∧w3.cell? ⟨g,10,none⟩=_)))
 have h3:=H2.out.atReg (b:=false) x3 r3
 have hc3:=HC2.out.frx x3 (by decide) (by simp)
 have hcol3:=HCol2.out.frx x3 (by decide)
 have ho3:=HO2.out.frx0 x3 (by decide)
 have d30:=hc3.cell 0
 have d32:=hc3.cell 2
 simp at d30 d32
 have hB3:=x3.size
 have HB3:=hid (fun W (f:Fr [] w3 W)=>budget_any W B g k _ vp rg bg hg cg (h3.fr0 f) (by have:=f.size;omega) HM.out.quota b (by show x.budget.getD (0,0)=b;rw[hb];rfl))
 have HBy:=hid (fun W (f:FrX B BTs [] w3 W)=>Co.bytes_any W B cl2 p.col (hcol3.frx f (by decide)))
 have H3:=hid h3
 have HC3:=hid hc3
 have HO3:=hid ho3
 have X3:=hid x3
 have hql3:=hc3.lt
 clear d0 d1 d2 c10 h3 hc3 hcol3 ho3 x3 x3' r3 hS HRm HKe
 go_wp2_with fail
 go_region_held3 (fun w'=>w'.cell? ⟨q,0,none⟩=some (.string tn)∧w'.cell? ⟨q,2,none⟩=some (.pointer (some ⟨cl2,0,none⟩))) (first|go_keep|exact hS)
  (first
   | (go_at_call 152;refine(HB3.out _ (by first|exact(Fr.refl _ _).drewN _|exact(Fr.refl _ _).drew)).mono ?_;rintro e w4 ⟨bq,rfl,hbq,hm4,hb4,h4,x4'⟩;have x4:FrX B BTs [] w3 w4:=(by first|exact(FrX.of_fr0 ((Fr.refl [] w3).drew)).trans x4'|exact(FrX.of_fr0 ((Fr.refl [] w3).drewN _)).trans x4');have hS:=(⟨(HC3.out.frx x4 (by decide) (by simp)).cell 0,(HC3.out.frx x4 (by decide) (by simp)).cell 2⟩:w4.cell? ⟨q,0,none⟩=_∧w4.cell? ⟨q,2,none⟩=_))
   | (go_at_call 209;refine(HBy.out _ (by first|exact x4|exact FrX.of_fr0 ((Fr.refl _ _).drewN _)|exact FrX.of_fr0 ((Fr.refl _ _).drew))).mono ?_;rintro e w6 ⟨rfl,rfl⟩)
   | (go_at_call 208;refine(Bu.close_any w4 bq x.cols x.cards x.maxBytes x.logMost b.1 b.2 p.col.bytes hb4 HM.out.b0 HM.out.b1 HM.out.a0 HM.out.a1).mono ?_;rintro e w5 ⟨rfl,hb5,f5⟩;have hqb:q≠bq:=(by intro e;have:=(HC3.out.frx x4 (by decide) (by simp)).ty;rw[e,Holds.ty hb4] at this;cases this);have hS:=(⟨((HC3.out.frx x4 (by decide) (by simp)).fr f5 (by simpa using hqb)).cell 0,((HC3.out.frx x4 (by decide) (by simp)).fr f5 (by simpa using hqb)).cell 2⟩:w5.cell? ⟨q,0,none⟩=_∧w5.cell? ⟨q,2,none⟩=_)))
 have x5:FrX B [293] [] w4 w5:=FrX.of_frT f5 (by simpa using hbq) (fun y hy=>⟨293,by simp,by simp at hy;subst hy;exact Holds.ty hb4⟩)
 have h5:=h4.atBug (o:=some (Bu.cl1 b.1,Bu.cl2 b.2 p.col.bytes)) (x5.mono (by decide) (fun _ h=>h)) ⟨bq,hbq,hm4.frx x5 (by decide) (by decide) (by simp),hb5⟩
 have ha5:=((((HA.out.frx X1.out (by decide) (by simp)).frx X2.out (by decide) (by simp)).frx X3.out (by decide) (by simp)).frx x4 (by decide) (by simp)).frx x5 (by decide) (by simp)
 have hral:=ha5.lt
 have y2:=ha5.cell 2
 have yz2:=ha5.frozen 2
 simp[Ev.rsc] at y2
 have H5:=hid h5
 have HA5:=hid ha5
 have X5:=hid (show FrX B Ts [] w w5 from (X1.out.mono (by decide) (fun _ h=>h)).trans ((X2.out.mono (by decide) (fun _ h=>h)).trans ((X3.out.mono (by decide) (fun _ h=>h)).trans ((x4.mono (by decide) (fun _ h=>h)).trans (x5.mono (by decide) (fun _ h=>h))))))
 clear h5 ha5 h4 hb4 hm4 hb5 hS x4 x5 x4' d30 d32
 go_wp2_with fail
 refine bodyPost_end (results_none rfl _ _ _) rfl ?_
 have e1:Bu.cl1 b.1=max (b.1 - 1) 0:=rfl
 have e2:=cl2_eq b.2 p.col.bytes HM.out.y0 HM.out.b0
 refine⟨rfl,by simpa[Ev.rsc] using HA5.out.set 2 (.int .i64 (x.counter+1)),?_,?_⟩
 ·rw[←e1,←e2]
  exact H5.out.frx (Us:=[53]) (FrX.of_frT ((Fr.refl [ra] _).setCell (by simp) _) (by simpa using hra) (fun y hy=>⟨53,by simp,by simp at hy;subst hy;exact HA5.out.ty⟩)) (by decide)
 ·exact(X5.out.mono (fun _ h=>h) (by simp)).trans (FrX.of_fr ((Fr.refl [ra] _).setCell (by simp) _) (by simpa using hra))
theorem apply_any (w:World)(B g:Nat)(k:Cf)(x:M.Core)(p:M.Place)(o:M.Op)(t:Int)(h:CoreAt w B g k x)(hp:x.place=some p)(hB:B≤w.heap.size)
  (hap:∀ W cl,Co.ColAt W B cl p.col→B≤W.heap.size→B≤cl→Calls Tryz.prog 114 #[.pointer (some ⟨cl,0,none⟩),.agg #[.bool o.del,.string o.uid,.string o.card,.int .i64 o.ck,.int .i64 o.cv],.int .i64 t] W fun e W'=>(∃ b,e = .returned (.bool b))∧Co.ColAt W' B cl (p.col.apply o t)∧FrX B Co.Ts [] W W') :
  Calls Tryz.prog 71 #[.pointer (some ⟨g,0,none⟩),.int .i64 0,.agg #[.bool o.del,.string o.uid,.string o.card,.int .i64 o.ck,.int .i64 o.cv],.int .i64 t] w fun e w'=>(∃ b,e = .returned (.bool b))∧CoreAt w' B g k (x.applyOp 0 o t)∧FrX B Ts [] w w':=by
 obtain⟨vp,rg,bg,hg,cg,h⟩:=h
 have hx:x.applyOp 0 o t={ x with place:=some { p with col:=p.col.apply o t } }:=by simp[M.Core.applyOp,hp]
 rw[hx]
 have HAP:=hid hap
 have f0:Fr [] w (w.alloc (.cells #[.bool o.del,.string o.uid,.string o.card,.int .i64 o.ck,.int .i64 o.cv] 49)):=(Fr.refl _ _).alloc _
 have b0:=Holds.new w 49 #[.bool o.del,.string o.uid,.string o.card,.int .i64 o.ck,.int .i64 o.cv]
 have h0:=h.fr0 f0
 clear hx hap h
 go_enter Tryz.func71,Tryz.ntmps71
 go_wp2_with fail
 refine(at_yes _ B g k x vp rg bg hg cg p h0 hp).mono ?_
 rintro e w1 ⟨⟨q,rfl,hq,ho,⟨cl,lg,h1,h2,hc,hcol,hl⟩⟩,rfl⟩
 obtain⟨WA,hWA⟩:∃ WA,WA=w.alloc (.cells #[.bool o.del,.string o.uid,.string o.card,.int .i64 o.ck,.int .i64 o.cv] 49):=⟨_,rfl⟩
 rw[←hWA] at f0 b0 h0 ho hc hcol ⊢
 have c2:=hc.cell 2
 have hql:=hc.lt
 have y0:=b0.cell 0
 have y1:=b0.cell 1
 have y2:=b0.cell 2
 have y3:=b0.cell 3
 have y4:=b0.cell 4
 simp at c2 y0 y1 y2 y3 y4
 have hbs:=f0.size
 have HAp:=hid (fun W (f:Fr [] WA W)=>HAP.out W cl (hcol.fr0 f) (by have:=f.size;omega) h1)
 have H0:=hid h0
 have HO:=hid ho
 have HC:=hid hc
 have HB:=hid b0
 have F0:=hid f0
 clear hWA h0 ho hc hcol hl b0 f0
 go_wp2_with fail
 go_region_held3 (fun w'=>w'.cell? ⟨q,2,none⟩=some (.pointer (some ⟨cl,0,none⟩))∧w'.cell? ⟨w.heap.size,0,none⟩=some (.bool o.del)∧w'.cell? ⟨w.heap.size,1,none⟩=some (.string o.uid)∧w'.cell? ⟨w.heap.size,2,none⟩=some (.string o.card)∧w'.cell? ⟨w.heap.size,3,none⟩=some (.int .i64 o.ck)∧w'.cell? ⟨w.heap.size,4,none⟩=some (.int .i64 o.cv)) (first|go_keep|exact hS)
  (first
   | (go_at_call 114;refine(HAp.out _ (by first|exact(Fr.refl _ _).drewN _|exact(Fr.refl _ _).drew)).mono ?_;rintro e w3 ⟨⟨bb,rfl⟩,q3,x3'⟩;have x3:FrX B Co.Ts [] WA w3:=(by first|exact(FrX.of_fr0 ((Fr.refl [] WA).drew)).trans x3'|exact(FrX.of_fr0 ((Fr.refl [] WA).drewN _)).trans x3');have hS:=(⟨(HC.out.frx x3 (by decide) (by simp)).cell 2,(HB.out.frx x3 (by decide) (by simp)).cell 0,(HB.out.frx x3 (by decide) (by simp)).cell 1,(HB.out.frx x3 (by decide) (by simp)).cell 2,(HB.out.frx x3 (by decide) (by simp)).cell 3,(HB.out.frx x3 (by decide) (by simp)).cell 4⟩:w3.cell? ⟨q,2,none⟩=_∧w3.cell? ⟨w.heap.size,0,none⟩=_∧w3.cell? ⟨w.heap.size,1,none⟩=_∧w3.cell? ⟨w.heap.size,2,none⟩=_∧w3.cell? ⟨w.heap.size,3,none⟩=_∧w3.cell? ⟨w.heap.size,4,none⟩=_)))
 have C2:=hid c2
 clear hS c2 y0 y1 y2 y3 y4
 go_wp2_with fail
 go_ret
 exact⟨⟨_,rfl⟩,⟨_,_,_,_,_,H0.out.atCol hp HO.out C2.out x3 q3⟩,(FrX.of_fr0 F0.out).trans (x3.mono (by decide) (fun _ h=>h))⟩
end Go.Proofs.YtjmkkcckfbnmeaaGreatDoor.Cr
namespace Go.Proofs.YtjmkkcckfbnmeaaGreatDoor.Cr
open Go.RowKit
theorem ret_work (W:World)(tmps:Array Value)(g:Nat)(a:M.Resp)(v vi:Value)(hp:Holds W g 53 (Ev.rsc a v).toArray)(h6:tmps[6]?.getD undef = .pointer (some ⟨g,0,none⟩))(h7:tmps[7]?.getD undef=vi) :
  (results Tryz.f112 tmps).run Tryz.prog W = .ok (.tuple #[.agg (Ev.rsc a v).toArray,vi]) W:=by
 have hr:Tryz.f112.results=#[.cell 6 53,.tmp 7]:=rfl
 obtain⟨q0,q1,q2,q3,q4,q5,q6,q7⟩:=hp.cs8
 simp[Ev.rsc] at q0 q1 q2 q3 q4 q5 q6 q7
 simp[results,h6,h7,go_sem,q0,q1,q2,q3,q4,q5,q6,q7,Ev.rsc]
theorem work_end {tmps:Array Value}{w W1:World}{B g:Nat}{k:Cf}{vi:Value}{rs:M.Core × M.Resp}(hB:B≤w.heap.size)(b:Holds W1 (w.heap.size+1) 53 (Ev.rsc rs.2 (.slice none 0 0)).toArray)(hi:Ev.ItsAt W1 B vi rs.2.items)(hc:CoreAt W1 B g k rs.1)(hf:FrX B Ts [] w W1)
  (h6:tmps[6]?.getD undef = .pointer (some ⟨w.heap.size+1,0,none⟩)) (h7:tmps[7]?.getD undef=vi) :
  bodyPost Tryz.prog Tryz.f112 (fun e w'=>∃ vi,e = .returned (.tuple #[.agg (Ev.rsc rs.2 (.slice none 0 0)).toArray,vi])∧Ev.ItsAt w' B vi rs.2.items∧CoreAt w' B g k rs.1∧FrX B Ts [] w w') Exit.ret ⟨tmps,[]⟩ (Ev.put8 W1 (w.heap.size+1) 0 rs.2 (.slice none 0 0)):=by
 have x8:FrX B [53] [] W1 (Ev.put8 W1 (w.heap.size+1) 0 rs.2 (.slice none 0 0)):=Ev.put8_frx (by omega) b.ty (by simp)
 exact bodyPost_ret (ret_work _ _ (w.heap.size+1) _ _ _ (Ev.put8_holds b) h6 h7) rfl ⟨_,rfl,hi.frx0 x8 (by decide),hc.frx x8 (by decide),Ev.put8_new hf (by simp)⟩
theorem resp_set {w W:World}{B r:Nat}(hr:B≤r){t:TypeId}{cs:Array Value}(b:Holds W r t cs)(j:Nat)(u:Value):FrX B [t] [] W (W.setCell ⟨r,j,none⟩ u) :=
 FrX.of_frT ((Fr.refl [r] _).setCell (by simp) _) (by simpa using hr) (fun y hy=>⟨t,by simp,by simp at hy;subst hy;exact b.ty⟩)
theorem work_wait (w:World)(B g:Nat)(k:Cf)(x:M.Core)(p:M.Place)(q:M.Req)(vo:Value)(h:CoreAt w B g k x)(hg':B≤g)(hB:B≤w.heap.size)(hp:x.place=some p)(hal:p.alive=true)(hk:q.kind=9) :
  Calls Tryz.prog 112 #[.pointer (some ⟨g,0,none⟩),.int .i64 0,.agg (Ev.rqc q vo).toArray] w fun e w'=>∃ vi,e = .returned (.tuple #[.agg (Ev.rsc (x.work q).2 (.slice none 0 0)).toArray,vi])∧Ev.ItsAt w' B vi (x.work q).2.items∧CoreAt w' B g k (x.work q).1∧FrX B Ts [] w w':=by
 obtain⟨vp,rg,bg,hg,cg,h⟩:=h
 have hx:x.work q=if p.col.latest≤q.token then (x,{ kind:=9,err:=15 }) else (x,{ kind:=9,token:=p.col.latest }):=by simp[M.Core.work,hp,hal,hk]
 obtain⟨w0,hw0⟩:∃ w0,w0=(w.alloc (.cells (Ev.rqc q vo).toArray 41)).alloc (.cells (Ev.rsc { kind:=9 } (.slice none 0 0)).toArray 53):=⟨_,rfl⟩
 have f0:Fr [] w w0:=by rw[hw0];exact((Fr.refl _ _).alloc _).alloc _
 have b5:Holds w0 w.heap.size 41 (Ev.rqc q vo).toArray:=by rw[hw0];exact(Holds.new _ _ _).alloc _
 have b6:Holds w0 (w.heap.size+1) 53 (Ev.rsc { kind:=9 } (.slice none 0 0)).toArray:=by rw[hw0];exact at_new (by simp)
 have h0:=h.fr0 f0
 have HX:=hid hx
 obtain⟨kind,tenant,col,uid,card,ck,cv,ops,token,most,ticks⟩:=q
 simp only at hk
 subst hk
 simp only[Ev.rqc,Ev.rsc] at hw0
 simp only[Ev.rqc] at b5 ⊢
 clear hx h
 go_enter Tryz.func112,Tryz.ntmps112
 go_wp2_with fail
 rw[←hw0]
 refine(at_yes w0 B g k x vp rg bg hg cg p h0 hp).mono ?_
 rintro e w1 ⟨⟨q,rfl,hq,ho,⟨cl,lg,h1,h2,hc,hcol,hl⟩⟩,rfl⟩
 have d2:=hc.cell 2
 have d4:=hc.cell 4
 have y0:=b5.cell 0
 have y8:=b5.cell 8
 have HB6:=hid b6
 have HL:=hid (fun W (f:Fr [] w0 W)=>Co.latest_any W B cl p.col (hcol.fr0 f))
 have H0:=hid h0
 have F0:=hid f0
 simp[hal] at d2 d4 y0 y8
 clear hw0 h0 ho hc hcol hl b5 b6 f0
 go_wp2_with fail
 go_quiet ((go_at_call 166;exact quiet_same (HL.out _ (by first|exact(Fr.refl _ _).drewN _|exact(Fr.refl _ _).drew|exact Fr.refl _ _))))
 obtain⟨W,hW⟩:∃ W,W=w0.drewN nq:=⟨_,rfl⟩
 have fW:Fr [] w0 W:=by rw[hW];exact(Fr.refl _ _).drewN _
 have b6W:=HB6.out.fr fW (by simp)
 have HW:=hid (H0.out.fr0 fW)
 have XW:FrX B Ts [] w W:=FrX.of_fr0 (F0.out.trans fW)
 rw[←hW]
 have l6:=b6W.lt
 have D2:=hid (fun (f:Fr [] w0 W)=>f.cell d2 (block_lt_of_cell d2) (by simp))
 have fW2:=hid fW
 clear d2 d4 y0 y8 hW
 obtain⟨bb,hbb⟩:∃ bb,decide (p.col.latest≤token)=bb:=⟨_,rfl⟩
 rw[hbb]
 cases bb with
 | true =>
  have hlt:=of_decide_eq_true hbb
  have HX2:=hid (HX.out.trans (if_pos hlt))
  clear hlt hbb
  obtain⟨e0,e1,e2,e3,e4,e5,e6,e7⟩:=b6W.cs8
  obtain⟨z0,z1,z2,z3,z4,z5,z6,z7⟩:=b6W.fz8
  simp[Ev.rsc] at e0 e1 e2 e3 e4 e5 e6 e7
  go_wp2_with fail
  have b7:Holds (W.setCell ⟨w.heap.size+1,1,none⟩ (.int .i64 15)) (w.heap.size+1) 53 (Ev.rsc { kind:=9,err:=15 } (.slice none 0 0)).toArray:=by simpa[Ev.rsc] using b6W.set 1 (.int .i64 15)
  rw[HX2.out]
  exact work_end (rs:=(x,{ kind:=9,err:=15 })) hB b7 (Own.nil _ _ _ _) ⟨_,_,_,_,_,HW.out.frx (resp_set (w:=w) (by omega) b6W _ _) (by decide)⟩ (XW.setNew (by simp) _) rfl rfl
 | false =>
  have hlt:=of_decide_eq_false hbb
  have HX2:=hid (HX.out.trans (if_neg hlt))
  clear hlt hbb
  have d2:=D2.out fW
  obtain⟨e0,e1,e2,e3,e4,e5,e6,e7⟩:=b6W.cs8
  obtain⟨z0,z1,z2,z3,z4,z5,z6,z7⟩:=b6W.fz8
  simp[Ev.rsc] at e0 e1 e2 e3 e4 e5 e6 e7
  go_wp2_with fail
  refine(HL.out W fW).mono ?_
  rintro e w3 ⟨rfl,rfl⟩
  go_wp2_with fail
  have b7:Holds (W.setCell ⟨w.heap.size+1,2,none⟩ (.int .i64 p.col.latest)) (w.heap.size+1) 53 (Ev.rsc { kind:=9,token:=p.col.latest } (.slice none 0 0)).toArray:=by simpa[Ev.rsc] using b6W.set 2 (.int .i64 p.col.latest)
  rw[HX2.out]
  exact work_end (rs:=(x,{ kind:=9,token:=p.col.latest })) hB b7 (Own.nil _ _ _ _) ⟨_,_,_,_,_,HW.out.frx (resp_set (w:=w) (by omega) b6W _ _) (by decide)⟩ (XW.setNew (by simp) _) rfl rfl
end Go.Proofs.YtjmkkcckfbnmeaaGreatDoor.Cr
