/- Walks. -/
import Derived.Test.YtocppjcocnckmaaGreatDoorM33
import Derived.Deep.AppendLies
import Derived.Deep.CutRange
set_option maxRecDepth 100000
set_option maxHeartbeats 8000000
set_option linter.all false
open Go.Lib (hid)
namespace Go.Proofs.YtocppjcocnckmaaGreatDoor
open Go.Proofs.Tryz
namespace Cr
open Go.RowKit
theorem nz (W:World)(tmps:Array Value)(g:Nat)(a:M.aU)(v:Value)(hp:Holds W g 55 (Ev.rsc a v).toArray)(h6:tmps[6]?.getD undef = .pointer (some ⟨g,0,none⟩)) :
  (results f110 tmps).run prog W = .ok (.agg (Ev.rsc a v).toArray) W:=by
 have hr:f110.results=#[.cell 6 55]:=rfl
 obtain⟨q0,q1,q2,q3,q4,q5,q6,q7⟩:=hp.cs8
 simp[Ev.rsc] at q0 q1 q2 q3 q4 q5 q6 q7
 simp[results,h6,go_sem,q0,q1,q2,q3,q4,q5,q6,q7,Ev.rsc]
theorem Fa:(prog.info? 195).map (λi=>(i.zero,i.size,i.bytes))=some (some (.pointer none),1,8):=by kernel_rfl
theorem bz.Cn {w7 W w10:World}{B g:Nat}{k:Cf}{x:M.Core}{vp v':Value}{rg bg hg cg:Nat}{o:Option M.Place}(h:bz w7 B g k x vp rg bg hg cg)(hg':B<=g)(f:Fr [] w7 W)(x10:FrX B [195] [] W w10)
  (hp:lh (w10.setCell ⟨g,9,none⟩ v') B v' o):bz (w10.setCell ⟨g,9,none⟩ v') B g k { x with place:=o } v' rg bg hg cg:=by
 have hc:=(h.cell.fr f (by simp)).frx x10 (by decide) (by simp)
 have x11:FrX B [143] [] w10 (w10.setCell ⟨g,9,none⟩ v'):=FrX.aB ((Fr.refl [g] w10).setCell (by simp) _) (by simpa using hg') (λy hy=>⟨143,by simp,by simp at hy;subst hy;exact hc.ty⟩)
 exact⟨h.brg,h.bbg,h.bhg,h.bcg,by simpa using hc.set 9 v',hp,((h.reg.fr0 f).frx x10 (by decide)).frx x11 (by decide),((h.bug.fr0 f).frx x10 (by decide)).frx x11 (by decide),((h.hub.fr0 f).frx x10 (by decide) (by decide)).frx x11 (by decide) (by decide),((h.clk.fr0 f).frx x10 (by decide) (by decide)).frx x11 (by decide) (by decide)⟩
theorem bz.grown {w7 wL w10:World}{B g:Nat}{k:Cf}{x:M.Core}{av a10:Option Addr}{cvp c10:Nat}{rg bg hg cg cl lg:Nat}{own10:Option Nat}{c0:M.Col}{t:Int}(h:bz w7 B g k x (.slice av 0 cvp) rg bg hg cg)(hg':B<=g)
  (hpl:Own w7 B 195 1 (.slice av 0 cvp) 0 []) (GL:Fr [] w7 wL) (hB:B<=wL.heap.size) (h1:B<=cl) (h2:B<=lg) (qc:Co.bX wL B cl c0) (ql:Lo.df wL B lg {})
  (hs:Sl w10 195 1 (.slice a10 (0+1) c10) (0+1) ([]++[.pointer (some ⟨wL.heap.size,0,none⟩)]) own10)
  (hf:Fr (ay (.slice av 0 cvp)).toList ((wL.alloc (.cells #[.string tn,.string M.home,.pointer (some ⟨cl,0,none⟩),.pointer (some ⟨lg,0,none⟩),.bool true,.int .i64 t] 200)).alloc (.cells #[.pointer (some ⟨wL.heap.size,0,none⟩)] 195)) w10)
  (ho:own10=ay (.slice av 0 cvp)∨∃ y,own10=some y/\((wL.alloc (.cells #[.string tn,.string M.home,.pointer (some ⟨cl,0,none⟩),.pointer (some ⟨lg,0,none⟩),.bool true,.int .i64 t] 200)).alloc (.cells #[.pointer (some ⟨wL.heap.size,0,none⟩)] 195)).heap.size<=y) (hm:0<1->∃ y,own10=some y) :
  bz (w10.setCell ⟨g,9,none⟩ (.slice a10 (0+1) c10)) B g k { x with place:=some { col:=c0,lock:={},alive:=true,drawn:=t } } (.slice a10 (0+1) c10) rg bg hg cg/\FrX B Ts [] w7 (w10.setCell ⟨g,9,none⟩ (.slice a10 (0+1) c10)):=by
 obtain⟨WA,hWA⟩:∃ WA,WA=(wL.alloc (.cells #[.string tn,.string M.home,.pointer (some ⟨cl,0,none⟩),.pointer (some ⟨lg,0,none⟩),.bool true,.int .i64 t] 200)).alloc (.cells #[.pointer (some ⟨wL.heap.size,0,none⟩)] 195):=⟨_,rfl⟩
 have fA:Fr [] wL WA:=by rw[hWA];exact(rZ.alloc _).alloc _
 have pA:Holds WA wL.heap.size 200 #[.string tn,.string M.home,.pointer (some ⟨cl,0,none⟩),.pointer (some ⟨lg,0,none⟩),.bool true,.int .i64 t]:=by rw[hWA];exact(Holds.new _ _ _).alloc _
 rw[<-hWA] at hf ho
 clear hWA
 have f7:=GL.trans fA
 have hplA:=hpl.fr0 f7
 have x10:FrX B [195] [] WA w10:=FrX.aB hf (λy hy=>(hplA.ty (g:=y) (by simpa using hy)).2) (λy hy=>⟨_,by simp,(hplA.ty (g:=y) (by simpa using hy)).1⟩)
 have hc:=(h.cell.fr f7 (by simp)).frx x10 (by decide) (by simp)
 have x11:FrX B [143] [] w10 (w10.setCell ⟨g,9,none⟩ (.slice a10 (0+1) c10)):=FrX.aB ((Fr.refl [g] w10).setCell (by simp) _) (by simpa using hg') (λy hy=>⟨143,by simp,by simp at hy;subst hy;exact hc.ty⟩)
 have hBA:B<=WA.heap.size:=Nat.le_trans hB fA.size
 obtain⟨ho2,_⟩:=bn (v:=.slice av 0 cvp) (w:=WA) (B:=B) hBA (λy hy=>(hplA.ty hy).2) hs ho (hm (by omega))
 have x10':=x10.mono (Ts:=Ts) (T:=[]) (by decide) (λ_ h=>h)
 have x11':=x11.mono (Ts:=Ts) (T:=[]) (by decide) (λ_ h=>h)
 refine⟨h.Cn hg' f7 x10 ⟨wL.heap.size,hB,ho2.bf x11 (by decide),cl,lg,h1,h2,(pA.frx x10 (by decide) (by simp)).frx x11 (by decide) (by simp),((qc.fr0 fA).frx x10 (by decide)).frx x11 (by decide),((ql.fr0 fA).frx x10 (by decide)).frx x11 (by decide)⟩,(FrX.aA f7).trans (x10'.trans x11')⟩
structure pB (x:M.Core)(k:Cf):Prop where
 j2:Bu.qOk x.bQ x.ah x.aH x.aj=true
 c0:0<=x.counter
 c1:x.counter<=M.aW
 found:x.found=false
 place:x.place=none
 b0:0<=(x.aZ.getD (0,0)).1
 b1:(x.aZ.getD (0,0)).1<x.bQ
theorem uZ (w:World)(B g:Nat)(k:Cf)(x:M.Core)(h:aF w B g k x)(hg':B<=g)(hB:B<=w.heap.size)(hm:pB x k) :
  Calls prog 110 #[.pointer (some ⟨g,0,none⟩),.string tn,.string M.home] w λe w'=>(∃ v,e = .returned (.agg (Ev.rsc x.create.2 v).toArray)/\v = .slice none 0 0)/\x.create.2.items=[]/\aF w' B g k x.create.1/\FrX B Ts [] w w':=by
 obtain⟨vp,rg,bg,hg,cg,h⟩:=h
 obtain⟨y,hy⟩:∃ y,x.aZ.getD (0,0)=y:=⟨_,rfl⟩
 have hcr:x.create=if x.counter=M.aW then ({ x with aZ:=some y },{ kind:=2,err:=9 }) else ({ x with counter:=x.counter+1,aZ:=some (y.1+1,y.2),found:=true,place:=some { col:={ aj:=max x.aj 1,aD:=max x.ah 1,az:=x.counter+1,aG:=x.counter+1 },drawn:=x.counter+1 } },{ kind:=2,token:=x.counter+1 }):=by
  have h1:=hm.b1
  rw[hy] at h1
  unfold M.Core.create
  simp only[hm.found,Bool.false_eq_true,if_false,hy]
  rw[if_neg (by omega)]
 have HCR:=hid hcr
 have HM:=hid hm
 obtain⟨K,hK⟩:∃ K,K=key:=⟨_,rfl⟩
 have HK:=hid (show K.size<=1000 by rw[hK];exact lM.2)
 have hke:K.toList.isEmpty=false:=by rw[hK];exact lM.1
 have HKe:=hid (λW=>(by rw[hK];exact Id.wj tn M.home W Bf sg:Calls prog 149 #[.string tn,.string M.home] W λe w'=>e = .returned (.string K)/\W=w'))
 have HKK:=hid hK
 clear hK
 have hy1:=hm.b1
 rw[hy] at hy1
 have hpls:=h.pls
 rw[hm.place] at hpls
 obtain⟨av,cvp,rfl⟩:=Own.form hpls
 have HPl:=hid hpls
 clear hpls
 obtain⟨w0,hw0⟩:∃ w0,w0=(w.alloc (.cells #[.int .i64 0,.int .i64 0,.int .i64 0,.int .i64 0,.string ⟨#[]⟩,.int .i64 0,.bool false,.slice none 0 0] 55)).alloc (.cells #[.int .i64 2,.int .i64 0,.int .i64 0,.int .i64 0,.string ⟨#[]⟩,.int .i64 0,.bool false,.slice none 0 0] 55):=⟨_,rfl⟩
 have f0:Fr [] w w0:=by rw[hw0];exact(rZ.alloc _).alloc _
 clear hcr hm
 go_enter func110,ntmps110
 go_wp2_with fail
 rw[<-hw0]
 have b6:Holds w0 w.heap.size 55 (Ev.rsc { kind:=0 } (.slice none 0 0)).toArray:=by rw[hw0];exact(Holds.new _ _ _).alloc _
 have b7:Holds w0 (w.heap.size+1) 55 (Ev.rsc { kind:=2 } (.slice none 0 0)).toArray:=by rw[hw0];exact aE (by simp)
 have h0:=h.fr0 f0
 have hs0:=f0.size
 have c4:=h0.cell.cell 4
 have c10:=h0.cell.cell 10
 simp at c4 c10
 have hgl:=h0.cell.lt
 clear hw0 h
 refine(HKe _).mono ?_
 rintro e w1 ⟨rfl,rfl⟩
 have hreg:=h0.reg
 simp only[HM.found,bK,Bool.false_eq_true,if_false] at hreg
 rw[<-HKK] at hreg
 have HF:=hid (Rk.qp w0 B rg k.dD [] K hreg HK rfl)
 have H0:=hid h0
 have HB6:=hid b6
 have HB7:=hid b7
 clear hreg h0
 go_wp2_with fail
 refine uu HF λw2 f2=>?_
 have h2:=H0.fr0 f2
 have hB2:=f2.size
 have d4:=h2.cell.cell 4
 simp at d4
 have HBu:=hid (λW (f:Fr [] w2 W)=>kr W B g k x _ rg bg hg cg (h2.fr0 f) (by have:=f.size;omega) HM.j2 y hy)
 have H2:=hid h2
 have HB62:=hid (HB6.fr f2 (by simp))
 have HB72:=hid (HB7.fr f2 (by simp))
 have hgl2:=h2.cell.lt
 have f02:=f0.trans f2
 clear h2 b6 b7 c4 c10 H0 HF HB6 HB7 f2 f0
 go_wp2_with fail
 go_region_held3 (λw'=>w'.cell? ⟨g,4,none⟩=some (.int .i64 x.bQ)) (first|go_keep|exact hS)
  (first
   | (go_at_call 151;refine(HBu _ (by first|exact rZ.drewN _|exact rZ.drew)).mono ?_;rintro e w3 ⟨bq,rfl,hbq,hm3,hb3,h3,x3'⟩;have x3:FrX B BTs [] w2 w3:=(by first|exact(FrX.aA ((Fr.refl [] w2).drew)).trans x3'|exact(FrX.aA ((Fr.refl [] w2).drewN _)).trans x3');have hS:w3.cell? ⟨g,4,none⟩=some (.int .i64 x.bQ):=h3.cell.cell 4)
   | (go_at_call 152;refine(Bu.BQ w3 bq x.bQ x.ah x.aH x.aj y.1 y.2 hb3).mono ?_;rintro e w4 ⟨rfl,rfl⟩))
 have y71:=(HB72.frx x3 (by decide) (by simp)).cell 1
 simp[Ev.rsc] at y71
 clear d4 hS HBu
 go_wp2_with fail
 have HX3:=hid x3
 have HB63:=hid (HB62.frx x3 (by decide) (by simp))
 have HB73:=hid (HB72.frx x3 (by decide) (by simp))
 have H3:=hid h3
 have hB3:=x3.size
 clear h3 x3 x3' hm3 hb3 H2 HB62 HB72 y71
 have b6c:=HB63.out
 have b7c:=HB73.out
 by_cases hmx:x.counter=M.aW
 ·refine(sE w3 B g k _ _ rg bg hg cg H3 hmx).mono ?_
  rintro e w4 ⟨rfl,rfl⟩
  have HCR2:=hid (HCR.trans (if_pos hmx))
  have l6:=b6c.lt
  have l7:=b7c.lt
  obtain⟨d0,d1,d2,d3,d4,d5,d6,d7⟩:=b7c.cs8
  obtain⟨e0,e1,e2,e3,e4,e5,e6,e7⟩:=b6c.cs8
  have z1:=b7c.frozen 1
  obtain⟨z60,z61,z62,z63,z64,z65,z66,z67⟩:=b6c.fz8
  simp[Ev.rsc] at d0 d1 d2 d3 d4 d5 d6 d7 e0 e1 e2 e3 e4 e5 e6 e7
  clear hmx
  go_wp2_with fail
  obtain⟨W,hW⟩:∃ W,W=w3.setCell ⟨w.heap.size+1,1,none⟩ (.int .i64 9):=⟨_,rfl⟩
  have b6W:Holds W w.heap.size 55 (Ev.rsc { kind:=0 } (.slice none 0 0)).toArray:=by rw[hW];exact b6c.far (by simp) _
  have xW:FrX B [55] [] w3 W:=by rw[hW];exact FrX.aB ((Fr.refl [w.heap.size+1] _).setCell (by simp) _) (by simp;omega) (λy hy=>⟨55,by simp,by simp at hy;subst hy;exact b7c.ty⟩)
  have x8:FrX B [55] [] W (Ev.eD W w.heap.size 0 { kind:=2,err:=9 } (.slice none 0 0)):=Ev.gi hB b6W.ty (by simp)
  have b8:=Ev.eC (a:={ kind:=2,err:=9 }) (v:=.slice none 0 0) b6W
  refine bodyPost_ret (nz _ _ w.heap.size _ _ (show Holds (Ev.eD (w3.setCell ⟨w.heap.size+1,1,none⟩ (.int .i64 9)) w.heap.size 0 { kind:=2,err:=9 } (.slice none 0 0)) _ _ _ by rw[<-hW];exact b8) rfl) rfl ?_
  have e8:Ev.eD (w3.setCell ⟨w.heap.size+1,1,none⟩ (.int .i64 9)) w.heap.size 0 { kind:=2,err:=9 } (.slice none 0 0)=Ev.eD W w.heap.size 0 { kind:=2,err:=9 } (.slice none 0 0):=by rw[hW]
  refine⟨⟨_,by rw[HCR2],rfl⟩,by rw[HCR2],?_,?_⟩
  ·show aF (Ev.eD (w3.setCell ⟨w.heap.size+1,1,none⟩ (.int .i64 9)) w.heap.size 0 { kind:=2,err:=9 } (.slice none 0 0)) B g k x.create.1
   rw[e8,HCR2]
   exact⟨_,_,_,_,_,(H3.frx xW (by decide)).frx x8 (by decide)⟩
  show FrX B Ts [] w (Ev.eD (w3.setCell ⟨w.heap.size+1,1,none⟩ (.int .i64 9)) w.heap.size 0 { kind:=2,err:=9 } (.slice none 0 0))
  exact Ev.kF ((((FrX.aA f02).trans (HX3.mono (by decide) (λ_ h=>h):FrX B Ts [] w2 w3)).aw (p:=⟨w.heap.size+1,1,none⟩) (by simp) _)) (Nat.le_refl _)
 have HCR:=hid (HCR.trans (if_neg hmx))
 have HMX:=hid (show x.counter<9223372036854775807 by have:=HM.c1;rw[M.aW] at this hmx;omega)
 clear hmx b6c b7c
 refine(sF w3 B g k _ _ rg bg hg cg H3 hg' HM.c0 HMX).mono ?_
 rintro e w4 ⟨rfl,h4,x4⟩
 have hB4:=x4.size
 have HBu4:=hid (kr w4 B g k _ _ rg bg hg cg h4 (by omega) HM.j2 y rfl)
 have HB64:=hid (HB63.frx x4 (by decide) (by simp))
 have HB74:=hid (HB73.frx x4 (by decide) (by simp))
 have X4:=hid ((HX3.mono (by decide) (λ_ h=>h):FrX B Ts [] w2 w3).trans (x4.mono (by decide) (λ_ h=>h)))
 clear h4 x4 H3 HX3 HB63 HB73
 go_wp2_with fail
 refine HBu4.mono ?_
 rintro e w5 ⟨bq5,rfl,hbq5,hm5,hb5,h5,x5⟩
 have hop:=Bu.nK w5 bq5 x.bQ x.ah x.aH x.aj y.1 y.2 hb5 (by have:=HM.b0;rw[hy] at this;exact this) (by have:=HM.j2;simp only[Bu.qOk,decide_eq_true_eq] at this;omega) true (by simpa using hy1)
 simp only[if_true] at hop
 have HOp:=hid hop
 have H5:=hid h5
 have HM5:=hid hm5
 have hb5t:=Holds.ty hb5
 clear h5 hm5 hb5 hop
 go_wp2_with fail
 refine HOp.mono ?_
 rintro e w6 ⟨rfl,hb6,f6⟩
 have x6:FrX B [294] [] w5 w6:=FrX.aB f6 (by simpa using hbq5) (λz hz=>⟨294,by simp,by simp at hz;subst hz;exact hb5t⟩)
 have h6:=H5.Cs (o:=some (y.1+1,y.2)) (x6.mono (by decide) (λ_ h=>h)) ⟨bq5,hbq5,HM5.frx x6 (by decide) (by decide) (by simp),hb6⟩
 have HB66:=hid ((HB64.frx x5 (by decide) (by simp)).frx x6 (by decide) (by simp))
 have HB76:=hid ((HB74.frx x5 (by decide) (by simp)).frx x6 (by decide) (by simp))
 have X6:=hid (X4.trans ((x5.mono (by decide) (λ_ h=>h)).trans (x6.mono (by decide) (λ_ h=>h))))
 have hB5:=x5.size
 have hB6:=x6.size
 have hreg6:=h6.reg
 simp only[HM.found,bK,Bool.false_eq_true,if_false] at hreg6
 rw[<-HKK] at hreg6
 have HAd:=hid (Rk.qI w6.drew B rg k.dD K 0 (hreg6.fr0 (rZ.drew)) HK.out (by omega) (by simp;omega))
 have g9:=h6.cell.cell 9
 have g10:=h6.cell.cell 10
 simp at g9 g10
 have H6:=hid h6
 clear h6 hb6 x5 x6 f6 H5 HM5 HOp X4 HB64 HB74 hreg6 HBu4
 go_wp2_with fail
 go_still_tail 10,(by kernel_rfl)
 change wpList _ _ _ _ _ w6.drew
 go_wp2_with fail
 refine HAd.mono ?_
 rintro e w7 ⟨rfl,r7,x7'⟩
 have x7:FrX B Rk.Ts [] w6 w7:=(FrX.aA (Fr.refl [] w6).drew).trans x7'
 rw[HKK] at r7
 have h7:=H6.Gq (b:=true) x7 r7
 have HB67:=hid (HB66.frx x7 (by decide) (by simp))
 have HB77:=hid (HB76.frx x7 (by decide) (by simp))
 have X7:=hid (X6.trans (x7.mono (by decide) (λ_ h=>h)))
 have hB7:=x7.size
 have g5:=h7.cell.cell 5
 have g7:=h7.cell.cell 7
 have g9':=h7.cell.cell 9
 simp at g5 g7 g9'
 have H7:=hid h7
 clear h7 r7 x7 x7' HAd H6 HB66 HB76 X6 g9 g10
 go_wp2_with fail
 have hq:=HM.j2
 simp only[Bu.qOk,decide_eq_true_eq] at hq
 have HBB:=hid (show B<=w7.drew.heap.size by simp;omega)
 obtain⟨i3,hi,hz0,hz1,hz2⟩:=info_parts Fa
 have hpls7:=H7.pls
 simp only[HM.place] at hpls7
 have HP7:=hid (show Own w7 B 195 1 (.slice av 0 cvp) 0 [] from hpls7)
 have HT7:=hid (λq (hq:ay (.slice av 0 cvp)=some q)=>HP7.ty hq)
 have HG7:=hid (show g∉(ay (.slice av 0 cvp)).toList from λhx=>by
  have:=(HT7 g (by simpa using hx)).1
  rw[H7.cell.ty] at this
  cases this)
 clear hpls7
 go_cut [] from 12 (λwc=>∃ v',bz wc B g k { x with counter:=x.counter+1,found:=true,aZ:=some (y.1+1,y.2),place:=some { col:={ aj:=x.aj,aD:=x.ah,az:=x.counter+1,aG:=x.counter+1 },lock:={},alive:=true,drawn:=x.counter+1 } } v' rg bg hg cg/\FrX B Ts [] w7 wc)
 case first =>
  go_region_law (first
   | (refine bu rfl (.tmp 73) (.tmp 94) 141 rfl i3 _ 8 underlying141 hi hz0 hz1 hz2 rfl (by decide) (.slice av 0 cvp) (ay (.slice av 0 cvp)) rfl ((HP7.fr0 ((G9.alloc _).alloc _)).sl) _ 1 1 [.pointer (some ⟨w9.heap.size,0,none⟩)] rfl rfl (Cells.one (aE (cs:=#[.pointer (some ⟨w9.heap.size,0,none⟩)]) (t:=195) (by simp))) (by simp[Value.oneCell']) (by unfold maxLen;omega) (by omega) ?_;intro v10 w10 own10 hs10 hf10 ho10 hm10;obtain⟨a10,c10,rfl⟩:=hs10.form;have hc10:=(H7.cell.fr ((G9.alloc _).alloc _) (by simp)).fr hf10 HG7.out;have hz10:=hc10.frozen 9;have hl10:=hc10.lt;have hd10:=hc10.cell 9;simp at hd10)
   | (refine bu rfl (.tmp 73) (.tmp 94) 141 rfl i3 _ 8 underlying141 hi hz0 hz1 hz2 rfl (by decide) (.slice av 0 cvp) (ay (.slice av 0 cvp)) rfl ((HP7.fr0 ((G8.alloc _).alloc _)).sl) _ 1 1 [.pointer (some ⟨w8.heap.size,0,none⟩)] rfl rfl (Cells.one (aE (cs:=#[.pointer (some ⟨w8.heap.size,0,none⟩)]) (t:=195) (by simp))) (by simp[Value.oneCell']) (by unfold maxLen;omega) (by omega) ?_;intro v10 w10 own10 hs10 hf10 ho10 hm10;obtain⟨a10,c10,rfl⟩:=hs10.form;have hc10:=(H7.cell.fr ((G8.alloc _).alloc _) (by simp)).fr hf10 HG7.out;have hz10:=hc10.frozen 9;have hl10:=hc10.lt;have hd10:=hc10.cell 9;simp at hd10)
   | (go_simp;go_at_call 156;refine(Co.bZ _ B (x.counter+1) x.ah x.aj (by omega) (by omega) (by first|exact Nat.le_trans HBB (Nat.le_trans (by simp) G9.size)|exact HBB.out)).mono ?_;rintro e w8 ⟨cl,rfl,hcl,q8,f8⟩;have G8:Fr [] w7 w8:=(by first|exact G9.trans f8|exact rZ.drew.trans f8);have k85:=(H7.cell.fr G8 (by simp)).cell 5;have k87:=(H7.cell.fr G8 (by simp)).cell 7;have k89:=(H7.cell.fr G8 (by simp)).cell 9;simp at k85 k87 k89;have l8:=(H7.cell.fr G8 (by simp)).lt)
   | (go_simp;go_at_call 157;refine(Lo.bZ _ B).mono ?_;rintro e w9 ⟨lg,rfl,hlg,q9,f9⟩;have G9:Fr [] w7 w9:=(by first|exact G8.trans f9|exact rZ.drew.trans f9);have k95:=(H7.cell.fr G9 (by simp)).cell 5;have k97:=(H7.cell.fr G9 (by simp)).cell 7;have k99:=(H7.cell.fr G9 (by simp)).cell 9;simp at k95 k97 k99;have l9:=(H7.cell.fr G9 (by simp)).lt))
  all_goals
  go_wp2_with fail
  go_meet
  first
  | exact⟨_,H7.grown hg' HP7 G9 (by have:=G9.size;have:=HBB.out;simp at *;omega) (by have:=HBB.out;omega) (by have:=HBB.out;have:=f8.size;simp at *;omega) (q8.fr0 f9) q9 hs10 hf10 ho10 hm10⟩
  | exact⟨_,H7.grown hg' HP7 G8 (by have:=G8.size;have:=HBB.out;simp at *;omega) (by have:=HBB.out;have:=f9.size;simp at *;omega) (by have:=HBB.out;omega) q8 (q9.fr0 f8) hs10 hf10 ho10 hm10⟩
 case rest =>
  obtain⟨v',hP,xC⟩:=hcut
  have b6c:=HB67.frx xC (by decide) (by simp)
  have b7c:=HB77.frx xC (by decide) (by simp)
  have XC:=hid (X7.trans xC)
  have HPC:=hid hP
  have l6:=b6c.lt
  have l7:=b7c.lt
  obtain⟨d0,d1,d2,d3,d4,d5,d6,d7⟩:=b7c.cs8
  obtain⟨e0,e1,e2,e3,e4,e5,e6,e7⟩:=b6c.cs8
  have z2:=b7c.frozen 2
  obtain⟨z60,z61,z62,z63,z64,z65,z66,z67⟩:=b6c.fz8
  simp[Ev.rsc] at d0 d1 d2 d3 d4 d5 d6 d7 e0 e1 e2 e3 e4 e5 e6 e7
  clear hP xC hq HBB HP7 HT7 HG7 g5 g7 g9' H7 hi hz0 hz1 hz2
  go_wp2_with fail
  have hx:x.create.2={ kind:=2,token:=x.counter+1 }:=by rw[HCR]
  have hy1:x.create.1={ x with counter:=x.counter+1,aZ:=some (y.1+1,y.2),found:=true,place:=some { col:={ aj:=max x.aj 1,aD:=max x.ah 1,az:=x.counter+1,aG:=x.counter+1 },drawn:=x.counter+1 } }:=by rw[HCR]
  have hm1:max x.aj 1=x.aj:=by have:=HM.j2;simp only[Bu.qOk,decide_eq_true_eq] at this;omega
  have hm2:max x.ah 1=x.ah:=by have:=HM.j2;simp only[Bu.qOk,decide_eq_true_eq] at this;omega
  obtain⟨W,hW⟩:∃ W,W=wc.setCell ⟨w.heap.size+1,2,none⟩ (.int .i64 (x.counter+1)):=⟨_,rfl⟩
  have b6W:Holds W w.heap.size 55 (Ev.rsc { kind:=0 } (.slice none 0 0)).toArray:=by rw[hW];exact b6c.far (by simp) _
  have xW:FrX B [55] [] wc W:=by rw[hW];exact FrX.aB ((Fr.refl [w.heap.size+1] _).setCell (by simp) _) (by simp;omega) (λy hy=>⟨55,by simp,by simp at hy;subst hy;exact b7c.ty⟩)
  have x8:FrX B [55] [] W (Ev.eD W w.heap.size 0 { kind:=2,token:=x.counter+1 } (.slice none 0 0)):=Ev.gi hB b6W.ty (by simp)
  have b8:=Ev.eC (a:={ kind:=2,token:=x.counter+1 }) (v:=.slice none 0 0) b6W
  refine bodyPost_ret (nz _ _ w.heap.size _ _ (show Holds (Ev.eD (wc.setCell ⟨w.heap.size+1,2,none⟩ (.int .i64 (x.counter+1))) w.heap.size 0 { kind:=2,token:=x.counter+1 } (.slice none 0 0)) _ _ _ by rw[<-hW];exact b8) rfl) rfl ?_
  have e8:Ev.eD (wc.setCell ⟨w.heap.size+1,2,none⟩ (.int .i64 (x.counter+1))) w.heap.size 0 { kind:=2,token:=x.counter+1 } (.slice none 0 0)=Ev.eD W w.heap.size 0 { kind:=2,token:=x.counter+1 } (.slice none 0 0):=by rw[hW]
  refine⟨⟨_,by rw[hx],rfl⟩,by rw[hx],?_,?_⟩
  ·show aF (Ev.eD (wc.setCell ⟨w.heap.size+1,2,none⟩ (.int .i64 (x.counter+1))) w.heap.size 0 { kind:=2,token:=x.counter+1 } (.slice none 0 0)) B g k x.create.1
   rw[e8,hy1,hm1,hm2]
   exact⟨_,_,_,_,_,(HPC.frx xW (by decide)).frx x8 (by decide)⟩
  show FrX B Ts [] w (Ev.eD (wc.setCell ⟨w.heap.size+1,2,none⟩ (.int .i64 (x.counter+1))) w.heap.size 0 { kind:=2,token:=x.counter+1 } (.slice none 0 0))
  exact Ev.kF ((((FrX.aA f02).trans XC).aw (p:=⟨w.heap.size+1,2,none⟩) (by simp) _)) (Nat.le_refl _)
end Cr
