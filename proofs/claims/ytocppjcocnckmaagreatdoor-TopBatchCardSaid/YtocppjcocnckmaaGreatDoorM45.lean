/- Walks. -/
import Derived.Test.YtocppjcocnckmaaGreatDoorM34
import Derived.Test.YtocppjcocnckmaaGreatDoorM44
import Derived.Deep.CutRange
import Derived.Deep.RegionLaw
import Derived.Deep.RegionHeld3
import Derived.StillTailTactics
set_option maxRecDepth 100000
set_option maxHeartbeats 8000000
set_option linter.all false
open Go.Lib (hid)
namespace Go.Proofs.YtocppjcocnckmaaGreatDoor
open Go.Proofs.Tryz
namespace Cr
open Go.RowKit
theorem tf (w:World)(B g:Nat)(k:Cf)(x:M.Core)(p:M.Place)(q:M.Req)(vo:Value)(h:aF w B g k x)(hg':B<=g)(hB:B<=w.heap.size)(hp:x.place=some p)(hal:p.alive=true)(hk:q.kind=8)(hm:1<=q.aD)(hw:M.Whole p.col) :
  Calls prog 116 #[.pointer (some ⟨g,0,none⟩),.int .i64 0,.agg (Ev.rqc q vo).toArray] w λe w'=>∃ vi,e = .returned (.tuple #[.agg (Ev.rsc (x.work q).2 (.slice none 0 0)).toArray,vi])/\Ev.aV w' B vi (x.work q).2.items/\aF w' B g k (x.work q).1/\FrX B Ts [] w w':=by
 obtain⟨vp,rg,bg,hg,cg,h⟩:=h
 obtain⟨er,her⟩:∃ er:Int,(if (p.col.since q.token).isSome then 0 else 8)=er:=⟨_,rfl⟩
 obtain⟨tk,htk⟩:∃ tk:Int,(if (p.col.since q.token).isSome then p.col.az else 0)=tk:=⟨_,rfl⟩
 obtain⟨il,hil⟩:∃ il,(p.col.since q.token).getD []=il:=⟨_,rfl⟩
 have hx:x.work q=(x,{ kind:=8,err:=er,token:=tk,items:=il }):=by
  rw[<-her,<-htk,<-hil]
  cases h:p.col.since q.token<;>simp[M.Core.work,hp,hal,hk,h]
 have HPg:=hid (λW cl (h:Co.bX W B cl p.col) (hB:B<=W.heap.size)=>by
  have:=Co.AM W B cl p.col q.token q.aD h hB hw hm
  rw[her,htk,hil] at this
  exact this)
 clear her htk hil
 obtain⟨w0,hw0⟩:∃ w0,w0=(w.alloc (.cells (Ev.rqc q vo).toArray 37)).alloc (.cells (Ev.rsc { kind:=8 } (.slice none 0 0)).toArray 55):=⟨_,rfl⟩
 have f0:Fr [] w w0:=by rw[hw0];exact(rZ.alloc _).alloc _
 have b5:Holds w0 w.heap.size 37 (Ev.rqc q vo).toArray:=by rw[hw0];exact(Holds.new _ _ _).alloc _
 have b6:Holds w0 (w.heap.size+1) 55 (Ev.rsc { kind:=8 } (.slice none 0 0)).toArray:=by rw[hw0];exact aE (by simp)
 have h0:=h.fr0 f0
 have HX:=hid hx
 obtain⟨kind,aR,col,uid,au,ck,cv,ops,token,aD,bj⟩:=q
 simp only at hk
 subst hk
 simp only at HPg
 simp only[Ev.rqc,Ev.rsc] at hw0
 simp only[Ev.rqc] at b5 ⊢
 clear hx
 go_enter func116,ntmps116
 go_wp2_with fail
 rw[<-hw0]
 refine(ir w0 B g k x vp rg bg hg cg p h0 hp).mono ?_
 rintro e w1 ⟨⟨q,rfl,hq,ho,⟨cl,lg,h1,h2,hc,hcol,hl'⟩⟩,rfl⟩
 have d2:=hc.cell 2
 have d4:=hc.cell 4
 have y0:=b5.cell 0
 have y8:=b5.cell 8
 have y9:=b5.cell 9
 have hs0:=f0.size
 have HB6:=hid b6
 have H0:=hid h0
 have F0:=hid f0
 have HP:=hid (λW (f:Fr [] w0 W)=>HPg W cl (hcol.fr0 f) (by have:=f.size;omega))
 have hl5:=b5.lt
 have hl6:=b6.lt
 have hlq:=hc.lt
 have hqn:q≠w.heap.size+1:=hc.ne b6 (by decide)
 have HK:=hid (λ(W':World) (i:Nat) (v:Value) (h:W'.cell? ⟨q,2,none⟩=some (.pointer (some ⟨cl,0,none⟩))/\W'.cell? ⟨w.heap.size,8,none⟩=some (.int .i64 token)/\W'.cell? ⟨w.heap.size,9,none⟩=some (.int .i64 aD))=>(⟨(World.cell?_of_block (a:=⟨q,2,none⟩) (Below.heap_setCell W' ⟨w.heap.size+1,i,none⟩ v q hqn)).trans h.1,(World.cell?_of_block (a:=⟨w.heap.size,8,none⟩) (Below.heap_setCell W' ⟨w.heap.size+1,i,none⟩ v w.heap.size (by simp))).trans h.2.1,(World.cell?_of_block (a:=⟨w.heap.size,9,none⟩) (Below.heap_setCell W' ⟨w.heap.size+1,i,none⟩ v w.heap.size (by simp))).trans h.2.2⟩:(W'.setCell ⟨w.heap.size+1,i,none⟩ v).cell? ⟨q,2,none⟩=some (.pointer (some ⟨cl,0,none⟩))/\(W'.setCell ⟨w.heap.size+1,i,none⟩ v).cell? ⟨w.heap.size,8,none⟩=some (.int .i64 token)/\(W'.setCell ⟨w.heap.size+1,i,none⟩ v).cell? ⟨w.heap.size,9,none⟩=some (.int .i64 aD)))
 simp[hal] at d2 d4 y0 y8 y9
 clear hw0 h0 ho hc hcol hl' b5 b6 f0 h hm hw
 go_wp2_with fail
 have D2:=hid d2
 have Y8:=hid y8
 have Y9:=hid y9
 clear d4 y0
 go_region_held3 (λw'=>w'.cell? ⟨q,2,none⟩=some (.pointer (some ⟨cl,0,none⟩))/\w'.cell? ⟨w.heap.size,8,none⟩=some (.int .i64 token)/\w'.cell? ⟨w.heap.size,9,none⟩=some (.int .i64 aD)) (first|with_reducible exact hS|with_reducible exact HK.out _ _ _ hS|with_reducible exact HK.out _ _ _ (HK.out _ _ _ hS)|with_reducible exact HK.out _ _ _ (HK.out _ _ _ (HK.out _ _ _ hS))|go_keep)
  (first|(go_at_call 164;refine(HP _ (by first|exact rZ.drewN _|exact rZ.drew)).mono ?_;rintro e w2 ⟨v,rfl,hi,f2'⟩;obtain⟨av,cvv,rfl⟩:=hi.form;have f2:Fr [] w0 w2:=(by first|exact(rZ.drewN _).trans f2'|exact rZ.drew.trans f2');have hS:=(⟨f2.cell D2 (block_lt_of_cell D2) (by simp),f2.cell Y8.out (block_lt_of_cell Y8.out) (by simp),f2.cell Y9.out (block_lt_of_cell Y9.out) (by simp)⟩:w2.cell? ⟨q,2,none⟩=_/\w2.cell? ⟨w.heap.size,8,none⟩=_/\w2.cell? ⟨w.heap.size,9,none⟩=_);have b6W:=HB6.fr f2 (by simp);have l6:=b6W.lt;have e1:=b6W.cell 1;have z1:=b6W.frozen 1;have e2:=b6W.cell 2;have z2:=b6W.frozen 2;have e6:=b6W.cell 6;have z6:=b6W.frozen 6;simp[Ev.rsc] at e1 e2 e6))
 obtain⟨W3,hW3⟩:∃ W3,W3=((w2.setCell ⟨w.heap.size+1,2,none⟩ (.int .i64 tk)).setCell ⟨w.heap.size+1,6,none⟩ (.bool false)).setCell ⟨w.heap.size+1,1,none⟩ (.int .i64 er):=⟨_,rfl⟩
 rw[<-hW3]
 have f3:Fr [w.heap.size+1] w2 W3:=by rw[hW3];exact((rZ.setCell (by simp) _).setCell (by simp) _).setCell (by simp) _
 have b7:Holds W3 (w.heap.size+1) 55 (Ev.rsc { kind:=8,err:=er,token:=tk } (.slice none 0 0)).toArray:=by rw[hW3];simpa[Ev.rsc] using ((b6W.set 2 (.int .i64 tk)).set 6 (.bool false)).set 1 (.int .i64 er)
 have x7:FrX B [55] [] w2 W3:=FrX.aB f3 (by simp;omega) (λy hy=>⟨55,by simp,by simp at hy;subst hy;exact b6W.ty⟩)
 have H3:=hid (And.intro ((H0.fr0 f2).frx x7 (by decide)) (And.intro (hi.bf x7 (by decide)) (And.intro b7 (FrX.aA ((F0.trans f2).step f3 (λy hy=>.inr (by simp at hy;subst hy;simp))):FrX B Ts [] w W3))))
 have l7:=b7.lt
 obtain⟨d0,d1,d2,d3,d4,d5,d6,d7⟩:=b7.cs8
 obtain⟨zz0,zz1,zz2,zz3,zz4,zz5,zz6,zz7⟩:=b7.fz8
 simp[Ev.rsc] at d0 d1 d2 d3 d4 d5 d6 d7
 clear hW3 f3 b7 x7 hS e1 z1 e2 z2 e6 z6 b6W f2 hi l6
 go_wp2_with fail
 rw[HX]
 exact gL (rs:=(x,{ kind:=8,err:=er,token:=tk,items:=il })) hB H3.2.2.1 H3.2.1 ⟨_,_,_,_,_,H3.1⟩ H3.2.2.2 rfl rfl
theorem nZ {x:M.Core}(hc:M.mayCore x=true):Bu.qOk x.bQ x.ah x.aH x.aj=true:=by
 simp only[M.mayCore,M.pM,Bool.and_eq_true,decide_eq_true_eq] at hc
 simp only[Bu.qOk,decide_eq_true_eq]
 exact hc.1
theorem jP {x:M.Core}(hc:M.mayCore x=true):0<=x.counter/\x.counter<=M.aW/\0<=x.now/\x.now<=1000000/\x.hub.length<=90/\x.ct.length<=90:=by
 simp only[M.mayCore,Bool.and_eq_true,decide_eq_true_eq] at hc
 exact hc.2
theorem oY {x:M.Core}{p:M.Place}{b:Int × Int}{ops:List M.Op}{ap:Bool}(hc:M.mayCore x=true)(h:M.eU x p.col b ops ap=true):ll x p b ops:=by
 have hn:=jP hc
 unfold M.eU at h
 simp only[Bool.and_eq_true,decide_eq_true_eq,List.all_eq_true,Bool.or_eq_true] at h
 obtain⟨⟨⟨⟨h1,h2,h3,h4⟩,h5⟩,h6⟩,h7⟩:=h
 refine⟨nZ hc,by omega,by omega,h1,by omega,by omega,λo ho=>(h5 o ho).1,λo ho=>(h5 o ho).2,h6,h4,λhe=>?_⟩
 rcases h7 with h|⟨h,_⟩
 ·exact absurd he h
 exact h
theorem AS {x:M.Core}{p:M.Place}{b:Int × Int}{o:M.Op}(h:M.eU x p.col b [o] true=true)(hck:(p.col.check [o] (x.aH - b.2)).2.2=0) :
  ∀ (j:Nat) (o':M.Op),([o]:List M.Op)[j]? = some o'->∀ W cl B,Co.bX W B cl ((([o]:List M.Op).take j).foldl (λc o=>c.apply o (x.counter+1)) p.col)->B<=W.heap.size->B<=cl ->
   Calls prog 118 #[.pointer (some ⟨cl,0,none⟩),.agg #[.bool o'.del,.string o'.uid,.string o'.au,.int .i64 o'.ck,.int .i64 o'.cv],.int .i64 (x.counter+1)] W λe W'=>(∃ b,e = .returned (.bool b))/\Co.bX W' B cl ((([o]:List M.Op).take (j+1)).foldl (λc o=>c.apply o (x.counter+1)) p.col)/\FrX B Co.Ts [] W W':=by
 intro j o' hj W cl B hcl hB hb
 match j,hj with
 | 0,hj =>
  simp only[List.getElem?_cons_zero,Option.some.injEq] at hj
  subst hj
  unfold M.eU at h
  simp only[Bool.and_eq_true,decide_eq_true_eq,List.all_eq_true,Bool.or_eq_true] at h
  rcases h.2 with h|⟨_,h⟩
  ·exact absurd hck h
  rcases h with h|h
  ·simp at h
  have h':=h 0 (by simp)
  exact(Co.px W B cl p.col o (x.counter+1) (by simpa using hcl) hB hb (by simpa using h')).mono λe W' ⟨a,b,c⟩=>⟨a,by simpa using b,c⟩
 | j+1,hj=>simp at hj
theorem zv (w:World)(B g:Nat)(k:Cf)(x:M.Core)(p:M.Place)(q:M.Req)(vo:Value)(h:aF w B g k x)(hg':B<=g)(hB:B<=w.heap.size)(hp:x.place=some p)(hal:p.alive=true)(ho:Ev.bD w B vo q.ops)(hc:M.mayCore x=true)(hm:M.fT x p.col q=true) :
  Calls prog 116 #[.pointer (some ⟨g,0,none⟩),.int .i64 0,.agg (Ev.rqc q vo).toArray] w λe w'=>∃ vi,e = .returned (.tuple #[.agg (Ev.rsc (x.work q).2 (.slice none 0 0)).toArray,vi])/\Ev.aV w' B vi (x.work q).2.items/\aF w' B g k (x.work q).1/\FrX B Ts [] w w':=by
 unfold M.fT at hm
 split at hm
 ·rename_i hk
  cases hb:x.aZ with
  | none=>rw[hb] at hm;cases hm
  | some b =>
   rw[hb] at hm
   exact zs w B g k x p q vo h hg' hB hp hal hk b hb (oY hc hm) (λhck j o hj W cl hcl hB hb=>AS hm hck j o hj W cl B hcl hB hb)
 split at hm
 ·rename_i hk
  cases hb:x.aZ with
  | none=>rw[hb] at hm;cases hm
  | some b =>
   rw[hb] at hm
   exact tg w B g k x p q vo h hg' hB hp hal hk b hb (oY hc hm) ho
 split at hm
 ·rename_i hk
  simp only[M.pE,Bool.and_eq_true,decide_eq_true_eq] at hm
  exact tf w B g k x p q vo h hg' hB hp hal hk hm.1 hm.2
 rcases of_decide_eq_true hm with hk|hk
 ·exact zu w B g k x p q vo h hg' hB hp hal hk
 exact wJ w B g k x p q vo h hg' hB hp hal hk
end Cr
namespace Tk
open Go.RowKit Cr
abbrev TTs:List TypeId:=153::Ts
theorem CK {w w':World}{B g:Nat}(h:FrX B Ts [g] w w')(ht:cB w g=some 153):FrX B TTs [] w w' :=
 (h.mono (Ts:=TTs) (λ_ h=>by simp[h]) (λ_ h=>h)).jY (λz hz=>.inr (.inr ⟨153,by simp,by simp at hz;subst hz;exact ht⟩))
theorem gX {w w':World}{B g:Nat}(h:Fr [g] w w')(hg:B<=g):FrX B Ts [g] w w':=FrX.bY h (by simpa using hg)
theorem eY {w w':World}{B g xp:Nat}{k:Cf}{x:M.Core}(h:aF w B xp k x)(hf:Fr [g] w w')(hg:B<=g)(ht:cB w g=some 153):aF w' B xp k x :=
 h.frx (FrX.aB (Ts:=[153]) (T:=[]) hf (by simpa using hg) (λy hy=>⟨153,by simp,by simp at hy;subst hy;exact ht⟩)) (by decide)
theorem ey {w w':World}{B g:Nat}{e sz n:Nat}{v:Value}{xs:List Value}(h:Own w B e sz v n xs)(hf:Fr [g] w w')(hg:B<=g)(ht:cB w g=some 153)(he:e≠153):Own w' B e sz v n xs :=
 h.bf (FrX.aB (Ts:=[153]) (T:=[]) hf (by simpa using hg) (λy hy=>⟨153,by simp,by simp at hy;subst hy;exact ht⟩)) (by simpa using he)
def Stepped (w:World)(B g xp:Nat)(who:Int)(k:Cf)(r:M.Core × M.Task)(w':World):Prop:=cU w' B g xp who r.2/\aF w' B xp k r.1/\FrX B Ts [g] w w'
theorem xg (w:World)(B g xp:Nat)(who:Int)(t:M.Task)(vo vi:Value)(k:Cf)(x:M.Core)(h:cY w B g xp who t vo vi)(hc:aF w B xp k x)(hg:B<=g)(hB:B<=w.heap.size)(h2:t.q.kind≠2)(h10:t.q.kind≠10)(hcol:t.q.col=M.home)(h1:t.ax=1) :
  Calls prog 83 #[.pointer (some ⟨g,0,none⟩)] w λe w'=>e = .returned (.tuple #[])/\Stepped w B g xp who k (t.step x who) w':=by
 have hst:t.step x who=if x.find<0 then (x,{ t.settle { kind:=t.q.kind,err:=4 } 8 with id:=x.find }) else (x,{ t with id:=x.find,ax:=2 }):=by
  unfold M.Task.step
  rw[if_pos h1,if_neg h2,if_neg h10]
 have HS:=hid hst
 have c0:=h.cell.cell 0
 have c2:=h.cell.cell 2
 have c3:=h.cell.cell 3
 have c5:=h.cell.cell 5
 simp[aO,hcol] at c0 c2 c3 c5
 have hgl:=h.cell.lt
 have b2:(t.q.kind==2)=false:=by simpa using h2
 have b10:(t.q.kind==10)=false:=by simpa using h10
 have HF:=hid (λW (f:Fr [] w W)=>bp W B xp k x (hc.fr0 f))
 have HT:=hid h
 have HC:=hid hc
 have HK:=hid (And.intro h2 h10)
 have c16:=h.cell.cell 16
 have c15:=h.cell.cell 15
 have z16:=h.cell.frozen 16
 simp[aO] at c16 c15
 clear h hc hst hcol h2 h10
 generalize M.home=H at *
 generalize tn=N at c2 HF
 have C0:=hid (And.intro c0 (And.intro c2 c5))
 go_enter func83,ntmps83
 go_wp2_with fail
 go_region_held3 (λw'=>w'.cell? ⟨g,0,none⟩=some (.pointer (some ⟨xp,0,none⟩))/\w'.cell? ⟨g,2,none⟩=some (.string N)/\w'.cell? ⟨g,5,none⟩=some (.string H)) (first|go_keep|exact hS|(simpa[go_sem] using hS))
  (first|(go_at_call 112;refine uu (HF _ (by first|exact rZ.drewN _|exact rZ.drew)) λw2 f2'=>?_;have f2:Fr [] w w2:=(by first|exact(rZ.drewN _).trans f2'|exact rZ.drew.trans f2');have hS:=(⟨f2.cell C0.1 (block_lt_of_cell C0.1) (by simp),f2.cell C0.2.1 (block_lt_of_cell C0.2.1) (by simp),f2.cell C0.2.2 (block_lt_of_cell C0.2.2) (by simp)⟩:w2.cell? ⟨g,0,none⟩=_/\w2.cell? ⟨g,2,none⟩=_/\w2.cell? ⟨g,5,none⟩=_);have d16:=f2.cell c16 (block_lt_of_cell c16) (by simp);have y16:=(HT.fr0 f2).cell.frozen 16))
 clear hS c0 c2 c5 c15 c16 z16 hgl
 have hT2:=HT.fr0 f2
 have hC2:=HC.fr0 f2
 have hf2:Fr [g] w w2:=f2.mono (by simp)
 have hfind:x.find=0∨x.find = -1:=by unfold M.Core.find;split<;>simp
 generalize hfi:x.find=fi at *
 obtain⟨W,hW⟩:∃ W,W=w2.setCell ⟨g,16,none⟩ (.int .i64 fi):=⟨_,rfl⟩
 have fW:Fr [g] w2 W:=by rw[hW];exact rZ.setCell (by simp) _
 have hTW:cY W B g xp who { t with id:=fi } vo vi:=⟨by rw[hW];simpa[aO] using hT2.cell.set 16 (.int .i64 fi),ey hT2.ops fW hg hT2.cell.ty (by decide),ey hT2.its fW hg hT2.cell.ty (by decide),hT2.l1,hT2.l2⟩
 have hCW:=eY hC2 fW hg hT2.cell.ty
 have c16:=hTW.cell.cell 16
 have c3:=hTW.cell.cell 3
 have c15:=hTW.cell.cell 15
 have z15:=hTW.cell.frozen 15
 simp[aO] at c16 c3 c15
 have hgl:=hTW.cell.lt
 rw[<-hW]
 have HTW:=hid hTW
 have HCW:=hid hCW
 have FW:=hid (hf2.trans fW)
 clear hW hTW hCW hT2 hC2 f2' d16 y16 fW hf2 f2
 rcases hfind with rfl|rfl
 ·go_wp2_with fail
  go_end0
  rw[HS,if_neg (by decide)]
  have f3:Fr [g] W (W.setCell ⟨g,15,none⟩ (.int .i64 2)):=rZ.setCell (by simp) _
  refine⟨rfl,⟨vo,vi,by simpa[aO] using HTW.cell.set 15 (.int .i64 2),ey HTW.ops f3 hg HTW.cell.ty (by decide),ey HTW.its f3 hg HTW.cell.ty (by decide),HTW.l1,HTW.l2⟩,eY HCW.out f3 hg HTW.cell.ty,gX (FW.trans f3) hg⟩
 go_wp2_with fail
 refine(iR W B g xp who 8 { t with id:=-1 } { kind:=t.q.kind,err:=4 } vo vi (.slice none 0 0) HTW hg (Own.nil _ _ _ _) (by simp)).mono ?_
 rintro e w3 ⟨rfl,h3,f3⟩
 go_wp2_with fail
 refine bodyPost_ret (results_none rfl _ _ _) rfl ?_
 rw[HS,if_pos (by decide)]
 exact⟨rfl,⟨vo,_,h3⟩,eY HCW f3 hg HTW.cell.ty,gX (FW.trans f3) hg⟩
theorem rb (w:World)(B g xp:Nat)(who:Int)(t:M.Task)(vo vi:Value)(k:Cf)(x:M.Core)(h:cY w B g xp who t vo vi)(hc:aF w B xp k x)(hg:B<=g)(hB:B<=w.heap.size)(h2:t.q.kind=2)(hcol:t.q.col=M.home)(h1:t.ax=1)(hxp:B<=xp)(hm:pB x k) :
  Calls prog 83 #[.pointer (some ⟨g,0,none⟩)] w λe w'=>e = .returned (.tuple #[])/\Stepped w B g xp who k (t.step x who) w':=by
 have hst:t.step x who=(x.create.1,t.settle x.create.2 8):=by
  unfold M.Task.step
  rw[if_pos h1,if_pos h2]
 have HS:=hid hst
 have c0:=h.cell.cell 0
 have c2:=h.cell.cell 2
 have c3:=h.cell.cell 3
 have c5:=h.cell.cell 5
 simp[aO,h2,hcol] at c0 c2 c3 c5
 have HF:=hid (λW (f:Fr [] w W)=>uZ W B xp k x (hc.fr0 f) hxp (by have:=f.size;omega) hm)
 have HT:=hid h
 have HC:=hid hc
 have HH:=hid hcol
 clear h hc hst h2 hcol hm
 generalize x.create=a at *
 generalize M.home=H at *
 obtain⟨N,hN⟩:∃ N,N=tn:=⟨_,rfl⟩
 rw[<-hN] at c2 HF
 have HN:=hid hN
 clear hN
 have C0:=hid (And.intro c0 (And.intro c2 c5))
 go_enter func83,ntmps83
 go_wp2_with fail
 go_region_held3 (λw'=>w'.cell? ⟨g,0,none⟩=some (.pointer (some ⟨xp,0,none⟩))/\w'.cell? ⟨g,2,none⟩=some (.string N)/\w'.cell? ⟨g,5,none⟩=some (.string H)) (first|go_keep|exact hS|(simpa[go_sem] using hS))
  (first
   | (go_at_call 110;refine(HF _ (by first|exact rZ.drewN _|exact rZ.drew)).mono ?_;rintro e w2 ⟨⟨v,rfl,rfl⟩,hi,hc2,x2'⟩;have x2:FrX B Ts [] w w2:=(by first|exact(FrX.aA (rZ.drewN _)).trans x2'|exact(FrX.aA (rZ.drew)).trans x2');have hT2:=HT.frx x2 (by decide) (by decide) (by decide);have hS:=(⟨by simpa[aO] using hT2.cell.cell 0,by rw[HN.out];simpa[aO] using hT2.cell.cell 2,by rw[<-HH.out];simpa[aO] using hT2.cell.cell 5⟩:w2.cell? ⟨g,0,none⟩=some (.pointer (some ⟨xp,0,none⟩))/\w2.cell? ⟨g,2,none⟩=some (.string N)/\w2.cell? ⟨g,5,none⟩=some (.string H)))
   | (go_at_call 109;refine(iR w2 B g xp who 8 t a.2 vo vi (.slice none 0 0) hT2 hg (by rw[hi];exact Own.nil _ _ _ _) (by rw[hi];simp)).mono ?_;rintro e w3 ⟨rfl,h3,f3⟩;have hS:=(⟨by simpa[aO] using h3.cell.cell 0,by rw[HN.out];simpa[aO] using h3.cell.cell 2,by rw[<-HH.out];simpa[aO,M.Task.settle] using h3.cell.cell 5⟩:w3.cell? ⟨g,0,none⟩=some (.pointer (some ⟨xp,0,none⟩))/\w3.cell? ⟨g,2,none⟩=some (.string N)/\w3.cell? ⟨g,5,none⟩=some (.string H))))
 go_wp2_with fail
 refine bodyPost_ret (results_none rfl _ _ _) rfl ?_
 rw[HS]
 exact⟨rfl,⟨vo,_,h3⟩,eY hc2 f3 hg hT2.cell.ty,(x2.mono (λ_ h=>h) (by simp)).trans (gX f3 hg)⟩
theorem qU (t:M.Task)(x:M.Core)(who:Int)(h3:t.ax=3):t.step x who=if !x.alive t.id then (x.unlock t.id who false,{ t with ax:=1 })
  else
   if t.q.kind=9&&(x.work t.q).2.err==15 then
    if x.now >= t.deadline then ((x.work t.q).1,t.settle (x.work t.q).2 6)
    else ((x.work t.q).1.sleep who t.id t.deadline,{ t with ax:=6 })
   else if t.q.kind=7&&(x.work t.q).2.err==0 then ((x.work t.q).1,t.settle (x.work t.q).2 4)
   else if 0<(x.work t.q).2.items.length then ((x.work t.q).1,t.settle (x.work t.q).2 5)
   else ((x.work t.q).1,t.settle (x.work t.q).2 6):=by
 unfold M.Task.step
 rw[if_neg (by omega),if_neg (by omega),if_pos h3]
theorem Fu (x:M.Core)(q:M.Req)(h:q.kind=9):(x.work q).1=x:=by
 unfold M.Core.work
 split
 ·rfl
 split
 ·rfl
 simp only[h,Int.reduceEq,if_false,if_true]
 split<;>rfl
theorem Cy (w:World)(B g xp:Nat)(who:Int)(t:M.Task)(vo vi:Value)(k:Cf)(x:M.Core)(p:M.Place)(h:cY w B g xp who t vo vi)(hc:aF w B xp k x)(hg:B<=g)(hB:B<=w.heap.size)(h3:t.ax=3)(hiq:t.id=0)(hp:x.place=some p)(hal:p.alive=false)
  (hst:p.lock.state who=3∨p.lock.state who=2) (hlk:p.lock.an.length+p.lock.queue.length<=90) (hh:x.hub.length<=90) :
  Calls prog 86 #[.pointer (some ⟨g,0,none⟩)] w λe w'=>e = .returned (.tuple #[])/\Stepped w B g xp who k (t.step x who) w':=by
 have hstep:t.step x who=(x.unlock 0 who false,{ t with ax:=1 }):=by
  rw[qU t x who h3,if_pos (by simp[M.Core.alive,hp,hiq,hal]),hiq]
 have HS:=hid hstep
 have c0:=h.cell.cell 0
 have c1:=h.cell.cell 1
 have c16:=h.cell.cell 16
 simp[aO,hiq] at c0 c1 c16
 have HA:=hid (λW (f:Fr [] w W)=>py W B xp k x p (hc.fr0 f) hp)
 have HU:=hid (λW (f:Fr [] w W)=>mU W B xp k x p who false (hc.fr0 f) hp (by have:=f.size;omega) (by omega) hst (by omega))
 rw[hal] at HA
 have HT:=hid h
 clear h hc hstep hst
 go_enter func86,ntmps86
 go_wp2_with fail
 go_quiet ((go_at_call 115;exact bB (HA _ (by first|exact rZ.drewN _|exact rZ.drew|exact rZ))))
 obtain⟨W,hW⟩:∃ W,W=w.drewN nq:=⟨_,rfl⟩
 have fW:Fr [] w W:=by rw[hW];exact rZ.drewN _
 rw[<-hW]
 have d0:=fW.cell c0 (block_lt_of_cell c0) (by simp)
 have d1:=fW.cell c1 (block_lt_of_cell c1) (by simp)
 have d16:=fW.cell c16 (block_lt_of_cell c16) (by simp)
 clear hW c0 c1 c16
 go_wp2_with fail
 go_still_tail 12,(by kernel_rfl)
 change wpList _ _ _ _ _ W.drew
 go_wp2_with fail
 refine(HU _ fW.drew).mono ?_
 rintro e w2 ⟨rfl,hc2,x2'⟩
 have x2:FrX B Ts [] w w2:=(FrX.aA fW.drew).trans x2'
 have hT2:=HT.frx x2 (by decide) (by decide) (by decide)
 have c15:=hT2.cell.cell 15
 have z15:=hT2.cell.frozen 15
 simp[aO] at c15
 have hgl:=hT2.cell.lt
 have HT2:=hid hT2
 have HC2:=hid hc2
 have X2:=hid x2
 clear d0 d1 d16 hT2 hc2 x2 x2'
 go_wp2_with fail
 refine bodyPost_ret (results_none rfl _ _ _) rfl ?_
 rw[HS]
 have f3:Fr [g] w2 (w2.setCell ⟨g,15,none⟩ (.int .i64 1)):=rZ.setCell (by simp) _
 exact⟨rfl,⟨vo,vi,by simpa[aO] using HT2.cell.set 15 (.int .i64 1),ey HT2.ops f3 hg HT2.cell.ty (by decide),ey HT2.its f3 hg HT2.cell.ty (by decide),HT2.l1,HT2.l2⟩,eY HC2.out f3 hg HT2.cell.ty,(X2.mono (λ_ h=>h) (by simp)).trans (gX f3 hg)⟩
structure Ft (x:M.Core)(p:M.Place)(t:M.Task)(who:Int):Prop where
 h3:t.ax=3
 hiq:t.id=0
 hp:x.place=some p
 hal:p.alive=true
 hmc:M.mayCore x=true
 hm:M.fT x p.col t.q=true
 hit:(x.work t.q).2.items.length<=20
def vI (B g xp:Nat)(who:Int)(t:M.Task)(k:Cf)(r:M.Core × M.aU)(w:World)(s2 s3:Value)(wc:World):Prop :=
 ∃ b,s2 = .pointer (some ⟨b,0,none⟩)/\w.heap.size<=b/\Holds wc b 55 (Ev.rsc r.2 (.slice none 0 0)).toArray/\Ev.aV wc B s3 r.2.items/\aF wc B xp k r.1/\cU wc B g xp who t/\FrX B Ts [] w wc
theorem pD {w W w2:World}{B g xp:Nat}{who:Int}{t:M.Task}{k:Cf}{r:M.Core × M.aU}{vo vi v:Value}(fW:Fr [] w W)(hv:Ev.aV w2 B v r.2.items)(hc:aF w2 B xp k r.1)(hx:FrX B Ts [] W w2)(hT:cY w B g xp who t vo vi) :
  w.heap.size<=w2.heap.size/\Holds (w2.alloc (.cells (Ev.rsc r.2 (.slice none 0 0)).toArray 55)) w2.heap.size 55 (Ev.rsc r.2 (.slice none 0 0)).toArray/\Ev.aV (w2.alloc (.cells (Ev.rsc r.2 (.slice none 0 0)).toArray 55)) B v r.2.items/\aF (w2.alloc (.cells (Ev.rsc r.2 (.slice none 0 0)).toArray 55)) B xp k r.1/\cU (w2.alloc (.cells (Ev.rsc r.2 (.slice none 0 0)).toArray 55)) B g xp who t/\FrX B Ts [] w (w2.alloc (.cells (Ev.rsc r.2 (.slice none 0 0)).toArray 55)):=by
 have f:Fr [] w2 (w2.alloc (.cells (Ev.rsc r.2 (.slice none 0 0)).toArray 55)):=rZ.alloc _
 exact⟨Nat.le_trans fW.size hx.size,Holds.new _ _ _,Own.fr0 hv f,hc.fr0 f,⟨vo,vi,((hT.fr0 fW).frx hx (by decide) (by decide) (by decide)).fr0 f⟩,((FrX.aA fW).trans hx).trans (FrX.aA f)⟩
theorem oq {w W w2:World}{B g xp:Nat}{who:Int}{t:M.Task}{k:Cf}{r:M.Core × M.aU}{vo vi v:Value}{o:Obj}(fW:Fr [] w W)(hv:Ev.aV w2 B v r.2.items)(hc:aF w2 B xp k r.1)(hx:FrX B Ts [] (W.alloc o) w2)(ho:o = .cells (Ev.rsc { kind:=0 } (.slice none 0 0)).toArray 55)(hB:B<=w.heap.size)(hT:cY w B g xp who t vo vi) :
  w.heap.size<=W.heap.size/\Holds (Ev.eD w2 W.heap.size 0 r.2 (.slice none 0 0)) W.heap.size 55 (Ev.rsc r.2 (.slice none 0 0)).toArray/\Ev.aV (Ev.eD w2 W.heap.size 0 r.2 (.slice none 0 0)) B v r.2.items/\aF (Ev.eD w2 W.heap.size 0 r.2 (.slice none 0 0)) B xp k r.1/\cU (Ev.eD w2 W.heap.size 0 r.2 (.slice none 0 0)) B g xp who t/\FrX B Ts [] w (Ev.eD w2 W.heap.size 0 r.2 (.slice none 0 0)):=by
 subst ho
 have bx:=(Holds.new W 55 (Ev.rsc { kind:=0 } (.slice none 0 0)).toArray).frx hx (by decide) (by simp)
 have f1:Fr [] w (W.alloc (.cells (Ev.rsc { kind:=0 } (.slice none 0 0)).toArray 55)):=fW.alloc _
 have x8:FrX B [55] [] w2 (Ev.eD w2 W.heap.size 0 r.2 (.slice none 0 0)):=Ev.gi (Nat.le_trans hB fW.size) bx.ty (by simp)
 exact⟨fW.size,Ev.eC bx,hv.bf x8 (by decide),hc.frx x8 (by decide),⟨vo,vi,((hT.fr0 f1).frx hx (by decide) (by decide) (by decide)).frx x8 (by decide) (by decide) (by decide)⟩,Ev.kF ((FrX.aA f1).trans hx) fW.size⟩
theorem lZ {w':World}{B g xp:Nat}{who:Int}{t:M.Task}{vo vi:Value}(h:cY w' B g xp who t vo vi)(hiq:t.id=0):w'.cell? ⟨g,0,none⟩=some (.pointer (some ⟨xp,0,none⟩))/\w'.cell? ⟨g,16,none⟩=some (.int .i64 0)/\w'.cell? ⟨g,3,none⟩=some (.int .i64 t.q.kind)/\w'.cell? ⟨g,4,none⟩=some (.string t.q.aR)/\w'.cell? ⟨g,5,none⟩=some (.string t.q.col)/\w'.cell? ⟨g,6,none⟩=some (.string t.q.uid)/\w'.cell? ⟨g,7,none⟩=some (.string t.q.au)/\w'.cell? ⟨g,8,none⟩=some (.int .i64 t.q.ck)/\w'.cell? ⟨g,9,none⟩=some (.int .i64 t.q.cv)/\w'.cell? ⟨g,10,none⟩=some vo/\w'.cell? ⟨g,11,none⟩=some (.int .i64 t.q.token)/\w'.cell? ⟨g,12,none⟩=some (.int .i64 t.q.aD)/\w'.cell? ⟨g,13,none⟩=some (.int .i64 t.q.bj):=by
 refine⟨by simpa[aO] using h.cell.cell 0,by simpa[aO,hiq] using h.cell.cell 16,by simpa[aO] using h.cell.cell 3,by simpa[aO] using h.cell.cell 4,by simpa[aO] using h.cell.cell 5,by simpa[aO] using h.cell.cell 6,by simpa[aO] using h.cell.cell 7,by simpa[aO] using h.cell.cell 8,by simpa[aO] using h.cell.cell 9,by simpa[aO] using h.cell.cell 10,by simpa[aO] using h.cell.cell 11,by simpa[aO] using h.cell.cell 12,by simpa[aO] using h.cell.cell 13⟩
theorem zr {w W w2:World}{B g xp:Nat}{who:Int}{t:M.Task}{k:Cf}{r:M.Core × M.aU}{vo vi v:Value}(fW:Fr [] w W)(hv:Ev.aV w2 B v r.2.items)(hc:aF w2 B xp k r.1)(hx:FrX B Ts [] W w2)(hT:cY w B g xp who t vo vi) :
  vI B g xp who t k r w (.pointer (some ⟨w2.heap.size,0,none⟩)) v (w2.alloc (.cells #[.int .i64 r.2.kind,.int .i64 r.2.err,.int .i64 r.2.token,.int .i64 r.2.version,.string r.2.au,.int .i64 r.2.index,.bool r.2.more,.slice none 0 0] 55)) :=
 ⟨_,rfl,pD fW hv hc hx hT⟩
theorem zq {w W w2:World}{B g xp n:Nat}{who:Int}{t:M.Task}{k:Cf}{r:M.Core × M.aU}{vo vi v:Value}(hn:n=W.heap.size)(fW:Fr [] w W)(hv:Ev.aV w2 B v r.2.items)(hc:aF w2 B xp k r.1)(hx:FrX B Ts [] (W.alloc (.cells (Ev.rsc { kind:=0 } (.slice none 0 0)).toArray 55)) w2)(hB:B<=w.heap.size)(hT:cY w B g xp who t vo vi) :
  vI B g xp who t k r w (.pointer (some ⟨n,0,none⟩)) v ((((((((w2.setCell ⟨n,0,none⟩ (.int .i64 r.2.kind)).setCell ⟨n,1,none⟩ (.int .i64 r.2.err)).setCell ⟨n,2,none⟩ (.int .i64 r.2.token)).setCell ⟨n,3,none⟩ (.int .i64 r.2.version)).setCell ⟨n,4,none⟩ (.string r.2.au)).setCell ⟨n,5,none⟩ (.int .i64 r.2.index)).setCell ⟨n,6,none⟩ (.bool r.2.more)).setCell ⟨n,7,none⟩ (.slice none 0 0)):=by
 subst hn
 exact⟨_,rfl,oq fW hv hc hx rfl hB hT⟩
theorem vH {w wc W1:World}{B g xp b:Nat}{who:Int}{t:M.Task}{k:Cf}{r:M.Core × M.aU}{vo1 vi1:Value}{a3:Option Addr}{c3:Nat}(hW:W1=wc.setCell ⟨b,7,none⟩ (.slice a3 r.2.items.length c3))(hB:B<=w.heap.size)(hbw:w.heap.size<=b)
  (hb:Holds wc b 55 (Ev.rsc r.2 (.slice none 0 0)).toArray) (hi:Ev.aV wc B (.slice a3 r.2.items.length c3) r.2.items) (hc:aF wc B xp k r.1) (hT:cY wc B g xp who t vo1 vi1) (hx:FrX B Ts [] w wc) :
  Holds W1 b 55 (Ev.rsc r.2 (.slice a3 r.2.items.length c3)).toArray/\cY W1 B g xp who t vo1 vi1/\aF W1 B xp k r.1/\Ev.aV W1 B (.slice a3 r.2.items.length c3) r.2.items/\FrX B Ts [] w W1:=by
 have x1:FrX B [55] [] wc W1:=by
  rw[hW]
  exact FrX.aB ((Fr.refl [b] wc).setCell (by simp) _) (by simp;omega) (λy hy=>⟨55,by simp,by simp at hy;subst hy;exact hb.ty⟩)
 refine⟨?_,hT.frx x1 (by decide) (by decide) (by decide),hc.frx x1 (by decide),hi.bf x1 (by decide),?_⟩
 ·rw[hW];simpa[Ev.rsc] using hb.set 7 (.slice a3 r.2.items.length c3)
 rw[hW];exact hx.aw hbw _
theorem my {w W w':World}{B g xp:Nat}{who s:Int}{t:M.Task}{k:Cf}{x:M.Core}{r:M.Core × M.aU}{vo1 vi1 v:Value}(hg:B<=g)(hs:t.step x who=(r.1,t.settle r.2 s))(hT:cY W B g xp who t vo1 vi1)(hc:aF W B xp k r.1)(hx:FrX B Ts [] w W)(h3:cY w' B g xp who (t.settle r.2 s) vo1 v)(f3:Fr [g] W w') :
  Stepped w B g xp who k (t.step x who) w':=by
 rw[hs]
 exact⟨⟨vo1,v,h3⟩,eY hc f3 hg hT.cell.ty,(hx.mono (λ_ h=>h) (by simp)).trans (gX f3 hg)⟩
theorem Cz (w:World)(B g xp:Nat)(who:Int)(t:M.Task)(vo vi:Value)(k:Cf)(x:M.Core)(p:M.Place)(h:cY w B g xp who t vo vi)(hc:aF w B xp k x)(hg:B<=g)(hxp:B<=xp)(hB:B<=w.heap.size)(hm:Ft x p t who) :
  Calls prog 86 #[.pointer (some ⟨g,0,none⟩)] w λe w'=>e = .returned (.tuple #[])/\Stepped w B g xp who k (t.step x who) w':=by
 have HS:=hid (qU t x who hm.h3)
 have hsa:x.alive t.id=true:=by simp[M.Core.alive,hm.hp,hm.hiq,hm.hal]
 have c0:=h.cell.cell 0
 have c1:=h.cell.cell 1
 have c16:=h.cell.cell 16
 have c3:=h.cell.cell 3
 have c4:=h.cell.cell 4
 have c5:=h.cell.cell 5
 have c6:=h.cell.cell 6
 have c7:=h.cell.cell 7
 have c8:=h.cell.cell 8
 have c9:=h.cell.cell 9
 have c10:=h.cell.cell 10
 have c11:=h.cell.cell 11
 have c12:=h.cell.cell 12
 have c13:=h.cell.cell 13
 simp[aO,hm.hiq] at c0 c1 c16 c3 c4 c5 c6 c7 c8 c9 c10 c11 c12 c13
 have HA:=hid (λW (f:Fr [] w W)=>py W B xp k x p (hc.fr0 f) hm.hp)
 rw[hm.hal] at HA
 have HW:=hid (λW (f:Fr [] w W)=>zv W B xp k x p t.q vo (hc.fr0 f) hxp (by have:=f.size;omega) hm.hp hm.hal (Own.fr0 h.ops f) hm.hmc hm.hm)
 have HT:=hid h
 have hgl:=h.cell.lt
 clear h hc
 go_enter func86,ntmps86
 go_wp2_with fail
 go_quiet ((go_at_call 115;exact bB (HA _ (by first|exact rZ.drewN _|exact rZ.drew|exact rZ))))
 obtain⟨W,hW⟩:∃ W,W=w.drewN nq:=⟨_,rfl⟩
 have fW:Fr [] w W:=by rw[hW];exact rZ.drewN _
 rw[<-hW]
 have d0:=fW.cell c0 (block_lt_of_cell c0) (by simp)
 have d1:=fW.cell c1 (block_lt_of_cell c1) (by simp)
 have d16:=fW.cell c16 (block_lt_of_cell c16) (by simp)
 have d3:=fW.cell c3 (block_lt_of_cell c3) (by simp)
 have d4:=fW.cell c4 (block_lt_of_cell c4) (by simp)
 have d5:=fW.cell c5 (block_lt_of_cell c5) (by simp)
 have d6:=fW.cell c6 (block_lt_of_cell c6) (by simp)
 have d7:=fW.cell c7 (block_lt_of_cell c7) (by simp)
 have d8:=fW.cell c8 (block_lt_of_cell c8) (by simp)
 have d9:=fW.cell c9 (block_lt_of_cell c9) (by simp)
 have d10:=fW.cell c10 (block_lt_of_cell c10) (by simp)
 have d11:=fW.cell c11 (block_lt_of_cell c11) (by simp)
 have d12:=fW.cell c12 (block_lt_of_cell c12) (by simp)
 have d13:=fW.cell c13 (block_lt_of_cell c13) (by simp)
 have hgW:=Nat.lt_of_lt_of_le hgl fW.size
 clear hW c0 c1 c16 c3 c4 c5 c6 c7 c8 c9 c10 c11 c12 c13 hgl HA
 obtain⟨r,hr⟩:∃ r,x.work t.q=r:=⟨_,rfl⟩
 have HR:=hid hr
 rw[hr] at HW HS
 simp only[Ev.rsc] at HW
 clear hr
 go_wp2_with fail
 go_cut [2,3] from 5 (λs2 s3 wc=>vI B g xp who t k r w s2 s3 wc)
 case first =>
  go_region_held3 (λw'=>w'.cell? ⟨g,0,none⟩=some (.pointer (some ⟨xp,0,none⟩))/\w'.cell? ⟨g,16,none⟩=some (.int .i64 0)/\w'.cell? ⟨g,3,none⟩=some (.int .i64 t.q.kind)/\w'.cell? ⟨g,4,none⟩=some (.string t.q.aR)/\w'.cell? ⟨g,5,none⟩=some (.string t.q.col)/\w'.cell? ⟨g,6,none⟩=some (.string t.q.uid)/\w'.cell? ⟨g,7,none⟩=some (.string t.q.au)/\w'.cell? ⟨g,8,none⟩=some (.int .i64 t.q.ck)/\w'.cell? ⟨g,9,none⟩=some (.int .i64 t.q.cv)/\w'.cell? ⟨g,10,none⟩=some vo/\w'.cell? ⟨g,11,none⟩=some (.int .i64 t.q.token)/\w'.cell? ⟨g,12,none⟩=some (.int .i64 t.q.aD)/\w'.cell? ⟨g,13,none⟩=some (.int .i64 t.q.bj)) (first|with_reducible exact hS|exact hP|go_keep)
   (first
    | (go_at_call 116;refine(HW _ fW.drew).mono ?_;rintro e w2 ⟨v,rfl,hv,hc2,x2'⟩;have hT2:=(HT.fr0 fW.drew).frx x2' (by decide) (by decide) (by decide);have hS:=lZ hT2 hm.hiq;have HV:=hid hv;have HC:=hid hc2;have HX:=hid x2';clear hv hc2 x2')
    | (go_at_call 116;refine(HW _ (fW.drew.alloc _)).mono ?_;rintro e w2 ⟨v,rfl,hv,hc2,x2'⟩;have hT2:=(HT.fr0 (fW.drew.alloc _)).frx x2' (by decide) (by decide) (by decide);have hS:=lZ hT2 hm.hiq;have bx:=(Holds.new W.drew 55 (Ev.rsc { kind:=0 } (.slice none 0 0)).toArray).frx x2' (by decide) (by simp);have hP:=lZ (hT2.frx (Ev.gi (o:=0) (a:=r.2) (v:=.slice none 0 0) (Ts:=[55]) (Nat.le_trans hB fW.size:B<=W.drew.heap.size) bx.ty (by simp)) (by decide) (by decide) (by decide)) hm.hiq;have bl:=bx.lt;have e0:=bx.cell 0;have z0:=bx.frozen 0;have e1:=bx.cell 1;have z1:=bx.frozen 1;have e2:=bx.cell 2;have z2:=bx.frozen 2;have e3:=bx.cell 3;have z3:=bx.frozen 3;have e4:=bx.cell 4;have z4:=bx.frozen 4;have e5:=bx.cell 5;have z5:=bx.frozen 5;have e6:=bx.cell 6;have z6:=bx.frozen 6;have e7:=bx.cell 7;have z7:=bx.frozen 7;simp[Ev.rsc] at bl e0 z0 e1 z1 e2 z2 e3 z3 e4 z4 e5 z5 e6 z6 e7 z7;have HV:=hid hv;have HC:=hid hc2;have HX:=hid x2';clear hv hc2 x2'))
  ·go_wp2_with fail
   go_meet
   exact zr fW.drew HV HC HX HT
  go_wp2_with fail
  go_meet
  exact zq (W:=W.drew) rfl fW.drew HV HC HX hB HT
 case rest =>
  obtain⟨b,rfl,hbw,hb,hi,hc,⟨vo1,vi1,hT1⟩,hx⟩:=hcut
  obtain⟨a3,c3,hu3⟩:=Own.form hi
  subst hu3
  have hgb:g≠b:=hT1.cell.ne hb (by decide)
  have hbg:b≠g:=Ne.symm hgb
  obtain⟨W1,hW1⟩:∃ W1,W1=wc.setCell ⟨b,7,none⟩ (.slice a3 r.2.items.length c3):=⟨_,rfl⟩
  obtain⟨b1,T1,C1,I1,X1⟩:=vH hW1 hB hbw hb hi hc hT1 hx
  obtain⟨e0,e1,e2,e3,e4,e5,e6,e7⟩:=hb.cs8
  have z7:=hb.frozen 7
  have hbl:=hb.lt
  have g3:=hT1.cell.cell 3
  have g27:=hT1.cell.cell 27
  simp[aO] at g3 g27
  simp[Ev.rsc] at e0 e1 e2 e3 e4 e5 e6 e7
  have HB1:=hid b1
  have HT1:=hid T1
  have HC1:=hid C1
  have HI1:=hid I1
  have HX1:=hid X1
  have HSA:=hid hsa
  have HLI:=hid (show r.2.items.length<=20 by rw[<-HR];exact hm.hit)
  have HMC:=hid hm.hmc
  have HID:=hid hm.hiq
  have hin:(r.2.items.length:Int)<=20:=by have:=HLI.out;omega
  have hwl:=hT1.cell.lt
  clear hb hi hc hT1 hx b1 T1 C1 I1 X1 hsa hm HW HT d0 d1 d16 d3 d4 d5 d6 d7 d8 d9 d10 d11 d12 d13
  by_cases h9:t.q.kind=9/\r.2.err=15
  ·obtain⟨h9,h15⟩:=h9
   have hr1:r.1=x:=by rw[<-HR];exact Fu x t.q h9
   rw[h9] at g3
   rw[h15] at e1
   have HS1:=hid (show t.step x who=if x.now >= t.deadline then (r.1,t.settle r.2 6) else (r.1.sleep who 0 t.deadline,{ t with ax:=6 }) by
    rw[HS,if_neg (by rw[HSA];simp),if_pos (by simp[h9,h15]),HID.out])
   have H9:=hid h9
   clear h9 h15 HS
   go_wp2_with fail
   rw[<-hW1]
   have p0:=HT1.cell.cell 0
   have p1:=HT1.cell.cell 1
   have p14:=HT1.cell.cell 14
   have p16:=HT1.cell.cell 16
   simp[aO,HID.out] at p0 p1 p14 p16
   have HN:=hid (λW (f:Fr [] W1 W)=>mK W B xp k r.1 (HC1.fr0 f))
   clear e0 e1 e2 e3 e4 e5 e6 e7 z7 hbl g3 g27 hW1
   go_quiet ((go_at_call 107;exact bB (HN _ (by first|exact rZ.drewN _|exact rZ.drew|exact rZ))))
   obtain⟨W2,hW2⟩:∃ W2,W2=W1.drewN nq:=⟨_,rfl⟩
   have fW2:Fr [] W1 W2:=by rw[hW2];exact rZ.drewN _
   rw[<-hW2]
   clear hW2
   have q0:=fW2.cell p0 (block_lt_of_cell p0) (by simp)
   have q1:=fW2.cell p1 (block_lt_of_cell p1) (by simp)
   have q14:=fW2.cell p14 (block_lt_of_cell p14) (by simp)
   have q16:=fW2.cell p16 (block_lt_of_cell p16) (by simp)
   rw[hr1] at HN ⊢
   clear p0 p1 p14 p16
   have B2:=hid (HB1.fr fW2 (by simp))
   have T2:=hid (HT1.fr0 fW2)
   have C2:=hid (HC1.fr0 fW2)
   have I2:=hid (Own.fr0 HI1 fW2)
   have X2:=hid (HX1.trans (FrX.aA fW2))
   refine(Decidable.em (x.now >= t.deadline)).elim (λhd=>?_) (λhd=>?_)
   ·have hbd:¬ x.now<t.deadline:=by omega
    have HS2:=hid (HS1.trans (if_pos hd))
    clear hd
    obtain⟨e0,e1,e2,e3,e4,e5,e6,e7⟩:=B2.cs8
    simp[Ev.rsc] at e0 e1 e2 e3 e4 e5 e6 e7
    go_wp2_with fail
    refine(iR W2 B g xp who 6 t r.2 vo1 vi1 _ T2 hg I2 HLI).mono ?_
    rintro e w3 ⟨rfl,h3,f3⟩
    have HE:=hid (my hg HS2 T2 C2 X2 h3 f3)
    clear e0 e1 e2 e3 e4 e5 e6 e7 h3 f3
    go_wp2_with fail
    first
     | exact bodyPost_ret (results_none rfl _ _ _) rfl ⟨rfl,HE.out⟩
     | exact bodyPost_end (results_none rfl _ _ _) rfl ⟨rfl,HE.out⟩
   have hbd:x.now<t.deadline:=by omega
   have HS2:=hid (HS1.trans (if_neg hd))
   clear hd
   obtain⟨hh,ha⟩:x.hub.length<=90/\x.ct.length<=90:=by
    have:=jP HMC
    omega
   have hB2:B<=W2.drew.heap.size:=Nat.le_trans hB X2.size
   have HSL:=hid (xa W2.drew B xp k r.1 who t.deadline (C2.fr0 rZ.drew) hB2 (by rw[hr1];exact hh) (by rw[hr1];exact ha))
   clear hh ha hB2
   go_wp2_with fail
   go_still_tail 16,(by kernel_rfl)
   change wpList _ _ _ _ _ W2.drew
   go_wp2_with fail
   refine HSL.mono ?_
   rintro e w3 ⟨rfl,hc3,x3⟩
   have hT3:=(T2.fr0 rZ.drew).frx x3 (by decide) (by decide) (by decide)
   have c15:=hT3.cell.cell 15
   have z15:=hT3.cell.frozen 15
   simp[aO] at c15
   have hgl:=hT3.cell.lt
   have HT3:=hid hT3
   have HC3:=hid hc3
   have X3:=hid ((X2.trans (FrX.aA rZ.drew)).trans x3)
   clear hT3 hc3 x3 q0 q1 q14 q16
   go_wp2_with fail
   have f4:Fr [g] w3 (w3.setCell ⟨g,15,none⟩ (.int .i64 6)):=rZ.setCell (by simp) _
   have HE:Stepped w B g xp who k (t.step x who) (w3.setCell ⟨g,15,none⟩ (.int .i64 6)):=by
    rw[HS2]
    exact⟨⟨vo1,vi1,by simpa[aO] using HT3.cell.set 15 (.int .i64 6),ey HT3.ops f4 hg HT3.cell.ty (by decide),ey HT3.its f4 hg HT3.cell.ty (by decide),HT3.l1,HT3.l2⟩,eY HC3.out f4 hg HT3.cell.ty,(X3.mono (λ_ h=>h) (by simp)).trans (gX f4 hg)⟩
   first
    | exact bodyPost_ret (results_none rfl _ _ _) rfl ⟨rfl,HE⟩
    | exact bodyPost_end (results_none rfl _ _ _) rfl ⟨rfl,HE⟩
  obtain⟨s,hs,hstp⟩:∃ s,(s=if t.q.kind=7/\r.2.err=0 then (4:Int) else if 0<r.2.items.length then 5 else 6)/\t.step x who=(r.1,t.settle r.2 s):=by
   refine⟨_,rfl,?_⟩
   rw[HS,if_neg (by rw[HSA];simp),if_neg (by simpa using h9)]
   by_cases h7:t.q.kind=7/\r.2.err=0
   ·rw[if_pos (by simpa using h7),if_pos h7]
   rw[if_neg (by simpa using h7),if_neg h7]
   split<;>rfl
  have HSet:=hid (iR W1 B g xp who s t r.2 vo1 vi1 _ HT1 hg HI1 HLI)
  have HE:=hid (λ(w3:World) h3 f3=>my (w':=w3) (v:=.slice a3 r.2.items.length c3) hg hstp HT1 HC1 HX1 h3 f3)
  have HSt:=hid hs
  clear hstp hs HS
  have hfin:∀ (a:Act) (w3:World),a.defers=[]->Stepped w B g xp who k (t.step x who) w3->bodyPost prog f86 (λe w'=>e = .returned (.tuple #[])/\Stepped w B g xp who k (t.step x who) w') .normal a w3:=λa w3 hd hst=>bodyPost_end (results_none rfl _ _ _) hd ⟨rfl,hst⟩
  have HF:=hid hfin
  clear hfin
  by_cases h7:t.q.kind=7/\r.2.err=0
  ·obtain⟨h7,h0⟩:=h7
   have hs4:s=4:=by rw[HSt,if_pos ⟨h7,h0⟩]
   subst hs4
   have ke:(r.2.err==0)=true:=by simpa using h0
   rw[h7] at g3
   clear h7 h0 h9
   go_wp2_with fail
   rw[<-hW1]
   refine HSet.mono ?_
   rintro e w3 ⟨rfl,h3,f3⟩
   have HE3:=hid (HE.out w3 h3 f3)
   clear h3 f3
   go_wp2_with fail
   exact HF _ _ rfl HE3
  have hs5:s=if 0<r.2.items.length then 5 else 6:=by rw[HSt,if_neg h7]
  have hit:(¬ 0<(r.2.items.length:Int)/\s=6)∨(0<(r.2.items.length:Int)/\s=5):=by
   rcases Nat.eq_zero_or_pos r.2.items.length with h|h
   ·exact .inl ⟨by omega,by rw[hs5,if_neg (by omega)]⟩
   exact .inr ⟨by omega,by rw[hs5,if_pos h]⟩
  have htst:(t.q.kind=9/\(r.2.err==15)=false)∨(t.q.kind=7/\(r.2.err==0)=false)∨((t.q.kind==9)=false/\(t.q.kind==7)=false):=by
   by_cases k9:t.q.kind=9
   ·exact .inl ⟨k9,by simpa using λe=>h9 ⟨k9,e⟩⟩
   by_cases k7:t.q.kind=7
   ·exact .inr (.inl ⟨k7,by simpa using λe=>h7 ⟨k7,e⟩⟩)
   exact .inr (.inr ⟨by simpa using k9,by simpa using k7⟩)
  clear hs5 h7 h9
  rcases htst with⟨k9,ke⟩|⟨k7,ke⟩|⟨k9,k7⟩
  case' inl=>rw[k9] at g3
  case' inr.inl=>rw[k7] at g3
  case' inr.inr=>skip
  all_goals
   rcases hit with⟨hpos,rfl⟩|⟨hpos,rfl⟩
   all_goals
    go_wp2_with fail
    rw[<-hW1]
    refine HSet.mono ?_
    rintro e w3 ⟨rfl,h3,f3⟩
    have HE3:=hid (HE.out w3 h3 f3)
    clear h3 f3
    go_wp2_with fail
    exact HF _ _ rfl HE3
theorem mS (w:World)(k:Int):Calls prog 85 #[.int .i64 k] w λe w'=>e = .returned (.bool (M.writes k))/\w=w':=by
 by_cases h2:k=2
 ·subst h2
  go_enter func85,ntmps85
  go_wp2_with fail
  go_ret
  exact⟨rfl,rfl⟩
 by_cases h3:k=3
 ·subst h3
  go_enter func85,ntmps85
  go_wp2_with fail
  go_ret
  exact⟨rfl,rfl⟩
 by_cases h4:k=4
 ·subst h4
  go_enter func85,ntmps85
  go_wp2_with fail
  go_ret
  exact⟨rfl,rfl⟩
 by_cases h5:k=5
 ·subst h5
  go_enter func85,ntmps85
  go_wp2_with fail
  go_ret
  exact⟨rfl,rfl⟩
 by_cases h7:k=7
 ·subst h7
  go_enter func85,ntmps85
  go_wp2_with fail
  go_ret
  exact⟨rfl,rfl⟩
 have b2:(k==2)=false:=by simpa using h2
 have b3:(k==3)=false:=by simpa using h3
 have b4:(k==4)=false:=by simpa using h4
 have b5:(k==5)=false:=by simpa using h5
 have b7:(k==7)=false:=by simpa using h7
 have HE:=hid (show M.writes k=false by simp[M.writes,b2,b3,b4,b5,b7])
 clear h2 h3 h4 h5 h7
 go_enter func85,ntmps85
 go_wp2_with fail
 go_ret
 exact⟨by rw[HE];rfl,rfl⟩
theorem fH {w W:World}{B g xp:Nat}{who s:Int}{t:M.Task}{k:Cf}{x:M.Core}{vo vi:Value}(hT:cY W B g xp who t vo vi)(hc:aF W B xp k x)(hx:FrX B Ts [g] w W)(hg:B<=g) :
  Stepped w B g xp who k (x,{ t with ax:=s }) (W.setCell ⟨g,15,none⟩ (.int .i64 s)):=by
 have f3:Fr [g] W (W.setCell ⟨g,15,none⟩ (.int .i64 s)):=rZ.setCell (by simp) _
 exact⟨⟨vo,vi,by simpa[aO] using hT.cell.set 15 (.int .i64 s),ey hT.ops f3 hg hT.cell.ty (by decide),ey hT.its f3 hg hT.cell.ty (by decide),hT.l1,hT.l2⟩,eY hc f3 hg hT.cell.ty,hx.trans (gX f3 hg)⟩
theorem nf {w w1 w2:World}{B g xp:Nat}{who:Int}{k:Cf}{r:M.Core × M.Task}(f:Fr [] w w1)(h:Stepped w1 B g xp who k r w2):Stepped w B g xp who k r w2 :=
 ⟨h.1,h.2.1,(FrX.aA f).trans h.2.2⟩
theorem wV (w:World)(B g xp:Nat)(who:Int)(t:M.Task)(k:Cf)(x:M.Core)(h:cU w B g xp who t)(hc:aF w B xp k x)(hmc:M.eo x t=true)(hs:t.ax=1)
  (hsk:∀ W,Fr [] w W->Calls prog 83 #[.pointer (some ⟨g,0,none⟩)] W λe w'=>e = .returned (.tuple #[])/\Stepped W B g xp who k (t.step x who) w') :
  Calls prog 46 #[.pointer (some ⟨g,0,none⟩)] w λe w'=>e = .returned (.bool true)/\Stepped w B g xp who k (t.step x who) w':=by
 have hcan:t.can x who=true:=by simp[M.Task.can,hs]
 have HC:=hid (ef w B g xp who t k x h hc hmc)
 rw[hcan] at HC
 have HT:=hid h
 have HK:=hid hsk
 have HST:=hid hs
 clear h hc hmc hs hcan hsk
 generalize t.step x who=r at *
 go_enter func46,ntmps46
 go_wp2_with fail
 refine uu HC λw1 f1=>?_
 obtain⟨vo,vi,hT⟩:=HT.out
 have c15:=(hT.fr0 f1).cell.cell 15
 simp[aO,HST.out] at c15
 have HK1:=hid (HK w1 f1)
 have F1:=hid f1
 clear hT f1
 go_wp2_with fail
 refine uu HK1 λw2 h2=>?_
 have H2:=hid (nf F1 h2)
 clear h2
 go_wp2_with fail
 go_ret
 exact⟨rfl,H2⟩
theorem zO (w:World)(B g xp:Nat)(who:Int)(t:M.Task)(k:Cf)(x:M.Core)(h:cU w B g xp who t)(hc:aF w B xp k x)(hmc:M.eo x t=true)(hs:t.ax=3)(hcan:t.can x who=true)
  (hsk:∀ W,Fr [] w W->Calls prog 86 #[.pointer (some ⟨g,0,none⟩)] W λe w'=>e = .returned (.tuple #[])/\Stepped W B g xp who k (t.step x who) w') :
  Calls prog 46 #[.pointer (some ⟨g,0,none⟩)] w λe w'=>e = .returned (.bool true)/\Stepped w B g xp who k (t.step x who) w':=by
 have HC:=hid (ef w B g xp who t k x h hc hmc)
 rw[hcan] at HC
 have HT:=hid h
 have HK:=hid hsk
 have HST:=hid hs
 clear h hc hmc hs hcan hsk
 generalize t.step x who=r at *
 go_enter func46,ntmps46
 go_wp2_with fail
 refine uu HC λw1 f1=>?_
 obtain⟨vo,vi,hT⟩:=HT.out
 have c15:=(hT.fr0 f1).cell.cell 15
 simp[aO,HST.out] at c15
 have HK1:=hid (HK w1 f1)
 have F1:=hid f1
 clear hT f1
 go_wp2_with fail
 refine uu HK1 λw2 h2=>?_
 have H2:=hid (nf F1 h2)
 clear h2
 go_wp2_with fail
 go_ret
 exact⟨rfl,H2⟩
theorem wW (w:World)(B g xp:Nat)(who:Int)(t:M.Task)(k:Cf)(x:M.Core)(h:cU w B g xp who t)(hc:aF w B xp k x)(hg:B<=g)(hB:B<=w.heap.size)(hmc:M.eo x t=true)(hs:t.ax=7)(hcan:t.can x who=true)(hh:x.hub.length<=90) :
  Calls prog 46 #[.pointer (some ⟨g,0,none⟩)] w λe w'=>e = .returned (.bool true)/\Stepped w B g xp who k (t.step x who) w':=by
 have HE:=hid (show t.step x who=(x.EK who,{ t with ax:=1 }) by simp[M.Task.step,hs])
 have HC:=hid (ef w B g xp who t k x h hc hmc)
 rw[hcan] at HC
 have HT:=hid h
 have HST:=hid hs
 have HR:=hid (λW (f:Fr [] w W)=>ny W B xp k x who (hc.fr0 f) (by have:=f.size;omega) (by omega))
 clear h hc hmc hs hcan
 go_enter func46,ntmps46
 go_wp2_with fail
 refine uu HC λw1 f1=>?_
 obtain⟨vo,vi,hT⟩:=HT.out
 have hT1:=hT.fr0 f1
 have c15:=hT1.cell.cell 15
 have c0:=hT1.cell.cell 0
 have c1:=hT1.cell.cell 1
 simp[aO,HST.out] at c15 c0 c1
 have HT1:=hid hT1
 have F1:=hid f1
 have HR1:=hid (HR w1.drew f1.drew)
 clear hT f1 hT1
 go_wp2_with fail
 go_still_tail 8,(by kernel_rfl)
 change wpList _ _ _ _ _ w1.drew
 go_wp2_with fail
 refine HR1.mono ?_
 rintro e w2 ⟨rfl,hc2,x2⟩
 have hT2:=(HT1.fr0 rZ.drew).frx x2 (by decide) (by decide) (by decide)
 have c15:=hT2.cell.cell 15
 have z15:=hT2.cell.frozen 15
 simp[aO] at c15
 have hgl:=hT2.cell.lt
 have HT2:=hid hT2
 have HC2:=hid hc2
 have X2:=hid (((FrX.aA F1.drew:FrX B Ts [] w w1.drew).trans x2).mono (S:=[g]) (λ_ h=>h) (by simp))
 clear hT2 hc2 x2 c0 c1
 go_wp2_with fail
 go_ret
 rw[HE]
 exact⟨rfl,fH HT2 HC2 X2 hg⟩
theorem tB (w:World)(B g xp:Nat)(who:Int)(t:M.Task)(k:Cf)(x:M.Core)(p:M.Place)(h:cU w B g xp who t)(hc:aF w B xp k x)(hg:B<=g)(hB:B<=w.heap.size)(hmc:M.eo x t=true)(hs:t.ax=2)(hiq:t.id=0)(hp:x.place=some p)(hlk:p.lock.an.length+p.lock.queue.length<=90) :
  Calls prog 46 #[.pointer (some ⟨g,0,none⟩)] w λe w'=>e = .returned (.bool true)/\Stepped w B g xp who k (t.step x who) w':=by
 have hcan:t.can x who=true:=by simp[M.Task.can,hs]
 have HE:=hid (show t.step x who=(x.lock 0 who (M.writes t.q.kind),{ t with ax:=3 }) by simp[M.Task.step,hs,hiq])
 have HC:=hid (ef w B g xp who t k x h hc hmc)
 rw[hcan] at HC
 have HT:=hid h
 have HST:=hid (And.intro hs hiq)
 have HW:=hid (λW=>mS W t.q.kind)
 have HL:=hid (λW b (f:Fr [] w W)=>Bg W B xp k x p who b (hc.fr0 f) hp (by have:=f.size;omega) (by omega))
 clear h hc hmc hs hcan hiq
 obtain⟨kd,hkd⟩:∃ kd,t.q.kind=kd:=⟨_,rfl⟩
 have HKD:=hid hkd
 rw[hkd] at HW HE
 clear hkd
 generalize M.writes kd=wt at *
 go_enter func46,ntmps46
 go_wp2_with fail
 refine uu HC λw1 f1=>?_
 obtain⟨vo,vi,hT⟩:=HT.out
 have hT1:=hT.fr0 f1
 have c15:=hT1.cell.cell 15
 have c0:=hT1.cell.cell 0
 have c1:=hT1.cell.cell 1
 have c3:=hT1.cell.cell 3
 have c16:=hT1.cell.cell 16
 simp[aO,HST.1,HST.2,HKD.out] at c15 c0 c1 c3 c16
 have HT1:=hid hT1
 have F1:=hid f1
 clear hT f1 hT1
 go_wp2_with fail
 go_region_held3 (λw'=>w'.cell? ⟨g,0,none⟩=some (.pointer (some ⟨xp,0,none⟩))/\w'.cell? ⟨g,1,none⟩=some (.int .i64 who)/\w'.cell? ⟨g,3,none⟩=some (.int .i64 kd)/\w'.cell? ⟨g,16,none⟩=some (.int .i64 0)) (first|go_keep|exact hS|(simpa[go_sem] using hS))
  (first
   | (go_at_call 85;refine(HW _).mono ?_;rintro e w2 ⟨rfl,rfl⟩)
   | (go_at_call 84;refine(HL _ _ (by first|exact F1.drewN _|exact F1.drew)).mono ?_;rintro e w3 ⟨⟨bb,rfl⟩,hc3,x3'⟩;have x3:FrX B Ts [] w w3:=(by first|exact(FrX.aA (F1.drewN _)).trans x3'|exact(FrX.aA F1.drew).trans x3');have hT3:=(HT1.frx (by first|exact(FrX.aA (rZ.drewN _)).trans x3'|exact(FrX.aA rZ.drew).trans x3') (by decide) (by decide) (by decide):cY w3 B g xp who t vo vi);have hS:=(⟨by simpa[aO] using hT3.cell.cell 0,by simpa[aO] using hT3.cell.cell 1,by simpa[aO,HKD.out] using hT3.cell.cell 3,by simpa[aO,HST.2] using hT3.cell.cell 16⟩:w3.cell? ⟨g,0,none⟩=some (.pointer (some ⟨xp,0,none⟩))/\w3.cell? ⟨g,1,none⟩=some (.int .i64 who)/\w3.cell? ⟨g,3,none⟩=some (.int .i64 kd)/\w3.cell? ⟨g,16,none⟩=some (.int .i64 0))))
 have d15:=hT3.cell.cell 15
 have z15:=hT3.cell.frozen 15
 simp[aO] at d15
 have hgl:=hT3.cell.lt
 have HT3:=hid hT3
 have HC3:=hid hc3
 have X3:=hid (x3.mono (S:=[g]) (λ_ h=>h) (by simp))
 clear hT3 hc3 x3 x3' c0 c1 c3 c16 c15 hS
 go_wp2_with fail
 go_ret
 rw[HE]
 exact⟨rfl,fH HT3 HC3 X3 hg⟩
theorem rV {W:World}{B g xp:Nat}{who n:Int}{t:M.Task}{k:Cf}{x:M.Core}{vo vi:Value}(hT:cY W B g xp who t vo vi)(hc:aF W B xp k x)(hg:B<=g) :
  cY (W.setCell ⟨g,26,none⟩ (.int .i64 n)) B g xp who { t with next:=n } vo vi/\aF (W.setCell ⟨g,26,none⟩ (.int .i64 n)) B xp k x/\FrX B Ts [g] W (W.setCell ⟨g,26,none⟩ (.int .i64 n)):=by
 have f3:Fr [g] W (W.setCell ⟨g,26,none⟩ (.int .i64 n)):=rZ.setCell (by simp) _
 exact⟨⟨by simpa[aO] using hT.cell.set 26 (.int .i64 n),ey hT.ops f3 hg hT.cell.ty (by decide),ey hT.its f3 hg hT.cell.ty (by decide),hT.l1,hT.l2⟩,eY hc f3 hg hT.cell.ty,gX f3 hg⟩
theorem wX (w:World)(B g xp:Nat)(who:Int)(t:M.Task)(k:Cf)(x:M.Core)(h:cU w B g xp who t)(hc:aF w B xp k x)(hg:B<=g)(hmc:M.eo x t=true)(hs:t.ax=5)(hn0:0<=t.next)(hn1:t.next<=100) :
  Calls prog 46 #[.pointer (some ⟨g,0,none⟩)] w λe w'=>e = .returned (.bool true)/\Stepped w B g xp who k (t.step x who) w':=by
 have hcan:t.can x who=true:=by simp[M.Task.can,hs]
 have HC:=hid (ef w B g xp who t k x h hc hmc)
 rw[hcan] at HC
 obtain⟨vo,vi,hT⟩:=h
 obtain⟨av,cv,hvi⟩:=Own.form hT.its
 subst hvi
 have hl2:=hT.l2
 obtain⟨nx,hnx⟩:∃ nx,t.next=nx:=⟨_,rfl⟩
 obtain⟨len,hlen⟩:∃ len,t.aM.items.length=len:=⟨_,rfl⟩
 have HE:=hid (show t.step x who=(x,{ t with next:=nx+3,ax:=if nx+3 >= (len:Int) then 6 else 5 }) by rw[<-hnx,<-hlen];simp[M.Task.step,hs])
 have HT:=hid hT
 have HCo:=hid hc
 have HST:=hid (And.intro hs (And.intro hnx hlen))
 rw[hnx] at hn0 hn1
 rw[hlen] at hl2
 clear hc hmc hs hcan hT hnx hlen
 go_enter func46,ntmps46
 go_wp2_with fail
 refine uu HC λw1 f1=>?_
 have hT1:=HT.fr0 f1
 have c15:=hT1.cell.cell 15
 have c26:=hT1.cell.cell 26
 have c24:=hT1.cell.cell 24
 have z26:=hT1.cell.frozen 26
 simp[aO,HST.1,HST.2.1,HST.2.2] at c15 c26 c24
 have hgl:=hT1.cell.lt
 obtain⟨W,hW⟩:∃ W,W=w1.setCell ⟨g,26,none⟩ (.int .i64 (nx+3)):=⟨_,rfl⟩
 have N1:=hid (rV (n:=nx+3) hT1 (HCo.fr0 f1) hg)
 rw[<-hW] at N1
 have X1:=hid ((FrX.aA f1:FrX B Ts [g] w w1).trans N1.2.2)
 clear f1 hT1
 go_wp2_with fail
 rw[<-hW]
 have d26:=N1.1.cell.cell 26
 have d24:=N1.1.cell.cell 24
 simp[aO,HST.2.2] at d26 d24
 clear c15 c26 z26 c24 hW hgl
 go_quiet (fail)
 obtain⟨W2,hW2⟩:∃ W2,W2=W.drewN nq:=⟨_,rfl⟩
 have fW2:Fr [] W W2:=by rw[hW2];exact rZ.drewN _
 rw[<-hW2]
 have hT2:=N1.1.fr0 fW2
 have hC2:=N1.2.1.fr0 fW2
 have X2:=hid (X1.trans (FrX.aA fW2))
 have y15:=hT2.cell.cell 15
 have z15:=hT2.cell.frozen 15
 simp[aO,HST.1] at y15
 have hgl:=hT2.cell.lt
 have HT2:=hid hT2
 have HC2:=hid hC2
 clear hT2 hC2 hW2 fW2 d26 d24
 cases hb:decide (nx+3 >= (len:Int)) with
 | true =>
  have hge:=of_decide_eq_true hb
  have HGE:=hid (HE.trans (by rw[if_pos hge]))
  clear hge
  go_wp2_with fail
  go_ret
  rw[HGE]
  exact⟨rfl,fH (t:={ t with next:=nx+3 }) HT2 HC2 X2 hg⟩
 | false =>
  have hge:=of_decide_eq_false hb
  have HGE:=hid (HE.trans (by rw[if_neg hge]))
  clear hge
  go_wp2_with fail
  go_ret
  rw[HGE]
  have e5:({ t with next:=nx+3,ax:=5 } : M.Task)={ t with next:=nx+3 }:=by rw[<-HST.1]
  rw[e5]
  exact⟨rfl,⟨vo,_,HT2⟩,HC2,X2⟩
theorem tz (w:World)(B g xp:Nat)(who:Int)(t:M.Task)(k:Cf)(x:M.Core)(p:M.Place)(o:M.Op)(h:cU w B g xp who t)(hc:aF w B xp k x)(hg:B<=g)(hB:B<=w.heap.size)(hmc:M.eo x t=true)(hs:t.ax=4)(hiq:t.id=0)(hp:x.place=some p)(hn0:0<=t.next)(hn1:t.next<=100)
  (ho:t.q.ops[t.next.toNat]? = some o) (hap:M.cM p.col o t.aM.token=true) :
  Calls prog 46 #[.pointer (some ⟨g,0,none⟩)] w λe w'=>e = .returned (.bool true)/\Stepped w B g xp who k (t.step x who) w':=by
 have hcan:t.can x who=true:=by simp[M.Task.can,hs]
 have HC:=hid (ef w B g xp who t k x h hc hmc)
 rw[hcan] at HC
 obtain⟨vo,vi,hT⟩:=h
 obtain⟨nx,hnx⟩:∃ nx:Nat,t.next=(nx:Int):=⟨t.next.toNat,by omega⟩
 obtain⟨len,hlen⟩:∃ len,t.q.ops.length=len:=⟨_,rfl⟩
 obtain⟨tk,htk⟩:∃ tk,t.aM.token=tk:=⟨_,rfl⟩
 have hx:t.q.ops[nx]? = some o:=by rw[hnx] at ho;simpa using ho
 have hlt:(nx:Int)<(len:Int):=by have:=(List.getElem?_eq_some_iff.1 hx).1;omega
 have hl1:=hT.l1
 rw[hlen] at hl1
 have HE:=hid (show t.step x who=(x.gG 0 o tk,{ t with next:=(nx:Int)+1,ax:=if (nx:Int)+1=(len:Int) then 6 else 4 }) by
  rw[<-hnx,<-hlen,<-htk];simp[M.Task.step,hs,ho,hiq])
 have HA:=hid (λW (f:Fr [] w W)=>zn W B xp k x p o tk (hc.fr0 f) hp (by have:=f.size;omega) (λW2 cl hcl h1 h2=>by rw[htk] at hap;exact Co.px W2 B cl p.col o tk hcl h1 h2 hap))
 have HT:=hid hT
 have HST:=hid (And.intro hs (And.intro hnx (And.intro hlen (And.intro htk hiq))))
 have HX:=hid hx
 rw[hnx] at hn1
 clear hc hmc hs hcan hT hnx hlen htk hiq ho hap hn0 hx
 go_enter func46,ntmps46
 go_wp2_with fail
 refine uu HC λw1 f1=>?_
 have hT1:=(HT.fr0 f1).fr0 ((Fr.refl [] w1).drew)
 obtain⟨gb,cb,hgb,hvo,hrb,hgbl,hcell⟩:=hT1.ops.cell Lp.bh rfl HX
 subst hvo
 have y0:=hcell 0 _ (by omega) rfl
 have y1:=hcell 1 _ (by omega) rfl
 have y2:=hcell 2 _ (by omega) rfl
 have y3:=hcell 3 _ (by omega) rfl
 have y4:=hcell 4 _ (by omega) rfl
 have c15:=hT1.cell.cell 15
 have c26:=hT1.cell.cell 26
 have c10:=hT1.cell.cell 10
 have c19:=hT1.cell.cell 19
 have c0:=hT1.cell.cell 0
 have c16:=hT1.cell.cell 16
 simp[aO,HST.1,HST.2.1,HST.2.2.1,HST.2.2.2.1,HST.2.2.2.2] at c15 c26 c10 c19 c0 c16
 simp at y0 y1 y2 y3 y4
 have HA1:=hid (HA w1.drew f1.drew)
 have F1:=hid f1
 have HT1:=hid hT1
 clear f1 hT1 hrb hcell
 go_wp2_with fail
 go_still_tail 24,(by kernel_rfl)
 change wpList _ _ _ _ _ w1.drew
 go_wp2_with fail
 refine HA1.mono ?_
 rintro e w2 ⟨⟨bb,rfl⟩,hc2,x2⟩
 have hT2:=HT1.frx x2 (by decide) (by decide) (by decide)
 have X2:=hid (((FrX.aA F1.drew:FrX B Ts [] w w1.drew).trans x2).mono (S:=[g]) (λ_ h=>h) (by simp))
 have d26:=hT2.cell.cell 26
 have d10:=hT2.cell.cell 10
 have z26:=hT2.cell.frozen 26
 simp[aO,HST.2.1,HST.2.2.1] at d26 d10
 have hgl:=hT2.cell.lt
 have HT2:=hid hT2
 have HC2:=hid hc2
 clear hT2 hc2 x2 c15 c26 c10 c19 c0 c16 y0 y1 y2 y3 y4 hgbl
 obtain⟨W,hW⟩:∃ W,W=w2.setCell ⟨g,26,none⟩ (.int .i64 ((nx:Int)+1)):=⟨_,rfl⟩
 have N1:=hid (rV (n:=(nx:Int)+1) HT2 HC2 hg)
 rw[<-hW] at N1
 have X3:=hid (X2.trans N1.2.2)
 go_wp2_with fail
 rw[<-hW]
 have e26:=N1.1.cell.cell 26
 have e10:=N1.1.cell.cell 10
 simp[aO,HST.2.2.1] at e26 e10
 clear d26 z26 d10 hW hgl
 go_quiet (fail)
 obtain⟨W4,hW4⟩:∃ W4,W4=W.drewN nq:=⟨_,rfl⟩
 have fW4:Fr [] W W4:=by rw[hW4];exact rZ.drewN _
 rw[<-hW4]
 have hT4:=N1.1.fr0 fW4
 have hC4:=N1.2.1.fr0 fW4
 have X4:=hid (X3.trans (FrX.aA fW4))
 have y15:=hT4.cell.cell 15
 have z15:=hT4.cell.frozen 15
 simp[aO,HST.1] at y15
 have hgl:=hT4.cell.lt
 have HT4:=hid hT4
 have HC4:=hid hC4
 clear hT4 hC4 hW4 fW4 e26 e10
 refine(Decidable.em ((nx:Int)+1=(len:Int))).elim (λhd=>?_) (λhd=>?_)
 ·have HGE:=hid (HE.trans (by rw[if_pos hd]))
  have hb:(((nx:Int)+1)==(len:Int))=true:=by simpa using hd
  clear hd
  go_wp2_with fail
  go_ret
  rw[HGE]
  exact⟨rfl,fH (t:={ t with next:=(nx:Int)+1 }) HT4 HC4 X4 hg⟩
 have HGE:=hid (HE.trans (by rw[if_neg hd]))
 have hb:(((nx:Int)+1)==(len:Int))=false:=by simpa using hd
 clear hd
 go_wp2_with fail
 go_ret
 rw[HGE]
 have e5:({ t with next:=(nx:Int)+1,ax:=4 } : M.Task)={ t with next:=(nx:Int)+1 }:=by rw[<-HST.1]
 rw[e5]
 exact⟨rfl,⟨_,_,HT4⟩,HC4,X4⟩
theorem nj {w W:World}{B g xp:Nat}{who s s':Int}{t:M.Task}{k:Cf}{x:M.Core}{vo vi:Value}(hT:cY W B g xp who t vo vi)(hc:aF W B xp k x)(hx:FrX B Ts [g] w W)(hg:B<=g) :
  Stepped w B g xp who k (x,{ t with ax:=s' }) ((W.setCell ⟨g,15,none⟩ (.int .i64 s)).setCell ⟨g,15,none⟩ (.int .i64 s')):=by
 obtain⟨⟨vo1,vi1,h1⟩,h2,h3⟩:=fH (s:=s) hT hc hx hg
 exact fH (t:={ t with ax:=s }) h1 h2 h3 hg
structure Shut (p:Prop):Prop where
 out:p
section
variable {P:Program} {ops:Array Oper} {w:World} {Q:Act->Prop} {a:Act} {o:Oper} {rest:List Oper}
theorem cW (h:∀ K:Act->Prop,(∀ a,Shut (wpStill P ops w Q rest a)->K a)->if Region.wanted o (yielded ops a.tmps) then o.still P a w K else K (a.put o.dst undef)):Shut (wpStill P ops w Q (o::rest) a) :=
 ⟨wpStill_step λK hK=>h K λa ha=>hK a ha.out⟩
theorem nQ {d:Option Tmp}{a':Act}(hd:o.dst=d)(ha:a.put d undef=a')(hw:Region.wanted o (yielded ops a.tmps)=false)(h:Shut (wpStill P ops w Q rest a')):Shut (wpStill P ops w Q (o::rest) a) :=
 ⟨wpStill_step λK hK=>by
  rw[if_neg (by rw[hw];simp),hd,ha]
  exact hK _ h.out⟩
theorem p9 (h:Q a):Shut (wpStill P ops w Q [] a):=⟨wpStill_nil h⟩
end
theorem wY (w:World)(B g xp:Nat)(who:Int)(t:M.Task)(k:Cf)(x:M.Core)(p:M.Place)(h:cU w B g xp who t)(hc:aF w B xp k x)(hg:B<=g)(hB:B<=w.heap.size)(hmc:M.eo x t=true)(hs:t.ax=6)(hiq:t.id=0)(hp:x.place=some p)
  (hlk:p.lock.an.length+p.lock.queue.length<=90) (hst:p.lock.state who=3∨p.lock.state who=2) (hh:x.hub.length<=90) :
  Calls prog 46 #[.pointer (some ⟨g,0,none⟩)] w λe w'=>e = .returned (.bool true)/\Stepped w B g xp who k (t.step x who) w':=by
 have hcan:t.can x who=true:=by simp[M.Task.can,hs]
 have HC:=hid (ef w B g xp who t k x h hc hmc)
 rw[hcan] at HC
 obtain⟨vo,vi,hT⟩:=h
 obtain⟨kd,hkd⟩:∃ kd,t.q.kind=kd:=⟨_,rfl⟩
 obtain⟨er,her⟩:∃ er,t.aM.err=er:=⟨_,rfl⟩
 have HE:=hid (show t.step x who=(x.unlock 0 who (t.aX&&M.writes kd&&er==0),{ t with ax:=if t.aX then 8 else 7 }) by rw[<-hkd,<-her];simp[M.Task.step,hs,hiq])
 have HU:=hid (λW b (f:Fr [] w W)=>mU W B xp k x p who b (hc.fr0 f) hp (by have:=f.size;omega) (by omega) hst (by omega))
 have HW:=hid (λW=>(mS W kd).mono λ_ _ ⟨h,e⟩=>And.intro h e.symm)
 have HT:=hid hT
 have HST:=hid (And.intro hs (And.intro hkd (And.intro her hiq)))
 clear hc hmc hs hcan hT hkd her hiq hst
 cases hpt:t.aX with
 | false =>
  have HP:=hid hpt
  rw[hpt] at HE
  simp only[Bool.false_and,Bool.false_eq_true,if_false] at HE
  clear hpt
  go_enter func46,ntmps46
  go_wp2_with fail
  refine uu HC λw1 f1=>?_
  have hT1:=HT.fr0 f1
  have c15:=hT1.cell.cell 15
  have c0:=hT1.cell.cell 0
  have c1:=hT1.cell.cell 1
  have c3:=hT1.cell.cell 3
  have c16:=hT1.cell.cell 16
  have c18:=hT1.cell.cell 18
  have c25:=hT1.cell.cell 25
  simp[aO,HST.1,HST.2.1,HST.2.2.1,HST.2.2.2,HP.out] at c15 c0 c1 c3 c16 c18 c25
  have HT1:=hid hT1
  have HU1:=hid (HU w1.drew false f1.drew)
  have F1:=hid f1
  clear f1 hT1
  go_wp2_with fail
  refine wp_region_still_tail 32 (by kernel_rfl) (by kernel_rfl) (Shut.out ?_)
  simp only[List.take_succ_cons,List.take_zero,List.drop_succ_cons,List.drop_zero]
  iterate 17
   refine cW (λK hK=>?_)
   go_simp
   refine hK _ ?_
   clear hK K
  iterate 6
   refine nQ rfl (by simp only[Act.put,List.setIfInBounds_toArray,List.set_cons_zero,List.set_cons_succ];rfl) (by kernel_rfl) ?_
  iterate 2
   refine cW (λK hK=>?_)
   go_simp
   refine hK _ ?_
   clear hK K
  iterate 6
   refine nQ rfl (by simp only[Act.put,List.setIfInBounds_toArray,List.set_cons_zero,List.set_cons_succ];rfl) (by kernel_rfl) ?_
  iterate 1
   refine cW (λK hK=>?_)
   go_simp
   refine hK _ ?_
   clear hK K
  refine p9 ?_
  change wpList _ _ _ _ _ w1.drew
  go_wp2_with fail
  refine HU1.mono ?_
  rintro e w3 ⟨rfl,hc3,x3'⟩
  have hT3:=(HT1.fr0 rZ.drew).frx x3' (by decide) (by decide) (by decide)
  have d15:=hT3.cell.cell 15
  have d25:=hT3.cell.cell 25
  have z15:=hT3.cell.frozen 15
  simp[aO,HP.out] at d15 d25
  have hgl:=hT3.cell.lt
  have HT3:=hid hT3
  have HC3:=hid hc3
  have X3:=hid (((FrX.aA F1.drew:FrX B Ts [] w w1.drew).trans x3').mono (S:=[g]) (λ_ h=>h) (by simp))
  clear hT3 hc3 x3' c0 c1 c3 c15 c16 c18 c25
  go_wp2_with fail
  go_ret
  rw[HE]
  have hfin:=fH (s:=7) HT3 HC3 X3 hg
  rw[HP] at hfin
  exact⟨rfl,hfin⟩
 | true =>
  have HP:=hid hpt
  rw[hpt] at HE
  simp only[Bool.true_and,if_true] at HE
  clear hpt
  obtain⟨wr,hwr⟩:∃ wr,M.writes kd=wr:=⟨_,rfl⟩
  rw[hwr] at HE HW
  clear hwr
  cases wr
  ·simp only[Bool.false_and] at HE
   go_enter func46,ntmps46
   go_wp2_with fail
   refine uu HC λw1 f1=>?_
   have hT1:=HT.fr0 f1
   have c15:=hT1.cell.cell 15
   have c0:=hT1.cell.cell 0
   have c1:=hT1.cell.cell 1
   have c3:=hT1.cell.cell 3
   have c16:=hT1.cell.cell 16
   have c18:=hT1.cell.cell 18
   have c25:=hT1.cell.cell 25
   simp[aO,HST.1,HST.2.1,HST.2.2.1,HST.2.2.2,HP.out] at c15 c0 c1 c3 c16 c18 c25
   have HT1:=hid hT1
   have HU1:=hid (HU w1.drew false f1.drew)
   have F1:=hid f1
   clear f1 hT1
   go_wp2_with fail
   refine wp_region_still_tail 32 (by kernel_rfl) (by kernel_rfl) (Shut.out ?_)
   simp only[List.take_succ_cons,List.take_zero,List.drop_succ_cons,List.drop_zero]
   iterate 17
    refine cW (λK hK=>?_)
    go_simp
    refine hK _ ?_
    clear hK K
   iterate 5
    refine cW (λK hK=>?_)
    go_simp
    refine hK _ ?_
    clear hK K
   refine cW (λK hK=>?_)
   go_simp
   refine⟨_,HW _,hK _ ?_⟩
   clear hK K
   iterate 2
    refine cW (λK hK=>?_)
    go_simp
    refine hK _ ?_
    clear hK K
   iterate 6
    refine nQ rfl (by simp only[Act.put,List.setIfInBounds_toArray,List.set_cons_zero,List.set_cons_succ];rfl) (by kernel_rfl) ?_
   iterate 1
    refine cW (λK hK=>?_)
    go_simp
    refine hK _ ?_
    clear hK K
   refine p9 ?_
   change wpList _ _ _ _ _ w1.drew
   go_wp2_with fail
   refine HU1.mono ?_
   rintro e w3 ⟨rfl,hc3,x3'⟩
   have hT3:=(HT1.fr0 rZ.drew).frx x3' (by decide) (by decide) (by decide)
   have d15:=hT3.cell.cell 15
   have d25:=hT3.cell.cell 25
   have z15:=hT3.cell.frozen 15
   simp[aO,HP.out] at d15 d25
   have hgl:=hT3.cell.lt
   have HT3:=hid hT3
   have HC3:=hid hc3
   have X3:=hid (((FrX.aA F1.drew:FrX B Ts [] w w1.drew).trans x3').mono (S:=[g]) (λ_ h=>h) (by simp))
   clear hT3 hc3 x3' c0 c1 c3 c15 c16 c18 c25
   go_wp2_with fail
   go_ret
   rw[HE]
   have hfin:=nj (s:=7) (s':=8) HT3 HC3 X3 hg
   rw[HP] at hfin
   exact⟨rfl,hfin⟩
  simp only[Bool.true_and] at HE
  go_enter func46,ntmps46
  go_wp2_with fail
  refine uu HC λw1 f1=>?_
  have hT1:=HT.fr0 f1
  have c15:=hT1.cell.cell 15
  have c0:=hT1.cell.cell 0
  have c1:=hT1.cell.cell 1
  have c3:=hT1.cell.cell 3
  have c16:=hT1.cell.cell 16
  have c18:=hT1.cell.cell 18
  have c25:=hT1.cell.cell 25
  simp[aO,HST.1,HST.2.1,HST.2.2.1,HST.2.2.2,HP.out] at c15 c0 c1 c3 c16 c18 c25
  have HT1:=hid hT1
  have HU1:=hid (HU w1.drew (er==0) f1.drew)
  have F1:=hid f1
  clear f1 hT1
  go_wp2_with fail
  refine wp_region_still_tail 32 (by kernel_rfl) (by kernel_rfl) (Shut.out ?_)
  simp only[List.take_succ_cons,List.take_zero,List.drop_succ_cons,List.drop_zero]
  iterate 17
   refine cW (λK hK=>?_)
   go_simp
   refine hK _ ?_
   clear hK K
  iterate 5
   refine cW (λK hK=>?_)
   go_simp
   refine hK _ ?_
   clear hK K
  refine cW (λK hK=>?_)
  go_simp
  refine⟨_,HW _,hK _ ?_⟩
  clear hK K
  iterate 2
   refine cW (λK hK=>?_)
   go_simp
   refine hK _ ?_
   clear hK K
  iterate 6
   refine cW (λK hK=>?_)
   go_simp
   refine hK _ ?_
   clear hK K
  iterate 1
   refine cW (λK hK=>?_)
   go_simp
   refine hK _ ?_
   clear hK K
  refine p9 ?_
  change wpList _ _ _ _ _ w1.drew
  go_wp2_with fail
  refine HU1.mono ?_
  rintro e w3 ⟨rfl,hc3,x3'⟩
  have hT3:=(HT1.fr0 rZ.drew).frx x3' (by decide) (by decide) (by decide)
  have d15:=hT3.cell.cell 15
  have d25:=hT3.cell.cell 25
  have z15:=hT3.cell.frozen 15
  simp[aO,HP.out] at d15 d25
  have hgl:=hT3.cell.lt
  have HT3:=hid hT3
  have HC3:=hid hc3
  have X3:=hid (((FrX.aA F1.drew:FrX B Ts [] w w1.drew).trans x3').mono (S:=[g]) (λ_ h=>h) (by simp))
  clear hT3 hc3 x3' c0 c1 c3 c15 c16 c18 c25
  go_wp2_with fail
  go_ret
  rw[HE]
  have hfin:=nj (s:=7) (s':=8) HT3 HC3 X3 hg
  rw[HP] at hfin
  exact⟨rfl,hfin⟩
end Tk
