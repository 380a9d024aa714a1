/- Texts CoreL, CoreG, CoreC. -/
import Derived.Test.YtjmkkcckfbnmeaaGreatDoorM19
import Derived.Test.YtjmkkcckfbnmeaaGreatDoorM22
import Derived.Test.YtjmkkcckfbnmeaaGreatDoorM30
import Derived.Deep.RegionHeld3
import Derived.Deep.AppendLies
import Derived.Deep.CutRange
set_option maxRecDepth 100000
set_option maxHeartbeats 8000000
set_option linter.all false
open Go.Lib (hid)
namespace Go.Proofs.YtjmkkcckfbnmeaaGreatDoor.Cr
open Go.RowKit
theorem write_items (x:M.Core)(p:M.Place)(ops:List M.Op)(ap:Bool)(a:M.Resp)(h:a.items=[]):(x.write p ops ap a).2.items=[]:=by
 unfold M.Core.write
 simp only[]
 split<;>exact h
theorem work_drop (w:World)(B g:Nat)(k:Cf)(x:M.Core)(p:M.Place)(q:M.Req)(vo:Value)(h:CoreAt w B g k x)(hg':B≤g)(hB:B≤w.heap.size)(hp:x.place=some p)(hal:p.alive=true)(hk:q.kind=3)(b:Int × Int)(hb:x.budget=some b)(hm:MayDrop x p b) :
  Calls Tryz.prog 112 #[.pointer (some ⟨g,0,none⟩),.int .i64 0,.agg (Ev.rqc q vo).toArray] w fun e w'=>∃ vi,e = .returned (.tuple #[.agg (Ev.rsc (x.work q).2 (.slice none 0 0)).toArray,vi])∧Ev.ItsAt w' B vi (x.work q).2.items∧CoreAt w' B g k (x.work q).1∧FrX B Ts [] w w':=by
 obtain⟨vp,rg,bg,hg,cg,h⟩:=h
 have hx:x.work q=({ x with counter:=x.counter+1,found:=false,budget:=some (max (b.1 - 1) 0,max (b.2 - p.col.bytes) 0),place:=some { p with alive:=false } },{ kind:=3,token:=x.counter+1 }):=by simp[M.Core.work,hp,hal,hk,hb]
 obtain⟨w0,hw0⟩:∃ w0,w0=(w.alloc (.cells (Ev.rqc q vo).toArray 41)).alloc (.cells (Ev.rsc { kind:=3 } (.slice none 0 0)).toArray 53):=⟨_,rfl⟩
 have f0:Fr [] w w0:=by rw[hw0];exact((Fr.refl _ _).alloc _).alloc _
 have b5:Holds w0 w.heap.size 41 (Ev.rqc q vo).toArray:=by rw[hw0];exact(Holds.new _ _ _).alloc _
 have b6:Holds w0 (w.heap.size+1) 53 (Ev.rsc { kind:=3 } (.slice none 0 0)).toArray:=by rw[hw0];exact at_new (by simp)
 have h0:=h.fr0 f0
 have HX:=hid hx
 obtain⟨kind,tenant,col,uid,card,ck,cv,ops,token,most,ticks⟩:=q
 simp only at hk
 subst hk
 simp only[Ev.rqc,Ev.rsc] at hw0
 simp only[Ev.rqc] at b5 ⊢
 clear hx
 go_enter Tryz.func112,Tryz.ntmps112
 go_wp2_with fail
 rw[←hw0]
 refine(at_yes w0 B g k x vp rg bg hg cg p h0 hp).mono ?_
 rintro e w1 ⟨⟨q,rfl,hq,ho,⟨cl,lg,h1,h2,hc,hcol,hl⟩⟩,rfl⟩
 have d2:=hc.cell 2
 have d4:=hc.cell 4
 obtain⟨y0,y1,y2,y3,y4,y5,y6,y7,y8,y9,y10⟩:=b5.cs11
 have hs0:=f0.size
 have HB6:=hid b6
 have H0:=hid h0
 have F0:=hid f0
 have HO:=hid ho
 have HC:=hid hc
 have HCol:=hid hcol
 have HB5:=hid b5
 have hl5:=b5.lt
 have hl6:=b6.lt
 have hlq:=hc.lt
 simp[hal] at d2 d4 y0 y1 y2 y3 y4 y5 y6 y7 y8 y9 y10
 clear hw0 h0 ho hc hcol hl b5 b6 f0 h
 go_wp2_with fail
 refine(drop_any w0 B g k x vp rg bg hg cg q (w.heap.size+1) p b { kind:=3 } (.slice none 0 0) H0.out hg' (by omega) hp HO.out HB6.out (by omega) hb hm).mono ?_
 rintro e w3 ⟨rfl,b7,h3,x3⟩
 have hl7:=b7.lt
 obtain⟨e0,e1,e2,e3,e4,e5,e6,e7⟩:=b7.cs8
 obtain⟨z0,z1,z2,z3,z4,z5,z6,z7⟩:=b7.fz8
 simp[Ev.rsc] at e0 e1 e2 e3 e4 e5 e6 e7
 have B7:=hid b7
 have H3:=hid h3
 have X3:=hid x3
 clear b7 h3 x3 d2 d4 y0 y1 y2 y3 y4 y5 y6 y7 y8 y9 y10
 go_wp2_with fail
 rw[HX.out]
 exact work_end (rs:=(_,{ kind:=3,token:=x.counter+1 })) hB B7.out (Own.nil _ _ _ _) ⟨_,_,_,_,_,H3.out⟩ (((FrX.of_fr0 F0.out:FrX B Ts [w.heap.size+1] w w0).trans X3.out).shed (fun z hz=>.inl (by simp at hz;omega))) rfl rfl
theorem work_put (w:World)(B g:Nat)(k:Cf)(x:M.Core)(p:M.Place)(q:M.Req)(vo:Value)(h:CoreAt w B g k x)(hg':B≤g)(hB:B≤w.heap.size)(hp:x.place=some p)(hal:p.alive=true)(hk:q.kind=4)(b:Int × Int)(hb:x.budget=some b)(hm:MayWrite x p b [⟨false,q.uid,q.card,q.ck,q.cv⟩])(hap:(p.col.check ([⟨false,q.uid,q.card,q.ck,q.cv⟩]:List M.Op) (x.maxBytes - b.2)).2.2=0→∀ (j:Nat) (o:M.Op),(([⟨false,q.uid,q.card,q.ck,q.cv⟩]:List M.Op))[j]? = some o→∀ W cl,Co.ColAt W B cl ((([⟨false,q.uid,q.card,q.ck,q.cv⟩]:List M.Op).take j).foldl (fun c o=>c.apply o (x.counter+1)) p.col)→B≤W.heap.size→B≤cl →
   Calls Tryz.prog 114 #[.pointer (some ⟨cl,0,none⟩),.agg #[.bool o.del,.string o.uid,.string o.card,.int .i64 o.ck,.int .i64 o.cv],.int .i64 (x.counter+1)] W fun e W'=>(∃ b,e = .returned (.bool b))∧Co.ColAt W' B cl ((([⟨false,q.uid,q.card,q.ck,q.cv⟩]:List M.Op).take (j+1)).foldl (fun c o=>c.apply o (x.counter+1)) p.col)∧FrX B Co.Ts [] W W') :
  Calls Tryz.prog 112 #[.pointer (some ⟨g,0,none⟩),.int .i64 0,.agg (Ev.rqc q vo).toArray] w fun e w'=>∃ vi,e = .returned (.tuple #[.agg (Ev.rsc (x.work q).2 (.slice none 0 0)).toArray,vi])∧Ev.ItsAt w' B vi (x.work q).2.items∧CoreAt w' B g k (x.work q).1∧FrX B Ts [] w w':=by
 obtain⟨vp,rg,bg,hg,cg,h⟩:=h
 obtain⟨r,hr⟩:∃ r,x.write p [⟨false,q.uid,q.card,q.ck,q.cv⟩] true { kind:=4 }=r:=⟨_,rfl⟩
 have hx:x.work q=(r.1,{ r.2 with version:=r.2.token }):=by rw[←hr];simp[M.Core.work,hp,hal,hk]
 have HM:=hid hm
 have HAp:=hid hap
 have HR:=hid hr
 clear hr
 obtain⟨w0,hw0⟩:∃ w0,w0=(w.alloc (.cells (Ev.rqc q vo).toArray 41)).alloc (.cells (Ev.rsc { kind:=4 } (.slice none 0 0)).toArray 53):=⟨_,rfl⟩
 have f0:Fr [] w w0:=by rw[hw0];exact((Fr.refl _ _).alloc _).alloc _
 have b5:Holds w0 w.heap.size 41 (Ev.rqc q vo).toArray:=by rw[hw0];exact(Holds.new _ _ _).alloc _
 have b6:Holds w0 (w.heap.size+1) 53 (Ev.rsc { kind:=4 } (.slice none 0 0)).toArray:=by rw[hw0];exact at_new (by simp)
 have h0:=h.fr0 f0
 have HX:=hid hx
 obtain⟨kind,tenant,col,uid,card,ck,cv,ops,token,most,ticks⟩:=q
 simp only at HM HAp HR
 simp only at hk
 subst hk
 simp only[Ev.rqc,Ev.rsc] at hw0
 simp only[Ev.rqc] at b5 ⊢
 clear hx hm hap
 go_enter Tryz.func112,Tryz.ntmps112
 go_wp2_with fail
 rw[←hw0]
 refine(at_yes w0 B g k x vp rg bg hg cg p h0 hp).mono ?_
 rintro e w1 ⟨⟨q,rfl,hq,ho,⟨cl,lg,h1,h2,hc,hcol,hl⟩⟩,rfl⟩
 have d2:=hc.cell 2
 have d4:=hc.cell 4
 obtain⟨y0,y1,y2,y3,y4,y5,y6,y7,y8,y9,y10⟩:=b5.cs11
 have hs0:=f0.size
 have HB6:=hid b6
 have H0:=hid h0
 have F0:=hid f0
 have HO:=hid ho
 have HC:=hid hc
 have HCol:=hid hcol
 have HB5:=hid b5
 have hl5:=b5.lt
 have hl6:=b6.lt
 have hlq:=hc.lt
 simp[hal] at d2 d4 y0 y1 y2 y3 y4 y5 y6 y7 y8 y9 y10
 clear hw0 h0 ho hc hcol hl b5 b6 f0 h
 go_wp2_with fail
 have fA:Fr [] w0 (w0.alloc (.cells #[.bool false,.string uid,.string card,.int .i64 ck,.int .i64 cv] 49)):=(Fr.refl _ _).alloc _
 have rA:Row (w0.alloc (.cells #[.bool false,.string uid,.string card,.int .i64 ck,.int .i64 cv] 49)) 49 5 w0.heap.size 1 1 (flat Lp.cs [⟨false,uid,card,ck,cv⟩]):=Row.new w0 #[.bool false,.string uid,.string card,.int .i64 ck,.int .i64 cv] (by simp) (by decide)
 refine(write_any _ B g k x vp rg bg hg cg q (w.heap.size+1) p b { kind:=4 } (.slice none 0 0) _ [⟨false,uid,card,ck,cv⟩] true (H0.out.fr0 fA) hg' (by simp;omega) hp (Own.fr0 HO.out fA) (HB6.out.fr fA (by simp)) (by omega) (.inr ⟨w0.heap.size,1,by omega,rfl,rA⟩) hb HM.out (fun _ hck j o hj W cl' hc' hB' hcl'=>HAp.out hck j o hj W cl' hc' hB' hcl')).mono ?_
 rw[HR.out]
 rintro e w3 ⟨rfl,b7,h3,x3⟩
 have hl7:=b7.lt
 obtain⟨e0,e1,e2,e3,e4,e5,e6,e7⟩:=b7.cs8
 obtain⟨z0,z1,z2,z3,z4,z5,z6,z7⟩:=b7.fz8
 simp[Ev.rsc] at e0 e1 e2 e3 e4 e5 e6 e7
 have B7:=hid b7
 have H3:=hid h3
 have X3:=hid x3
 clear b7 h3 x3 d2 d4 y0 y1 y2 y3 y4 y5 y6 y7 y8 y9 y10
 go_wp2_with fail
 rw[HX.out]
 have b8:Holds (w3.setCell ⟨w.heap.size+1,3,none⟩ (.int .i64 r.2.token)) (w.heap.size+1) 53 (Ev.rsc { r.2 with version:=r.2.token } (.slice none 0 0)).toArray:=by simpa[Ev.rsc] using B7.out.set 3 (.int .i64 r.2.token)
 exact work_end (rs:=(r.1,{ r.2 with version:=r.2.token })) hB b8 (by rw[show ({ r.2 with version:=r.2.token } : M.Resp).items=[] from by rw[←HR.out];exact write_items _ _ _ _ _ rfl];exact Own.nil _ _ _ _) ⟨_,_,_,_,_,H3.out.frx (resp_set (w:=w) (by omega) B7.out _ _) (by decide)⟩ ((((FrX.of_fr0 (F0.out.trans fA):FrX B Ts [w.heap.size+1] w _).trans X3.out).shed (fun z hz=>.inl (by simp at hz;omega))).setNew (by simp) _) rfl rfl
theorem work_del (w:World)(B g:Nat)(k:Cf)(x:M.Core)(p:M.Place)(q:M.Req)(vo:Value)(h:CoreAt w B g k x)(hg':B≤g)(hB:B≤w.heap.size)(hp:x.place=some p)(hal:p.alive=true)(hk:q.kind=5)(b:Int × Int)(hb:x.budget=some b)(hm:MayWrite x p b [⟨true,q.uid,⟨#[]⟩,q.ck,q.cv⟩])(hap:(p.col.check ([⟨true,q.uid,⟨#[]⟩,q.ck,q.cv⟩]:List M.Op) (x.maxBytes - b.2)).2.2=0→∀ (j:Nat) (o:M.Op),(([⟨true,q.uid,⟨#[]⟩,q.ck,q.cv⟩]:List M.Op))[j]? = some o→∀ W cl,Co.ColAt W B cl ((([⟨true,q.uid,⟨#[]⟩,q.ck,q.cv⟩]:List M.Op).take j).foldl (fun c o=>c.apply o (x.counter+1)) p.col)→B≤W.heap.size→B≤cl →
   Calls Tryz.prog 114 #[.pointer (some ⟨cl,0,none⟩),.agg #[.bool o.del,.string o.uid,.string o.card,.int .i64 o.ck,.int .i64 o.cv],.int .i64 (x.counter+1)] W fun e W'=>(∃ b,e = .returned (.bool b))∧Co.ColAt W' B cl ((([⟨true,q.uid,⟨#[]⟩,q.ck,q.cv⟩]:List M.Op).take (j+1)).foldl (fun c o=>c.apply o (x.counter+1)) p.col)∧FrX B Co.Ts [] W W') :
  Calls Tryz.prog 112 #[.pointer (some ⟨g,0,none⟩),.int .i64 0,.agg (Ev.rqc q vo).toArray] w fun e w'=>∃ vi,e = .returned (.tuple #[.agg (Ev.rsc (x.work q).2 (.slice none 0 0)).toArray,vi])∧Ev.ItsAt w' B vi (x.work q).2.items∧CoreAt w' B g k (x.work q).1∧FrX B Ts [] w w':=by
 obtain⟨vp,rg,bg,hg,cg,h⟩:=h
 obtain⟨r,hr⟩:∃ r,x.write p [⟨true,q.uid,⟨#[]⟩,q.ck,q.cv⟩] true { kind:=5 }=r:=⟨_,rfl⟩
 have hx:x.work q=r:=by rw[←hr];simp[M.Core.work,hp,hal,hk]
 have HM:=hid hm
 have HAp:=hid hap
 have HR:=hid hr
 clear hr
 obtain⟨w0,hw0⟩:∃ w0,w0=(w.alloc (.cells (Ev.rqc q vo).toArray 41)).alloc (.cells (Ev.rsc { kind:=5 } (.slice none 0 0)).toArray 53):=⟨_,rfl⟩
 have f0:Fr [] w w0:=by rw[hw0];exact((Fr.refl _ _).alloc _).alloc _
 have b5:Holds w0 w.heap.size 41 (Ev.rqc q vo).toArray:=by rw[hw0];exact(Holds.new _ _ _).alloc _
 have b6:Holds w0 (w.heap.size+1) 53 (Ev.rsc { kind:=5 } (.slice none 0 0)).toArray:=by rw[hw0];exact at_new (by simp)
 have h0:=h.fr0 f0
 have HX:=hid hx
 obtain⟨kind,tenant,col,uid,card,ck,cv,ops,token,most,ticks⟩:=q
 simp only at HM HAp HR
 simp only at hk
 subst hk
 simp only[Ev.rqc,Ev.rsc] at hw0
 simp only[Ev.rqc] at b5 ⊢
 clear hx hm hap
 go_enter Tryz.func112,Tryz.ntmps112
 go_wp2_with fail
 rw[←hw0]
 refine(at_yes w0 B g k x vp rg bg hg cg p h0 hp).mono ?_
 rintro e w1 ⟨⟨q,rfl,hq,ho,⟨cl,lg,h1,h2,hc,hcol,hl⟩⟩,rfl⟩
 have d2:=hc.cell 2
 have d4:=hc.cell 4
 obtain⟨y0,y1,y2,y3,y4,y5,y6,y7,y8,y9,y10⟩:=b5.cs11
 have hs0:=f0.size
 have HB6:=hid b6
 have H0:=hid h0
 have F0:=hid f0
 have HO:=hid ho
 have HC:=hid hc
 have HCol:=hid hcol
 have HB5:=hid b5
 have hl5:=b5.lt
 have hl6:=b6.lt
 have hlq:=hc.lt
 simp[hal] at d2 d4 y0 y1 y2 y3 y4 y5 y6 y7 y8 y9 y10
 clear hw0 h0 ho hc hcol hl b5 b6 f0 h
 go_wp2_with fail
 have fA:Fr [] w0 (w0.alloc (.cells #[.bool true,.string uid,.string ⟨#[]⟩,.int .i64 ck,.int .i64 cv] 49)):=(Fr.refl _ _).alloc _
 have rA:Row (w0.alloc (.cells #[.bool true,.string uid,.string ⟨#[]⟩,.int .i64 ck,.int .i64 cv] 49)) 49 5 w0.heap.size 1 1 (flat Lp.cs [⟨true,uid,⟨#[]⟩,ck,cv⟩]):=Row.new w0 #[.bool true,.string uid,.string ⟨#[]⟩,.int .i64 ck,.int .i64 cv] (by simp) (by decide)
 refine(write_any _ B g k x vp rg bg hg cg q (w.heap.size+1) p b { kind:=5 } (.slice none 0 0) _ [⟨true,uid,⟨#[]⟩,ck,cv⟩] true (H0.out.fr0 fA) hg' (by simp;omega) hp (Own.fr0 HO.out fA) (HB6.out.fr fA (by simp)) (by omega) (.inr ⟨w0.heap.size,1,by omega,rfl,rA⟩) hb HM.out (fun _ hck j o hj W cl' hc' hB' hcl'=>HAp.out hck j o hj W cl' hc' hB' hcl')).mono ?_
 rw[HR.out]
 rintro e w3 ⟨rfl,b7,h3,x3⟩
 have hl7:=b7.lt
 obtain⟨e0,e1,e2,e3,e4,e5,e6,e7⟩:=b7.cs8
 obtain⟨z0,z1,z2,z3,z4,z5,z6,z7⟩:=b7.fz8
 simp[Ev.rsc] at e0 e1 e2 e3 e4 e5 e6 e7
 have B7:=hid b7
 have H3:=hid h3
 have X3:=hid x3
 clear b7 h3 x3 d2 d4 y0 y1 y2 y3 y4 y5 y6 y7 y8 y9 y10
 go_wp2_with fail
 rw[HX.out]
 exact work_end (rs:=r) hB B7.out (by rw[show r.2.items=[] from by rw[←HR.out];exact write_items _ _ _ _ _ rfl];exact Own.nil _ _ _ _) ⟨_,_,_,_,_,H3.out⟩ (((FrX.of_fr0 (F0.out.trans fA):FrX B Ts [w.heap.size+1] w _).trans X3.out).shed (fun z hz=>.inl (by simp at hz;omega))) rfl rfl
theorem work_batch (w:World)(B g:Nat)(k:Cf)(x:M.Core)(p:M.Place)(q:M.Req)(vo:Value)(h:CoreAt w B g k x)(hg':B≤g)(hB:B≤w.heap.size)(hp:x.place=some p)(hal:p.alive=true)(hk:q.kind=7)(b:Int × Int)(hb:x.budget=some b)(hm:MayWrite x p b q.ops)(ho':Ev.OpsAt w B vo q.ops) :
  Calls Tryz.prog 112 #[.pointer (some ⟨g,0,none⟩),.int .i64 0,.agg (Ev.rqc q vo).toArray] w fun e w'=>∃ vi,e = .returned (.tuple #[.agg (Ev.rsc (x.work q).2 (.slice none 0 0)).toArray,vi])∧Ev.ItsAt w' B vi (x.work q).2.items∧CoreAt w' B g k (x.work q).1∧FrX B Ts [] w w':=by
 obtain⟨vp,rg,bg,hg,cg,h⟩:=h
 obtain⟨r,hr⟩:∃ r,x.write p q.ops false { kind:=7 }=r:=⟨_,rfl⟩
 have hx:x.work q=r:=by rw[←hr];simp[M.Core.work,hp,hal,hk]
 have HM:=hid hm
 have HR:=hid hr
 have HOp:=hid ho'
 clear hr
 obtain⟨w0,hw0⟩:∃ w0,w0=(w.alloc (.cells (Ev.rqc q vo).toArray 41)).alloc (.cells (Ev.rsc { kind:=7 } (.slice none 0 0)).toArray 53):=⟨_,rfl⟩
 have f0:Fr [] w w0:=by rw[hw0];exact((Fr.refl _ _).alloc _).alloc _
 have b5:Holds w0 w.heap.size 41 (Ev.rqc q vo).toArray:=by rw[hw0];exact(Holds.new _ _ _).alloc _
 have b6:Holds w0 (w.heap.size+1) 53 (Ev.rsc { kind:=7 } (.slice none 0 0)).toArray:=by rw[hw0];exact at_new (by simp)
 have h0:=h.fr0 f0
 have HX:=hid hx
 obtain⟨kind,tenant,col,uid,card,ck,cv,ops,token,most,ticks⟩:=q
 simp only at HM HR HOp
 obtain⟨av,cvo,rfl⟩:=Own.form HOp.out
 simp only at hk
 subst hk
 simp only[Ev.rqc,Ev.rsc] at hw0
 simp only[Ev.rqc] at b5 ⊢
 clear hx hm ho'
 go_enter Tryz.func112,Tryz.ntmps112
 go_wp2_with fail
 rw[←hw0]
 refine(at_yes w0 B g k x vp rg bg hg cg p h0 hp).mono ?_
 rintro e w1 ⟨⟨q,rfl,hq,ho,⟨cl,lg,h1,h2,hc,hcol,hl⟩⟩,rfl⟩
 have d2:=hc.cell 2
 have d4:=hc.cell 4
 obtain⟨y0,y1,y2,y3,y4,y5,y6,y7,y8,y9,y10⟩:=b5.cs11
 have hs0:=f0.size
 have HB6:=hid b6
 have H0:=hid h0
 have F0:=hid f0
 have HO:=hid ho
 have HC:=hid hc
 have HCol:=hid hcol
 have HB5:=hid b5
 have hl5:=b5.lt
 have hl6:=b6.lt
 have hlq:=hc.lt
 simp[hal] at d2 d4 y0 y1 y2 y3 y4 y5 y6 y7 y8 y9 y10
 clear hw0 h0 ho hc hcol hl b5 b6 f0 h
 go_wp2_with fail
 refine(write_any w0 B g k x vp rg bg hg cg q (w.heap.size+1) p b { kind:=7 } (.slice none 0 0) _ ops false H0.out hg' (by omega) hp HO.out HB6.out (by omega) (Own.fr0 HOp.out F0.out) hb HM.out (fun h=>by cases h)).mono ?_
 rw[HR.out]
 rintro e w3 ⟨rfl,b7,h3,x3⟩
 have hl7:=b7.lt
 obtain⟨e0,e1,e2,e3,e4,e5,e6,e7⟩:=b7.cs8
 obtain⟨z0,z1,z2,z3,z4,z5,z6,z7⟩:=b7.fz8
 simp[Ev.rsc] at e0 e1 e2 e3 e4 e5 e6 e7
 have B7:=hid b7
 have H3:=hid h3
 have X3:=hid x3
 clear b7 h3 x3 d2 d4 y0 y1 y2 y3 y4 y5 y6 y7 y8 y9 y10
 go_wp2_with fail
 rw[HX.out]
 exact work_end (rs:=r) hB B7.out (by rw[show r.2.items=[] from by rw[←HR.out];exact write_items _ _ _ _ _ rfl];exact Own.nil _ _ _ _) ⟨_,_,_,_,_,H3.out⟩ (((FrX.of_fr0 F0.out:FrX B Ts [w.heap.size+1] w _).trans X3.out).shed (fun z hz=>.inl (by simp at hz;omega))) rfl rfl
end Go.Proofs.YtjmkkcckfbnmeaaGreatDoor.Cr
namespace Go.Proofs.YtjmkkcckfbnmeaaGreatDoor.Cr
open Go.RowKit
theorem work_get (w:World)(B g:Nat)(k:Cf)(x:M.Core)(p:M.Place)(q:M.Req)(vo:Value)(h:CoreAt w B g k x)(hg':B≤g)(hB:B≤w.heap.size)(hp:x.place=some p)(hal:p.alive=true)(hk:q.kind=6) :
  Calls Tryz.prog 112 #[.pointer (some ⟨g,0,none⟩),.int .i64 0,.agg (Ev.rqc q vo).toArray] w fun e w'=>∃ vi,e = .returned (.tuple #[.agg (Ev.rsc (x.work q).2 (.slice none 0 0)).toArray,vi])∧Ev.ItsAt w' B vi (x.work q).2.items∧CoreAt w' B g k (x.work q).1∧FrX B Ts [] w w':=by
 obtain⟨vp,rg,bg,hg,cg,h⟩:=h
 obtain⟨rs,hrs⟩:∃ rs,(match M.getC p.col.cards q.uid with|none=>((x,{ kind:=6,err:=4 }):M.Core × M.Resp)|some e=>(x,{ kind:=6,version:=e.version,card:=e.text }))=rs:=⟨_,rfl⟩
 have hx:x.work q=rs:=by rw[←hrs];simp only[M.Core.work,hp,hal,hk];rfl
 obtain⟨w0,hw0⟩:∃ w0,w0=(w.alloc (.cells (Ev.rqc q vo).toArray 41)).alloc (.cells (Ev.rsc { kind:=6 } (.slice none 0 0)).toArray 53):=⟨_,rfl⟩
 have f0:Fr [] w w0:=by rw[hw0];exact((Fr.refl _ _).alloc _).alloc _
 have b5:Holds w0 w.heap.size 41 (Ev.rqc q vo).toArray:=by rw[hw0];exact(Holds.new _ _ _).alloc _
 have b6:Holds w0 (w.heap.size+1) 53 (Ev.rsc { kind:=6 } (.slice none 0 0)).toArray:=by rw[hw0];exact at_new (by simp)
 have h0:=h.fr0 f0
 have HX:=hid hx
 obtain⟨kind,tenant,col,uid,card,ck,cv,ops,token,most,ticks⟩:=q
 simp only at hrs
 simp only at hk
 subst hk
 simp only[Ev.rqc,Ev.rsc] at hw0
 simp only[Ev.rqc] at b5 ⊢
 clear hx
 go_enter Tryz.func112,Tryz.ntmps112
 go_wp2_with fail
 rw[←hw0]
 refine(at_yes w0 B g k x vp rg bg hg cg p h0 hp).mono ?_
 rintro e w1 ⟨⟨q,rfl,hq,ho,⟨cl,lg,h1,h2,hc,hcol,hl⟩⟩,rfl⟩
 have d2:=hc.cell 2
 have d4:=hc.cell 4
 obtain⟨y0,y1,y2,y3,y4,y5,y6,y7,y8,y9,y10⟩:=b5.cs11
 have hs0:=f0.size
 have HB6:=hid b6
 have H0:=hid h0
 have F0:=hid f0
 have HO:=hid ho
 have HC:=hid hc
 have HCol:=hid hcol
 have HB5:=hid b5
 have hl5:=b5.lt
 have hl6:=b6.lt
 have hlq:=hc.lt
 simp[hal] at d2 d4 y0 y1 y2 y3 y4 y5 y6 y7 y8 y9 y10
 clear hw0 h0 ho hc hcol hl b5 b6 f0 h
 go_wp2_with fail
 obtain⟨oc,hoc⟩:∃ oc,M.getC p.col.cards uid=oc:=⟨_,rfl⟩
 have HG:=hid (fun W (f:Fr [] w0 W)=>Co.get_any W B cl p.col uid (HCol.out.fr0 f))
 rw[hoc] at HG hrs
 have HS:=hid hrs
 obtain⟨vv,hvv⟩:∃ vv,Co.vOf oc=vv:=⟨_,rfl⟩
 obtain⟨tt,htt⟩:∃ tt,Co.tOf oc=tt:=⟨_,rfl⟩
 obtain⟨bb,hbb⟩:∃ bb,oc.isSome=bb:=⟨_,rfl⟩
 rw[hvv,htt,hbb] at HG
 have HV:=hid (And.intro hvv (And.intro htt hbb))
 have D2:=hid d2
 have Y3:=hid y3
 clear hoc hrs hvv htt hbb d4 y0 y1 y2 y4 y5 y6 y7 y8 y9 y10
 go_region_held3 (fun w'=>w'.cell? ⟨q,2,none⟩=some (.pointer (some ⟨cl,0,none⟩))∧w'.cell? ⟨w.heap.size,3,none⟩=some (.string uid)) (first|go_keep|exact hS)
  (first|(go_at_call 164;refine(HG.out _ (by first|exact(Fr.refl _ _).drewN _|exact(Fr.refl _ _).drew)).mono ?_;rintro e w2 ⟨rfl,f2'⟩;have f2:Fr [] w0 w2:=(by first|exact((Fr.refl _ _).drewN _).trans f2'|exact(Fr.refl _ _).drew.trans f2');have hS:=(⟨f2.cell D2.out (block_lt_of_cell D2.out) (by simp),f2.cell Y3.out (block_lt_of_cell Y3.out) (by simp)⟩:w2.cell? ⟨q,2,none⟩=_∧w2.cell? ⟨w.heap.size,3,none⟩=_)))
 have b6W:=HB6.out.fr f2 (by simp)
 have l6:=b6W.lt
 clear hS d2 y3 hl5 hl6 hlq f2'
 obtain⟨e0,e1,e2,e3,e4,e5,e6,e7⟩:=b6W.cs8
 obtain⟨z0,z1,z2,z3,z4,z5,z6,z7⟩:=b6W.fz8
 simp[Ev.rsc] at e0 e1 e2 e3 e4 e5 e6 e7
 have H3:=hid (H0.out.fr0 f2)
 have XW:=hid (FrX.of_fr0 (F0.out.trans f2):FrX B Ts [] w w2)
 have BW:=hid b6W
 cases bb with
 | false =>
  go_wp2_with fail
  rw[HX.out]
  obtain⟨_,_,hb⟩:=HV.out
  have ho:oc=none:=by simpa using hb
  have hrs:=HS.out
  rw[ho] at hrs
  subst hrs
  have b7:Holds (w2.setCell ⟨w.heap.size+1,1,none⟩ (.int .i64 4)) (w.heap.size+1) 53 (Ev.rsc { kind:=6,err:=4 } (.slice none 0 0)).toArray:=by simpa[Ev.rsc] using BW.out.set 1 (.int .i64 4)
  exact work_end (rs:=(x,{ kind:=6,err:=4 })) hB b7 (Own.nil _ _ _ _) ⟨_,_,_,_,_,H3.out.frx (resp_set (w:=w) (by omega) BW.out _ _) (by decide)⟩ (XW.out.setNew (by simp) _) rfl rfl
 | true =>
  go_wp2_with fail
  rw[HX.out]
  obtain⟨hv,ht,hb⟩:=HV.out
  obtain⟨e,ho⟩:=Option.isSome_iff_exists.1 hb
  have hrs:=HS.out
  rw[ho] at hrs hv ht
  have hv':e.version=vv:=hv
  have ht':e.text=tt:=ht
  have b7:Holds ((w2.setCell ⟨w.heap.size+1,3,none⟩ (.int .i64 vv)).setCell ⟨w.heap.size+1,4,none⟩ (.string tt)) (w.heap.size+1) 53 (Ev.rsc { kind:=6,version:=vv,card:=tt } (.slice none 0 0)).toArray:=by simpa[Ev.rsc] using (BW.out.set 3 (.int .i64 vv)).set 4 (.string tt)
  have hrs2:rs=(x,{ kind:=6,version:=vv,card:=tt }):=by rw[←hrs,←hv',←ht']
  rw[hrs2]
  exact work_end (rs:=(x,{ kind:=6,version:=vv,card:=tt })) hB b7 (Own.nil _ _ _ _) ⟨_,_,_,_,_,(H3.out.frx (resp_set (w:=w) (by omega) BW.out 3 (.int .i64 vv)) (by decide)).frx (resp_set (w:=w) (by omega) (BW.out.set 3 (.int .i64 vv)) 4 (.string tt)) (by decide)⟩ ((XW.out.setNew (p:=⟨w.heap.size+1,3,none⟩) (by simp) _).setNew (by simp) _) rfl rfl
end Go.Proofs.YtjmkkcckfbnmeaaGreatDoor.Cr
namespace Go.Proofs.YtjmkkcckfbnmeaaGreatDoor.Cr
open Go.RowKit
theorem ret_create (W:World)(tmps:Array Value)(g:Nat)(a:M.Resp)(v:Value)(hp:Holds W g 53 (Ev.rsc a v).toArray)(h6:tmps[6]?.getD undef = .pointer (some ⟨g,0,none⟩)) :
  (results Tryz.f107 tmps).run Tryz.prog W = .ok (.agg (Ev.rsc a v).toArray) W:=by
 have hr:Tryz.f107.results=#[.cell 6 53]:=rfl
 obtain⟨q0,q1,q2,q3,q4,q5,q6,q7⟩:=hp.cs8
 simp[Ev.rsc] at q0 q1 q2 q3 q4 q5 q6 q7
 simp[results,h6,go_sem,q0,q1,q2,q3,q4,q5,q6,q7,Ev.rsc]
theorem infoPl:(Tryz.prog.info? 182).map (fun i=>(i.zero,i.size,i.bytes))=some (some (.pointer none),1,8):=by kernel_rfl
theorem CoreP.atPlaces {w7 W w10:World}{B g:Nat}{k:Cf}{x:M.Core}{vp v':Value}{rg bg hg cg:Nat}{o:Option M.Place}(h:CoreP w7 B g k x vp rg bg hg cg)(hg':B≤g)(f:Fr [] w7 W)(x10:FrX B [182] [] W w10)
  (hp:PlsAt (w10.setCell ⟨g,9,none⟩ v') B v' o):CoreP (w10.setCell ⟨g,9,none⟩ v') B g k { x with place:=o } v' rg bg hg cg:=by
 have hc:=(h.cell.fr f (by simp)).frx x10 (by decide) (by simp)
 have x11:FrX B [125] [] w10 (w10.setCell ⟨g,9,none⟩ v'):=FrX.of_frT ((Fr.refl [g] w10).setCell (by simp) _) (by simpa using hg') (fun y hy=>⟨125,by simp,by simp at hy;subst hy;exact hc.ty⟩)
 exact⟨h.brg,h.bbg,h.bhg,h.bcg,by simpa using hc.set 9 v',hp,((h.reg.fr0 f).frx x10 (by decide)).frx x11 (by decide),((h.bug.fr0 f).frx x10 (by decide)).frx x11 (by decide),((h.hub.fr0 f).frx x10 (by decide) (by decide)).frx x11 (by decide) (by decide),((h.clk.fr0 f).frx x10 (by decide) (by decide)).frx x11 (by decide) (by decide)⟩
theorem CoreP.grown {w7 wL w10:World}{B g:Nat}{k:Cf}{x:M.Core}{av a10:Option Addr}{cvp c10:Nat}{rg bg hg cg cl lg:Nat}{own10:Option Nat}{c0:M.Col}{t:Int}(h:CoreP w7 B g k x (.slice av 0 cvp) rg bg hg cg)(hg':B≤g)
  (hpl:Own w7 B 182 1 (.slice av 0 cvp) 0 []) (GL:Fr [] w7 wL) (hB:B≤wL.heap.size) (h1:B≤cl) (h2:B≤lg) (qc:Co.ColAt wL B cl c0) (ql:Lo.LockAt wL B lg {})
  (hs:Sl w10 182 1 (.slice a10 (0+1) c10) (0+1) ([]++[.pointer (some ⟨wL.heap.size,0,none⟩)]) own10)
  (hf:Fr (ownOf (.slice av 0 cvp)).toList ((wL.alloc (.cells #[.string tn,.string M.home,.pointer (some ⟨cl,0,none⟩),.pointer (some ⟨lg,0,none⟩),.bool true,.int .i64 t] 187)).alloc (.cells #[.pointer (some ⟨wL.heap.size,0,none⟩)] 182)) w10)
  (ho:own10=ownOf (.slice av 0 cvp)∨∃ y,own10=some y∧((wL.alloc (.cells #[.string tn,.string M.home,.pointer (some ⟨cl,0,none⟩),.pointer (some ⟨lg,0,none⟩),.bool true,.int .i64 t] 187)).alloc (.cells #[.pointer (some ⟨wL.heap.size,0,none⟩)] 182)).heap.size≤y) (hm:0<1→∃ y,own10=some y) :
  CoreP (w10.setCell ⟨g,9,none⟩ (.slice a10 (0+1) c10)) B g k { x with place:=some { col:=c0,lock:={},alive:=true,drawn:=t } } (.slice a10 (0+1) c10) rg bg hg cg∧FrX B Ts [] w7 (w10.setCell ⟨g,9,none⟩ (.slice a10 (0+1) c10)):=by
 obtain⟨WA,hWA⟩:∃ WA,WA=(wL.alloc (.cells #[.string tn,.string M.home,.pointer (some ⟨cl,0,none⟩),.pointer (some ⟨lg,0,none⟩),.bool true,.int .i64 t] 187)).alloc (.cells #[.pointer (some ⟨wL.heap.size,0,none⟩)] 182):=⟨_,rfl⟩
 have fA:Fr [] wL WA:=by rw[hWA];exact((Fr.refl _ _).alloc _).alloc _
 have pA:Holds WA wL.heap.size 187 #[.string tn,.string M.home,.pointer (some ⟨cl,0,none⟩),.pointer (some ⟨lg,0,none⟩),.bool true,.int .i64 t]:=by rw[hWA];exact(Holds.new _ _ _).alloc _
 rw[←hWA] at hf ho
 clear hWA
 have f7:=GL.trans fA
 have hplA:=hpl.fr0 f7
 have x10:FrX B [182] [] WA w10:=FrX.of_frT hf (fun y hy=>(hplA.ty (g:=y) (by simpa using hy)).2) (fun y hy=>⟨_,by simp,(hplA.ty (g:=y) (by simpa using hy)).1⟩)
 have hc:=(h.cell.fr f7 (by simp)).frx x10 (by decide) (by simp)
 have x11:FrX B [125] [] w10 (w10.setCell ⟨g,9,none⟩ (.slice a10 (0+1) c10)):=FrX.of_frT ((Fr.refl [g] w10).setCell (by simp) _) (by simpa using hg') (fun y hy=>⟨125,by simp,by simp at hy;subst hy;exact hc.ty⟩)
 have hBA:B≤WA.heap.size:=Nat.le_trans hB fA.size
 obtain⟨ho2,_⟩:=own_after (v:=.slice av 0 cvp) (w:=WA) (B:=B) hBA (fun y hy=>(hplA.ty hy).2) hs ho (hm (by omega))
 have x10':=x10.mono (Ts:=Ts) (T:=[]) (by decide) (fun _ h=>h)
 have x11':=x11.mono (Ts:=Ts) (T:=[]) (by decide) (fun _ h=>h)
 refine⟨h.atPlaces hg' f7 x10 ⟨wL.heap.size,hB,ho2.frx0 x11 (by decide),cl,lg,h1,h2,(pA.frx x10 (by decide) (by simp)).frx x11 (by decide) (by simp),((qc.fr0 fA).frx x10 (by decide)).frx x11 (by decide),((ql.fr0 fA).frx x10 (by decide)).frx x11 (by decide)⟩,(FrX.of_fr0 f7).trans (x10'.trans x11')⟩
structure MayCreate (x:M.Core)(k:Cf):Prop where
 quota:Bu.qOk x.cols x.cards x.maxBytes x.logMost=true
 c0:0≤x.counter
 c1:x.counter<9223372036854775807
 found:x.found=false
 place:x.place=none
 b0:0≤(x.budget.getD (0,0)).1
 b1:(x.budget.getD (0,0)).1<x.cols
theorem create_any (w:World)(B g:Nat)(k:Cf)(x:M.Core)(h:CoreAt w B g k x)(hg':B≤g)(hB:B≤w.heap.size)(hm:MayCreate x k) :
  Calls Tryz.prog 107 #[.pointer (some ⟨g,0,none⟩),.string tn,.string M.home] w fun e w'=>(∃ v,e = .returned (.agg (Ev.rsc x.create.2 v).toArray)∧v = .slice none 0 0)∧x.create.2.items=[]∧CoreAt w' B g k x.create.1∧FrX B Ts [] w w':=by
 obtain⟨vp,rg,bg,hg,cg,h⟩:=h
 obtain⟨y,hy⟩:∃ y,x.budget.getD (0,0)=y:=⟨_,rfl⟩
 have hcr:x.create=({ x with counter:=x.counter+1,budget:=some (y.1+1,y.2),found:=true,place:=some { col:={ logMost:=max x.logMost 1,most:=max x.cards 1,latest:=x.counter+1,horizon:=x.counter+1 },drawn:=x.counter+1 } },{ kind:=2,token:=x.counter+1 }):=by
  have h1:=hm.b1
  rw[hy] at h1
  unfold M.Core.create
  simp only[hm.found,Bool.false_eq_true,if_false,hy]
  rw[if_neg (by omega)]
 have HCR:=hid hcr
 have HM:=hid hm
 obtain⟨K,hK⟩:∃ K,K=key:=⟨_,rfl⟩
 have HK:=hid (show K.size≤1000 by rw[hK];exact key_facts.2)
 have hke:K.toList.isEmpty=false:=by rw[hK];exact key_facts.1
 have HKe:=hid (fun W=>(by rw[hK];exact Id.key_low tn M.home W low_tn low_home:Calls Tryz.prog 150 #[.string tn,.string M.home] W fun e w'=>e = .returned (.string K)∧W=w'))
 have HKK:=hid hK
 clear hK
 have hy1:=hm.b1
 rw[hy] at hy1
 have hpls:=h.pls
 rw[hm.place] at hpls
 obtain⟨av,cvp,rfl⟩:=Own.form hpls
 have HPl:=hid hpls
 clear hpls
 obtain⟨w0,hw0⟩:∃ w0,w0=(w.alloc (.cells #[.int .i64 0,.int .i64 0,.int .i64 0,.int .i64 0,.string ⟨#[]⟩,.int .i64 0,.bool false,.slice none 0 0] 53)).alloc (.cells #[.int .i64 2,.int .i64 0,.int .i64 0,.int .i64 0,.string ⟨#[]⟩,.int .i64 0,.bool false,.slice none 0 0] 53):=⟨_,rfl⟩
 have f0:Fr [] w w0:=by rw[hw0];exact((Fr.refl _ _).alloc _).alloc _
 clear hcr hm
 go_enter Tryz.func107,Tryz.ntmps107
 go_wp2_with fail
 rw[←hw0]
 have b6:Holds w0 w.heap.size 53 (Ev.rsc { kind:=0 } (.slice none 0 0)).toArray:=by rw[hw0];exact(Holds.new _ _ _).alloc _
 have b7:Holds w0 (w.heap.size+1) 53 (Ev.rsc { kind:=2 } (.slice none 0 0)).toArray:=by rw[hw0];exact at_new (by simp)
 have h0:=h.fr0 f0
 have hs0:=f0.size
 have c4:=h0.cell.cell 4
 have c10:=h0.cell.cell 10
 simp at c4 c10
 have hgl:=h0.cell.lt
 clear hw0 h
 refine(HKe.out _).mono ?_
 rintro e w1 ⟨rfl,rfl⟩
 have hreg:=h0.reg
 simp only[HM.out.found,ents,Bool.false_eq_true,if_false] at hreg
 rw[←HKK.out] at hreg
 have HF:=hid (Rk.find_no w0 B rg k.shards [] K hreg HK.out rfl)
 have H0:=hid h0
 have HB6:=hid b6
 have HB7:=hid b7
 clear hreg h0
 go_wp2_with fail
 refine HF.out.mono ?_
 rintro e w2 ⟨rfl,f2⟩
 have h2:=H0.out.fr0 f2
 have hB2:=f2.size
 have d4:=h2.cell.cell 4
 simp at d4
 have HBu:=hid (fun W (f:Fr [] w2 W)=>budget_any W B g k x _ rg bg hg cg (h2.fr0 f) (by have:=f.size;omega) HM.out.quota y hy)
 have H2:=hid h2
 have HB62:=hid (HB6.out.fr f2 (by simp))
 have HB72:=hid (HB7.out.fr f2 (by simp))
 have hgl2:=h2.cell.lt
 have f02:=f0.trans f2
 clear h2 b6 b7 c4 c10 H0 HF HB6 HB7 f2 f0
 go_wp2_with fail
 go_region_held3 (fun w'=>w'.cell? ⟨g,4,none⟩=some (.int .i64 x.cols)) (first|go_keep|exact hS)
  (first
   | (go_at_call 152;refine(HBu.out _ (by first|exact(Fr.refl _ _).drewN _|exact(Fr.refl _ _).drew)).mono ?_;rintro e w3 ⟨bq,rfl,hbq,hm3,hb3,h3,x3'⟩;have x3:FrX B BTs [] w2 w3:=(by first|exact(FrX.of_fr0 ((Fr.refl [] w2).drew)).trans x3'|exact(FrX.of_fr0 ((Fr.refl [] w2).drewN _)).trans x3');have hS:w3.cell? ⟨g,4,none⟩=some (.int .i64 x.cols):=h3.cell.cell 4)
   | (go_at_call 153;refine(Bu.cols_any w3 bq x.cols x.cards x.maxBytes x.logMost y.1 y.2 hb3).mono ?_;rintro e w4 ⟨rfl,rfl⟩))
 have y71:=(HB72.out.frx x3 (by decide) (by simp)).cell 1
 simp[Ev.rsc] at y71
 clear d4 hS HBu
 go_wp2_with fail
 have HX3:=hid x3
 have HB63:=hid (HB62.out.frx x3 (by decide) (by simp))
 have HB73:=hid (HB72.out.frx x3 (by decide) (by simp))
 have H3:=hid h3
 have hB3:=x3.size
 clear h3 x3 x3' hm3 hb3 H2 HB62 HB72 y71
 refine(draw_any w3 B g k _ _ rg bg hg cg H3.out hg' HM.out.c0 HM.out.c1).mono ?_
 rintro e w4 ⟨rfl,h4,x4⟩
 have hB4:=x4.size
 have HBu4:=hid (budget_any w4 B g k _ _ rg bg hg cg h4 (by omega) HM.out.quota y rfl)
 have HB64:=hid (HB63.out.frx x4 (by decide) (by simp))
 have HB74:=hid (HB73.out.frx x4 (by decide) (by simp))
 have X4:=hid ((HX3.out.mono (by decide) (fun _ h=>h):FrX B Ts [] w2 w3).trans (x4.mono (by decide) (fun _ h=>h)))
 clear h4 x4 H3 HX3 HB63 HB73
 go_wp2_with fail
 refine HBu4.out.mono ?_
 rintro e w5 ⟨bq5,rfl,hbq5,hm5,hb5,h5,x5⟩
 have hop:=Bu.open_any w5 bq5 x.cols x.cards x.maxBytes x.logMost y.1 y.2 hb5 (by have:=HM.out.b0;rw[hy] at this;exact this) (by have:=HM.out.quota;simp only[Bu.qOk,decide_eq_true_eq] at this;omega) true (by simpa using hy1)
 simp only[if_true] at hop
 have HOp:=hid hop
 have H5:=hid h5
 have HM5:=hid hm5
 have hb5t:=Holds.ty hb5
 clear h5 hm5 hb5 hop
 go_wp2_with fail
 refine HOp.out.mono ?_
 rintro e w6 ⟨rfl,hb6,f6⟩
 have x6:FrX B [293] [] w5 w6:=FrX.of_frT f6 (by simpa using hbq5) (fun z hz=>⟨293,by simp,by simp at hz;subst hz;exact hb5t⟩)
 have h6:=H5.out.atBug (o:=some (y.1+1,y.2)) (x6.mono (by decide) (fun _ h=>h)) ⟨bq5,hbq5,HM5.out.frx x6 (by decide) (by decide) (by simp),hb6⟩
 have HB66:=hid ((HB64.out.frx x5 (by decide) (by simp)).frx x6 (by decide) (by simp))
 have HB76:=hid ((HB74.out.frx x5 (by decide) (by simp)).frx x6 (by decide) (by simp))
 have X6:=hid (X4.out.trans ((x5.mono (by decide) (fun _ h=>h)).trans (x6.mono (by decide) (fun _ h=>h))))
 have hB5:=x5.size
 have hB6:=x6.size
 have hreg6:=h6.reg
 simp only[HM.out.found,ents,Bool.false_eq_true,if_false] at hreg6
 rw[←HKK.out] at hreg6
 have HAd:=hid (Rk.add_any w6.drew B rg k.shards K 0 (hreg6.fr0 ((Fr.refl _ _).drew)) HK.out (by omega) (by simp;omega))
 have g9:=h6.cell.cell 9
 have g10:=h6.cell.cell 10
 simp at g9 g10
 have H6:=hid h6
 clear h6 hb6 x5 x6 f6 H5 HM5 HOp X4 HB64 HB74 hreg6 HBu4
 go_wp2_with fail
 go_still_tail 10,(by kernel_rfl)
 change wpList _ _ _ _ _ w6.drew
 go_wp2_with fail
 refine HAd.out.mono ?_
 rintro e w7 ⟨rfl,r7,x7'⟩
 have x7:FrX B Rk.Ts [] w6 w7:=(FrX.of_fr0 (Fr.refl [] w6).drew).trans x7'
 rw[HKK.out] at r7
 have h7:=H6.out.atReg (b:=true) x7 r7
 have HB67:=hid (HB66.out.frx x7 (by decide) (by simp))
 have HB77:=hid (HB76.out.frx x7 (by decide) (by simp))
 have X7:=hid (X6.out.trans (x7.mono (by decide) (fun _ h=>h)))
 have hB7:=x7.size
 have g5:=h7.cell.cell 5
 have g7:=h7.cell.cell 7
 have g9':=h7.cell.cell 9
 simp at g5 g7 g9'
 have H7:=hid h7
 clear h7 r7 x7 x7' HAd H6 HB66 HB76 X6 g9 g10
 go_wp2_with fail
 have hq:=HM.out.quota
 simp only[Bu.qOk,decide_eq_true_eq] at hq
 have HBB:=hid (show B≤w7.drew.heap.size by simp;omega)
 obtain⟨i3,hi,hz0,hz1,hz2⟩:=info_parts infoPl
 have hpls7:=H7.out.pls
 simp only[HM.out.place] at hpls7
 have HP7:=hid (show Own w7 B 182 1 (.slice av 0 cvp) 0 [] from hpls7)
 have HT7:=hid (fun q (hq:ownOf (.slice av 0 cvp)=some q)=>HP7.out.ty hq)
 have HG7:=hid (show g∉(ownOf (.slice av 0 cvp)).toList from fun hx=>by
  have:=(HT7.out g (by simpa using hx)).1
  rw[H7.out.cell.ty] at this
  cases this)
 clear hpls7
 go_cut [] from 12 (fun wc=>∃ v',CoreP wc B g k { x with counter:=x.counter+1,found:=true,budget:=some (y.1+1,y.2),place:=some { col:={ logMost:=x.logMost,most:=x.cards,latest:=x.counter+1,horizon:=x.counter+1 },lock:={},alive:=true,drawn:=x.counter+1 } } v' rg bg hg cg∧FrX B Ts [] w7 wc)
 case first =>
  go_region_law (first
   | (refine step_append_sl rfl (.tmp 73) (.tmp 94) 123 rfl i3 _ 8 Tryz.underlying123 hi hz0 hz1 hz2 rfl (by decide) (.slice av 0 cvp) (ownOf (.slice av 0 cvp)) rfl ((HP7.out.fr0 ((G9.alloc _).alloc _)).sl) _ 1 1 [.pointer (some ⟨w9.heap.size,0,none⟩)] rfl rfl (Cells.one (at_new (cs:=#[.pointer (some ⟨w9.heap.size,0,none⟩)]) (t:=182) (by simp))) (by simp[Value.oneCell']) (by unfold maxLen;omega) (by omega) ?_;intro v10 w10 own10 hs10 hf10 ho10 hm10;obtain⟨a10,c10,rfl⟩:=hs10.form;have hc10:=(H7.out.cell.fr ((G9.alloc _).alloc _) (by simp)).fr hf10 HG7.out;have hz10:=hc10.frozen 9;have hl10:=hc10.lt;have hd10:=hc10.cell 9;simp at hd10)
   | (refine step_append_sl rfl (.tmp 73) (.tmp 94) 123 rfl i3 _ 8 Tryz.underlying123 hi hz0 hz1 hz2 rfl (by decide) (.slice av 0 cvp) (ownOf (.slice av 0 cvp)) rfl ((HP7.out.fr0 ((G8.alloc _).alloc _)).sl) _ 1 1 [.pointer (some ⟨w8.heap.size,0,none⟩)] rfl rfl (Cells.one (at_new (cs:=#[.pointer (some ⟨w8.heap.size,0,none⟩)]) (t:=182) (by simp))) (by simp[Value.oneCell']) (by unfold maxLen;omega) (by omega) ?_;intro v10 w10 own10 hs10 hf10 ho10 hm10;obtain⟨a10,c10,rfl⟩:=hs10.form;have hc10:=(H7.out.cell.fr ((G8.alloc _).alloc _) (by simp)).fr hf10 HG7.out;have hz10:=hc10.frozen 9;have hl10:=hc10.lt;have hd10:=hc10.cell 9;simp at hd10)
   | (go_simp;go_at_call 157;refine(Co.new_any _ B (x.counter+1) x.cards x.logMost (by omega) (by omega) (by first|exact Nat.le_trans HBB.out (Nat.le_trans (by simp) G9.size)|exact HBB.out)).mono ?_;rintro e w8 ⟨cl,rfl,hcl,q8,f8⟩;have G8:Fr [] w7 w8:=(by first|exact G9.trans f8|exact(Fr.refl _ _).drew.trans f8);have k85:=(H7.out.cell.fr G8 (by simp)).cell 5;have k87:=(H7.out.cell.fr G8 (by simp)).cell 7;have k89:=(H7.out.cell.fr G8 (by simp)).cell 9;simp at k85 k87 k89;have l8:=(H7.out.cell.fr G8 (by simp)).lt)
   | (go_simp;go_at_call 158;refine(Lo.new_any _ B).mono ?_;rintro e w9 ⟨lg,rfl,hlg,q9,f9⟩;have G9:Fr [] w7 w9:=(by first|exact G8.trans f9|exact(Fr.refl _ _).drew.trans f9);have k95:=(H7.out.cell.fr G9 (by simp)).cell 5;have k97:=(H7.out.cell.fr G9 (by simp)).cell 7;have k99:=(H7.out.cell.fr G9 (by simp)).cell 9;simp at k95 k97 k99;have l9:=(H7.out.cell.fr G9 (by simp)).lt))
  all_goals
  go_wp2_with fail
  go_meet
  case rel=>first
   | exact⟨_,H7.out.grown hg' HP7.out G9 (by have:=G9.size;have:=HBB.out;simp at *;omega) (by have:=HBB.out;omega) (by have:=HBB.out;have:=f8.size;simp at *;omega) (q8.fr0 f9) q9 hs10 hf10 ho10 hm10⟩
   | exact⟨_,H7.out.grown hg' HP7.out G8 (by have:=G8.size;have:=HBB.out;simp at *;omega) (by have:=HBB.out;have:=f9.size;simp at *;omega) (by have:=HBB.out;omega) q8 (q9.fr0 f8) hs10 hf10 ho10 hm10⟩
 case rest =>
  obtain⟨v',hP,xC⟩:=hcut
  have b6c:=HB67.out.frx xC (by decide) (by simp)
  have b7c:=HB77.out.frx xC (by decide) (by simp)
  have XC:=hid (X7.out.trans xC)
  have HPC:=hid hP
  have l6:=b6c.lt
  have l7:=b7c.lt
  obtain⟨d0,d1,d2,d3,d4,d5,d6,d7⟩:=b7c.cs8
  obtain⟨e0,e1,e2,e3,e4,e5,e6,e7⟩:=b6c.cs8
  have z2:=b7c.frozen 2
  obtain⟨z60,z61,z62,z63,z64,z65,z66,z67⟩:=b6c.fz8
  simp[Ev.rsc] at d0 d1 d2 d3 d4 d5 d6 d7 e0 e1 e2 e3 e4 e5 e6 e7
  clear hP xC hq HBB HP7 HT7 HG7 g5 g7 g9' H7 hi hz0 hz1 hz2
  go_wp2_with fail
  have hx:x.create.2={ kind:=2,token:=x.counter+1 }:=by rw[HCR.out]
  have hy1:x.create.1={ x with counter:=x.counter+1,budget:=some (y.1+1,y.2),found:=true,place:=some { col:={ logMost:=max x.logMost 1,most:=max x.cards 1,latest:=x.counter+1,horizon:=x.counter+1 },drawn:=x.counter+1 } }:=by rw[HCR.out]
  have hm1:max x.logMost 1=x.logMost:=by have:=HM.out.quota;simp only[Bu.qOk,decide_eq_true_eq] at this;omega
  have hm2:max x.cards 1=x.cards:=by have:=HM.out.quota;simp only[Bu.qOk,decide_eq_true_eq] at this;omega
  obtain⟨W,hW⟩:∃ W,W=wc.setCell ⟨w.heap.size+1,2,none⟩ (.int .i64 (x.counter+1)):=⟨_,rfl⟩
  have b6W:Holds W w.heap.size 53 (Ev.rsc { kind:=0 } (.slice none 0 0)).toArray:=by rw[hW];exact b6c.far (by simp) _
  have xW:FrX B [53] [] wc W:=by rw[hW];exact FrX.of_frT ((Fr.refl [w.heap.size+1] _).setCell (by simp) _) (by simp;omega) (fun y hy=>⟨53,by simp,by simp at hy;subst hy;exact b7c.ty⟩)
  have x8:FrX B [53] [] W (Ev.put8 W w.heap.size 0 { kind:=2,token:=x.counter+1 } (.slice none 0 0)):=Ev.put8_frx hB b6W.ty (by simp)
  have b8:=Ev.put8_holds (a:={ kind:=2,token:=x.counter+1 }) (v:=.slice none 0 0) b6W
  refine bodyPost_ret (ret_create _ _ w.heap.size _ _ (show Holds (Ev.put8 (wc.setCell ⟨w.heap.size+1,2,none⟩ (.int .i64 (x.counter+1))) w.heap.size 0 { kind:=2,token:=x.counter+1 } (.slice none 0 0)) _ _ _ by rw[←hW];exact b8) rfl) rfl ?_
  have e8:Ev.put8 (wc.setCell ⟨w.heap.size+1,2,none⟩ (.int .i64 (x.counter+1))) w.heap.size 0 { kind:=2,token:=x.counter+1 } (.slice none 0 0)=Ev.put8 W w.heap.size 0 { kind:=2,token:=x.counter+1 } (.slice none 0 0):=by rw[hW]
  refine⟨⟨_,by rw[hx],rfl⟩,by rw[hx],?_,?_⟩
  ·show CoreAt (Ev.put8 (wc.setCell ⟨w.heap.size+1,2,none⟩ (.int .i64 (x.counter+1))) w.heap.size 0 { kind:=2,token:=x.counter+1 } (.slice none 0 0)) B g k x.create.1
   rw[e8,hy1,hm1,hm2]
   exact⟨_,_,_,_,_,(HPC.out.frx xW (by decide)).frx x8 (by decide)⟩
  ·show FrX B Ts [] w (Ev.put8 (wc.setCell ⟨w.heap.size+1,2,none⟩ (.int .i64 (x.counter+1))) w.heap.size 0 { kind:=2,token:=x.counter+1 } (.slice none 0 0))
   exact Ev.put8_new ((((FrX.of_fr0 f02).trans XC.out).setNew (p:=⟨w.heap.size+1,2,none⟩) (by simp) _)) (Nat.le_refl _)
end Go.Proofs.YtjmkkcckfbnmeaaGreatDoor.Cr
