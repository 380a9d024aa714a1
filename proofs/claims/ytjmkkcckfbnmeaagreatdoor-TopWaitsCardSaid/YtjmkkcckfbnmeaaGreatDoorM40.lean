/- Texts PageB, PageC, PageD, Page, CoreN, TaskC, TaskE. -/
import Derived.Test.YtjmkkcckfbnmeaaGreatDoorM16
import Derived.Test.YtjmkkcckfbnmeaaGreatDoorM30
import Derived.Test.YtjmkkcckfbnmeaaGreatDoorM31
import Derived.Test.YtjmkkcckfbnmeaaGreatDoorM39
import Derived.Deep.RegionHeld3
import Derived.Deep.CutRange
import Derived.Deep.RegionLaw
set_option maxRecDepth 100000
set_option maxHeartbeats 8000000
set_option linter.all false
open Go.Lib (hid)
namespace Go.Proofs.YtjmkkcckfbnmeaaGreatDoor.Co
open Go.RowKit
theorem results_tmp4 {fn:Func}{t u v y:Tmp}(h:fn.results=#[.tmp t,.tmp u,.tmp v,.tmp y])(tmps:Array Value)(P:Program)(w:World) :
  (results fn tmps).run P w = .ok (.tuple #[tmps.getD t undef,tmps.getD u undef,tmps.getD v undef,tmps.getD y undef]) w:=by
 simp[results,h]
theorem since_any (w:World)(B g:Nat)(c:M.Col)(h:ColAt w B g c)(hl:c.cards.length≤12)(hB:B≤w.heap.size)(hch:M.chain (M.items c)=true) :
  Calls Tryz.prog 214 #[.pointer (some ⟨g,0,none⟩),.int .i64 0] w fun e w'=>∃ v,e = .returned (.tuple #[v,.int .i64 0])∧Ev.ItsAt w' B v (M.items c)∧Fr [] w w':=by
 have HCH:=hid hch
 have H:=hid h
 obtain⟨C,hC⟩:∃ C,w.heap.size=C:=⟨_,rfl⟩
 have HC:=hid hC
 obtain⟨w0,hw0⟩:∃ w0,w0=((w.alloc (.cells #[.pointer (some ⟨g,0,none⟩)] 184)).alloc (.cells #[.int .i64 0] 2)).alloc (.cells #[.slice none 0 0] 51):=⟨_,rfl⟩
 have f0:Fr [] w w0:=by rw[hw0];exact(((Fr.refl _ _).alloc _).alloc _).alloc _
 have b0:Holds w0 C 184 #[.pointer (some ⟨g,0,none⟩)]:=by rw[hw0];exact((at_new hC).alloc _).alloc _
 have b1:Holds w0 (C+1) 2 #[.int .i64 0]:=by rw[hw0];exact(at_new (by simp[hC])).alloc _
 have b2:Holds w0 (C+1+1) 51 #[.slice none 0 0]:=by rw[hw0];exact at_new (by simp[hC])
 have HL:=hid (live_any w0 B g c (h.fr0 f0) (by omega) (by have:=f0.size;omega))
 have F0:=hid f0
 have HB2:=hid b2
 have c0:=b0.cell 0
 have c1:=b1.cell 0
 simp at c0 c1
 clear h hch hC f0 b0 b1 b2
 go_enter Tryz.func214,Tryz.ntmps214
 go_wp2_with fail
 rw[←hw0]
 refine HL.out.mono ?_
 rintro e w1 ⟨v,rfl,hi,f1⟩
 obtain⟨av,cv,hv⟩:=hi.form
 subst hv
 have b2:=HB2.out.fr f1 (by simp)
 have y2:=b2.cell 0
 have z2:=b2.frozen 0
 have hlt:=b2.lt
 have hne:∀ k,ownOf (.slice av (M.items c).length cv)=some k→k∉[C+1+1]:=fun k hk hm=>by
  have:=(hi.ty hk).1
  simp at hm
  subst hm
  rw[b2.ty] at this
  cases this
 obtain⟨W,hW⟩:∃ W,W=w1.setCell ⟨C+1+1,0,none⟩ (.slice av (M.items c).length cv):=⟨_,rfl⟩
 have fW:Fr [C+1+1] w1 W:=by rw[hW];exact(Fr.refl _ _).setCell (by simp) _
 have HI:=hid (Own.fr hi fW hne)
 have yW:W.cell? ⟨C+1+1,0,none⟩=some (.slice av (M.items c).length cv):=by
  rw[hW]
  have:=(b2.set 0 (.slice av (M.items c).length cv)).cell 0
  simpa using this
 have F2:=hid (show Fr [] w W from ((F0.out.trans f1).step fW (fun k hk=>.inr (by have:=HC.out;simp at hk;omega))))
 have HS:=hid (So.sort_any W B _ (M.items c) HI.out HCH.out (by simpa[M.items] using hl))
 have hil:(M.items c).length≤12:=by simpa[M.items] using hl
 simp at y2
 simp only[HC.out]
 clear hi f1 b2 hne fW c0 c1 hw0
 go_wp2_with fail
 rw[←hW]
 refine HS.out.mono ?_
 rintro e w3 ⟨rfl,f3⟩
 have hl3:=block_lt_of_cell yW
 have y3:=(f3.cell' (o:=0) hl3).trans yW
 clear hW yW y2 z2 hlt
 go_wp2_with fail
 go_ret2
 exact⟨_,rfl,HI.out.fr0 f3,F2.out.trans f3⟩
theorem page_any (w:World)(B g:Nat)(c:M.Col)(most:Int)(h:ColAt w B g c)(hl:c.cards.length≤12)(hB:B≤w.heap.size)(hch:M.chain (M.items c)=true) :
  Calls Tryz.prog 165 #[.pointer (some ⟨g,0,none⟩),.int .i64 0,.int .i64 most] w fun e w'=>∃ v,e = .returned (.tuple #[v,.int .i64 c.latest,.bool false,.int .i64 0])∧Ev.ItsAt w' B v (M.items c)∧Fr [] w w':=by
 have HS:=hid (since_any w B g c h hl hB hch)
 have H:=hid h
 clear h hch
 go_enter Tryz.func165,Tryz.ntmps165
 go_wp2_with fail
 refine HS.out.mono ?_
 rintro e w1 ⟨v,rfl,hi,f1⟩
 obtain⟨av,cv,hv⟩:=hi.form
 subst hv
 have HI:=hid (And.intro hi f1)
 have c4:w1.cell? ⟨g,4,none⟩=some (.int .i64 c.latest):=by
  obtain⟨m,r,_,_,h1,_⟩:=(H.out.fr0 f1).at_
  exact h1.cell 4
 clear hi f1
 go_wp2_with fail
 go_quiet (fail)
 go_wp2_with fail
 refine bodyPost_ret (results_tmp4 (t:=6) (u:=7) (v:=8) (y:=9) rfl _ _ _) rfl ?_
 exact⟨_,rfl,HI.out.1.fr0 ((Fr.refl _ _).drewN _),HI.out.2.drewN _⟩
end Go.Proofs.YtjmkkcckfbnmeaaGreatDoor.Co
namespace Go.Proofs.YtjmkkcckfbnmeaaGreatDoor.Cr
open Go.RowKit
theorem work_delta (w:World)(B g:Nat)(k:Cf)(x:M.Core)(p:M.Place)(q:M.Req)(vo:Value)(h:CoreAt w B g k x)(hg':B≤g)(hB:B≤w.heap.size)(hp:x.place=some p)(hal:p.alive=true)(hk:q.kind=8)(ht:q.token=0)(hl:p.col.cards.length≤8)(hch:M.chain (M.items p.col)=true)(hs:M.sortI (M.items p.col)=M.items p.col) :
  Calls Tryz.prog 112 #[.pointer (some ⟨g,0,none⟩),.int .i64 0,.agg (Ev.rqc q vo).toArray] w fun e w'=>∃ vi,e = .returned (.tuple #[.agg (Ev.rsc (x.work q).2 (.slice none 0 0)).toArray,vi])∧Ev.ItsAt w' B vi (x.work q).2.items∧CoreAt w' B g k (x.work q).1∧FrX B Ts [] w w':=by
 obtain⟨vp,rg,bg,hg,cg,h⟩:=h
 have hx:x.work q=(x,{ kind:=8,token:=p.col.latest,items:=M.sortI (M.items p.col) }):=by simp[M.Core.work,hp,hal,hk]
 rw[hs] at hx
 obtain⟨w0,hw0⟩:∃ w0,w0=(w.alloc (.cells (Ev.rqc q vo).toArray 41)).alloc (.cells (Ev.rsc { kind:=8 } (.slice none 0 0)).toArray 53):=⟨_,rfl⟩
 have f0:Fr [] w w0:=by rw[hw0];exact((Fr.refl _ _).alloc _).alloc _
 have b5:Holds w0 w.heap.size 41 (Ev.rqc q vo).toArray:=by rw[hw0];exact(Holds.new _ _ _).alloc _
 have b6:Holds w0 (w.heap.size+1) 53 (Ev.rsc { kind:=8 } (.slice none 0 0)).toArray:=by rw[hw0];exact at_new (by simp)
 have h0:=h.fr0 f0
 have HX:=hid hx
 obtain⟨kind,tenant,col,uid,card,ck,cv,ops,token,most,ticks⟩:=q
 simp only at hk ht
 subst hk ht
 simp only[Ev.rqc,Ev.rsc] at hw0
 simp only[Ev.rqc] at b5 ⊢
 clear hx
 go_enter Tryz.func112,Tryz.ntmps112
 go_wp2_with fail
 rw[←hw0]
 refine(at_yes w0 B g k x vp rg bg hg cg p h0 hp).mono ?_
 rintro e w1 ⟨⟨q,rfl,hq,ho,⟨cl,lg,h1,h2,hc,hcol,hl'⟩⟩,rfl⟩
 have d2:=hc.cell 2
 have d4:=hc.cell 4
 have y0:=b5.cell 0
 have y8:=b5.cell 8
 have y9:=b5.cell 9
 have hs0:=f0.size
 have HB6:=hid b6
 have H0:=hid h0
 have F0:=hid f0
 have HP:=hid (fun W (f:Fr [] w0 W)=>Co.page_any W B cl p.col most (hcol.fr0 f) (by omega) (by have:=f.size;omega) hch)
 have hl5:=b5.lt
 have hl6:=b6.lt
 have hlq:=hc.lt
 have hqn:q≠w.heap.size+1:=hc.ne b6 (by decide)
 have HK:=hid (fun (W':World) (i:Nat) (v:Value) (h:W'.cell? ⟨q,2,none⟩=some (.pointer (some ⟨cl,0,none⟩))∧W'.cell? ⟨w.heap.size,8,none⟩=some (.int .i64 0)∧W'.cell? ⟨w.heap.size,9,none⟩=some (.int .i64 most))=>(⟨(World.cell?_of_block (a:=⟨q,2,none⟩) (Below.heap_setCell W' ⟨w.heap.size+1,i,none⟩ v q hqn)).trans h.1,(World.cell?_of_block (a:=⟨w.heap.size,8,none⟩) (Below.heap_setCell W' ⟨w.heap.size+1,i,none⟩ v w.heap.size (by simp))).trans h.2.1,(World.cell?_of_block (a:=⟨w.heap.size,9,none⟩) (Below.heap_setCell W' ⟨w.heap.size+1,i,none⟩ v w.heap.size (by simp))).trans h.2.2⟩:(W'.setCell ⟨w.heap.size+1,i,none⟩ v).cell? ⟨q,2,none⟩=some (.pointer (some ⟨cl,0,none⟩))∧(W'.setCell ⟨w.heap.size+1,i,none⟩ v).cell? ⟨w.heap.size,8,none⟩=some (.int .i64 0)∧(W'.setCell ⟨w.heap.size+1,i,none⟩ v).cell? ⟨w.heap.size,9,none⟩=some (.int .i64 most)))
 simp[hal] at d2 d4 y0 y8 y9
 clear hw0 h0 ho hc hcol hl' b5 b6 f0 h hch
 go_wp2_with fail
 have D2:=hid d2
 have Y8:=hid y8
 have Y9:=hid y9
 clear d4 y0
 go_region_held3 (fun w'=>w'.cell? ⟨q,2,none⟩=some (.pointer (some ⟨cl,0,none⟩))∧w'.cell? ⟨w.heap.size,8,none⟩=some (.int .i64 0)∧w'.cell? ⟨w.heap.size,9,none⟩=some (.int .i64 most)) (first|with_reducible exact hS|with_reducible exact HK.out _ _ _ hS|with_reducible exact HK.out _ _ _ (HK.out _ _ _ hS)|with_reducible exact HK.out _ _ _ (HK.out _ _ _ (HK.out _ _ _ hS))|go_keep)
  (first|(go_at_call 165;refine(HP.out _ (by first|exact(Fr.refl _ _).drewN _|exact(Fr.refl _ _).drew)).mono ?_;rintro e w2 ⟨v,rfl,hi,f2'⟩;obtain⟨av,cvv,rfl⟩:=hi.form;have f2:Fr [] w0 w2:=(by first|exact((Fr.refl _ _).drewN _).trans f2'|exact(Fr.refl _ _).drew.trans f2');have hS:=(⟨f2.cell D2.out (block_lt_of_cell D2.out) (by simp),f2.cell Y8.out (block_lt_of_cell Y8.out) (by simp),f2.cell Y9.out (block_lt_of_cell Y9.out) (by simp)⟩:w2.cell? ⟨q,2,none⟩=_∧w2.cell? ⟨w.heap.size,8,none⟩=_∧w2.cell? ⟨w.heap.size,9,none⟩=_);have b6W:=HB6.out.fr f2 (by simp);have l6:=b6W.lt;have e1:=b6W.cell 1;have z1:=b6W.frozen 1;have e2:=b6W.cell 2;have z2:=b6W.frozen 2;have e6:=b6W.cell 6;have z6:=b6W.frozen 6;simp[Ev.rsc] at e1 e2 e6))
 obtain⟨W3,hW3⟩:∃ W3,W3=((w2.setCell ⟨w.heap.size+1,2,none⟩ (.int .i64 p.col.latest)).setCell ⟨w.heap.size+1,6,none⟩ (.bool false)).setCell ⟨w.heap.size+1,1,none⟩ (.int .i64 0):=⟨_,rfl⟩
 rw[←hW3]
 have f3:Fr [w.heap.size+1] w2 W3:=by rw[hW3];exact(((Fr.refl _ _).setCell (by simp) _).setCell (by simp) _).setCell (by simp) _
 have b7:Holds W3 (w.heap.size+1) 53 (Ev.rsc { kind:=8,token:=p.col.latest } (.slice none 0 0)).toArray:=by rw[hW3];simpa[Ev.rsc] using ((b6W.set 2 (.int .i64 p.col.latest)).set 6 (.bool false)).set 1 (.int .i64 0)
 have x7:FrX B [53] [] w2 W3:=FrX.of_frT f3 (by simp;omega) (fun y hy=>⟨53,by simp,by simp at hy;subst hy;exact b6W.ty⟩)
 have H3:=hid (And.intro ((H0.out.fr0 f2).frx x7 (by decide)) (And.intro (hi.frx0 x7 (by decide)) (And.intro b7 (FrX.of_fr0 ((F0.out.trans f2).step f3 (fun y hy=>.inr (by simp at hy;subst hy;simp))):FrX B Ts [] w W3))))
 have l7:=b7.lt
 obtain⟨d0,d1,d2,d3,d4,d5,d6,d7⟩:=b7.cs8
 obtain⟨zz0,zz1,zz2,zz3,zz4,zz5,zz6,zz7⟩:=b7.fz8
 simp[Ev.rsc] at d0 d1 d2 d3 d4 d5 d6 d7
 clear hW3 f3 b7 x7 hS e1 z1 e2 z2 e6 z6 b6W f2 hi l6
 go_wp2_with fail
 rw[HX.out]
 exact work_end (rs:=(x,{ kind:=8,token:=p.col.latest,items:=M.items p.col })) hB H3.out.2.2.1 H3.out.2.1 ⟨_,_,_,_,_,H3.out.1⟩ H3.out.2.2.2 rfl rfl
end Go.Proofs.YtjmkkcckfbnmeaaGreatDoor.Cr
namespace Go.Proofs.YtjmkkcckfbnmeaaGreatDoor.So
open Go.RowKit
theorem sins_nil (w:World)(a:Option Addr)(c:Nat) :
  Calls Tryz.prog 269 #[.slice a 0 c,.int .i64 0,.int .i64 0] w fun e w'=>e = .returned (.tuple #[])∧w=w':=by
 go_enter Tryz.func269,Tryz.ntmps269
 go_wp2
 refine wp_loop_rounds 1 ?_
 rw[rounds_succ]
 go_wp2_with (fail)
 go_end0
 exact⟨rfl,rfl⟩
theorem spdq_nil (w:World)(a:Option Addr)(c:Nat)(n:Int) :
  Calls Tryz.prog 236 #[.slice a 0 c,.int .i64 0,.int .i64 0,.int .i64 n] w fun e w'=>e = .returned (.tuple #[])∧w=w':=by
 go_enter Tryz.func236,Tryz.ntmps236
 go_wp2
 refine wp_loop_rounds 1 ?_
 rw[rounds_succ]
 go_wp2_with (fail)
 refine(sins_nil w a c).mono ?_
 rintro e w' ⟨rfl,rfl⟩
 go_wp2_with (fail)
 refine bodyPost_ret (results_none rfl _ _ _) rfl ?_
 exact⟨rfl,rfl⟩
theorem sort_nil (w:World)(a:Option Addr)(c:Nat) :
  Calls Tryz.prog 205 #[.slice a 0 c] w fun e w'=>e = .returned (.tuple #[])∧w=w':=by
 go_enter Tryz.func205,Tryz.ntmps205
 go_wp2_with (fail)
 refine(len_any 0 w (by omega) (by omega)).mono ?_
 rintro e w' ⟨⟨n,rfl⟩,rfl⟩
 go_wp2_with (fail)
 refine(spdq_nil w a c n).mono ?_
 rintro e w' ⟨rfl,rfl⟩
 go_wp2_with (fail)
 go_end0
 exact⟨rfl,rfl⟩
theorem sort_few (w:World)(a:Option Addr)(n c:Nat)(hn:n≤1) :
  Calls Tryz.prog 205 #[.slice a n c] w fun e w'=>e = .returned (.tuple #[])∧w=w':=by
 obtain rfl|rfl:n=0∨n=1:=by omega
 ·exact sort_nil w a c
 ·exact sort_one w a c
end Go.Proofs.YtjmkkcckfbnmeaaGreatDoor.So
namespace Go.Proofs.YtjmkkcckfbnmeaaGreatDoor
open Go.RowKit Go.Shelf
def marks (Ds:List Nat):List Deferred:=Ds.map fun D=>{ target:=.collected D,args:=#[] }
def takeAll:List Nat→World→World
 | [],W=>W
 | D::Ds,W=>takeAll Ds (W.putObj D (.deferred none))
theorem leave_marks {n:Nat}{P:Program}{fn:Func}{tmps:Array Value}{R:Ending→World→Prop} : ∀ (Ds:List Nat) (W:World),Ds.Nodup→(∀ D,D∈Ds→W.heap[D]? = some (.deferred (some []))) →
  LeavesInM Fence.wide n P fn tmps R [] .returning (takeAll Ds W)→LeavesInM Fence.wide n P fn tmps R (marks Ds) .returning W
 | [],_,_,_,h=>h
 | D::Ds,W,hn,hD,h=>by
  obtain⟨hn1,hn2⟩:=List.nodup_cons.1 hn
  refine⟨by simp,.inl ⟨_,_,rfl,run_takeDeferred (hD D (by simp)),leave_marks Ds _ hn2 (fun E hE=>?_) h⟩⟩
  exact(World.putObj_heap_other (fun e=>hn1 (by subst e;exact hE))).trans (hD E (by simp[hE]))
theorem takeAll_fr {w0:World}{C:Nat} : ∀ (Ds:List Nat) (W:World),Kx C C w0 W→(∀ D,D∈Ds→C≤D)→C≤w0.heap.size→Kx C C w0 (takeAll Ds W)
 | [],_,h,_,_=>h
 | D::Ds,W,h,hD,hC=>takeAll_fr Ds _ (kx_grown h (grownBy_putObj' W D (.deferred none)) hC (fun r e=>by cases e;exact hD D (by simp))) (fun E hE=>hD E (by simp[hE])) hC
theorem takeAll_own {B sz n:Nat}{e:TypeId}{v:Value}{xs:List Value} : ∀ (Ds:List Nat) (W:World),Own W B e sz v n xs→Ds.Nodup→(∀ D,D∈Ds→W.heap[D]? = some (.deferred (some [])))→Own (takeAll Ds W) B e sz v n xs
 | [],_,h,_,_=>h
 | D::Ds,W,h,hn,hD=>by
  obtain⟨hn1,hn2⟩:=List.nodup_cons.1 hn
  refine takeAll_own Ds _ (own_grown h (grownBy_putObj' W D (.deferred none)) (fun r e=>by cases e;exact⟨_,hD D (by simp),rfl⟩)) hn2 fun E hE=>?_
  exact(World.putObj_heap_other (fun e=>hn1 (by subst e;exact hE))).trans (hD E (by simp[hE]))
end Go.Proofs.YtjmkkcckfbnmeaaGreatDoor
namespace Go.Proofs.YtjmkkcckfbnmeaaGreatDoor.Rk
open Go.RowKit Go.Shelf
theorem infoStr:(Tryz.prog.info? 9).map (fun i=>(i.zero,i.size,i.bytes))=some (some (.string ByteArray.empty),1,16):=by kernel_rfl
def sc (l:List Oi.Ent):List Value:=l.map fun x=>.string x.1
structure UI (w:World)(C j:Nat)(l:List Oi.Ent)(i:Nat)(Ds:List Nat)(W:World):Prop where
 fr:Fr [] w W
 nodup:Ds.Nodup
 mks:∀ D,D∈Ds→C<D∧W.heap[D]? = some (.deferred (some []))
 out:∃ v,Holds W C 59 #[v]∧Own W C 9 1 v (if j<i then l.length else 0) (if j<i then sc l else [])∧(¬ j<i→v = .slice none 0 0)
def RI (w1:World)(n₁ C:Nat)(v0:Value)(pre:List Oi.Ent)(W:World):Prop:=∃ v,Holds W C 59 #[v]∧Kx n₁ C w1 W∧((pre=[]∧v=v0)∨∃ x,pre=[x]∧Own W n₁ 9 1 v 1 [.string x.1])
theorem kx_own {w1 W:World}{n₁ C B e sz k:Nat}{v:Value}{xs:List Value}(h:Own w1 B e sz v k xs)(hk:Kx n₁ C w1 W)(hg:∀ g,ownOf v=some g→g<n₁∧g≠C):Own W B e sz v k xs:=by
 rcases h with h|⟨g,cap,hb,rfl,hr⟩
 ·exact .inl h
 ·obtain⟨a,b⟩:=hg g rfl
  obtain⟨cur,h0,r⟩:=hr
  exact .inr ⟨g,cap,hb,rfl,cur,(hk.block g a b).trans h0,r⟩
theorem own_lt {w:World}{B e sz k:Nat}{v:Value}{xs:List Value}(h:Own w B e sz v k xs){g:Nat}(hg:ownOf v=some g):g<w.heap.size:=by
 rcases h with⟨rfl,_⟩|⟨g',cap,_,rfl,hr⟩
 ·cases hg
 ·cases hg
  exact hr.lt
theorem shard_map {w:World}{B j:Nat}{l:List Oi.Ent}{ps:List Nat}(h6:∀ p,ps[j]? = some p→Oi.MapAt w B p l)(h7:∀ (i:Nat) p,ps[i]? = some p→i≠j→Holds w p 206 #[.slice none 0 0]){i q:Nat}(hq:ps[i]? = some q) :
  Oi.MapAt w B q (if i=j then l else []):=by
 by_cases e:i=j
 ·subst e
  rw[if_pos rfl]
  exact h6 q hq
 ·rw[if_neg e]
  exact⟨List.Pairwise.nil,by simp,by simp,_,h7 i q hq e,Own.nil _ _ _ _⟩
attribute [local go_sem] Oper.semAt_some
theorem under_any (w:World)(B g n j:Nat)(l:List Oi.Ent)(p:ByteArray)(h:RegAt w B g n j l)(hpre:∀ x∈l,p.size≤x.1.size∧x.1.extract 0 p.size=p)(hidx:idx (Oi.keys l) p=0)(hl:l.length≤1)(hint:∀ x∈l,∃ i,x.2 = .int .i64 i)(hB:B≤w.heap.size) :
  Calls Tryz.prog 160 #[.pointer (some ⟨g,0,none⟩),.string p] w fun e w'=>∃ v,e = .returned v∧Own w' B 9 1 v l.length (sc l)∧Fr [] w w':=by
 obtain⟨i3,hi,hz0,hz1,hz2⟩:=info_parts infoStr
 obtain⟨C,hC⟩:∃ C,w.heap.size=C:=⟨_,rfl⟩
 have H:=hid (And.intro h (And.intro hpre (And.intro hidx (And.intro hl (And.intro hint (And.intro hB hC))))))
 obtain⟨n1,n16,jn,vs,ps,h1,h2,h3,h4,h5,h6,h7⟩:=h
 obtain⟨av,cv,hv⟩:=h3.form
 subst hv
 have c0:=h2.cell 0
 have hgl:=h2.lt
 simp at c0
 have HR:=hid (And.intro h1 (And.intro h3 (And.intro h5 (And.intro h6 h7))))
 clear h1 h2 h3 h4 h5 h6 h7 hpre hidx hl hint hC
 refine(callsIn_wide (n:=8)).1 ?_
 refine callsIn_of_wp_marks Tryz.func160 rfl trivial ?_ rfl
 simp only[Tryz.ntmps160,List.size_toArray,List.length_cons,List.length_nil,Nat.reduceAdd,Nat.reduceSub,Array.replicate_succ,Array.replicate_zero,List.push_toArray,List.append_toArray,List.nil_append,List.cons_append]
 refine wpIn_wide.2 ?_
 go_wp2_with fail
 have hU0:UI w C j l 0 [] (w.alloc (.cells #[.slice none 0 0] 59)):=⟨(Fr.refl _ _).alloc _,List.nodup_nil,by simp,_,at_new H.out.2.2.2.2.2.2,by simpa using Own.nil _ _ _ _,fun _=>rfl⟩
 rw[H.out.2.2.2.2.2.2]
 refine wp_loop (fun a W=>∃ (i:Nat) (Ds:List Nat) (x7 x15 x16 x17 x18 x19 x20 x27:Value),a={ tmps:=#[.pointer (some ⟨g,0,none⟩),.string p,undef,undef,.slice none 0 0,.pointer (some ⟨C,0,none⟩),undef,x7,undef,.pointer (some ⟨g,0,none⟩),.pointer (some ⟨g,0,none⟩),.pointer (some ⟨g,0,none⟩),.slice av n cv,.int .i64 n,.int .i64 i,x15,x16,x17,x18,x19,x20,undef,undef,undef,undef,undef,undef,x27,undef,undef,undef],defers:=marks Ds }∧i≤n∧UI w C j l i Ds W) (fun a _=>n - (intOf (a.tmps.getD 14 undef)).toNat) ⟨0,[],_,_,_,_,_,_,_,_,rfl,by omega,hU0⟩ ?_
 clear hU0
 rintro a W ⟨i,Ds,x7,x15,x16,x17,x18,x19,x20,x27,rfl,hin,hU⟩
 by_cases hlt:i<n
 ·obtain⟨h1,h3,h5,h6,h7⟩:=HR.out
  obtain⟨q,hq⟩:∃ q,ps[i]? = some q:=⟨_,List.getElem?_eq_getElem (by omega)⟩
  obtain⟨gq,cq,hgq,hvq,hrq,hgl2,hcell⟩:=h3.cell pc_len h1.symm hq
  cases hvq
  have HU:=hid hU
  have e0:W.cell? ⟨gq,i,none⟩=some (.pointer (some ⟨q,0,none⟩)):=by
   have:=hcell 0 _ (by omega) rfl
   rw[hU.fr.cell' hgl2]
   simpa using this
  have HM:=hid (shard_map h6 h7 hq)
  have hin1:(i:Int)<(n:Int):=by omega
  clear h1 h3 h5 h6 h7 hrq hcell hq hU
  go_wp2_with fail
  refine(Oi.und_any W q p).mono ?_
  rintro e w1 ⟨rfl,hw1⟩
  obtain⟨E,hE⟩:∃ E,W.heap.size=E:=⟨_,rfl⟩
  have hs1:w1.heap.size=E+1+1:=by rw[hw1];simp[hE]
  have F1:Fr [] W w1:=by rw[hw1];exact((Fr.refl _ _).alloc _).alloc _
  have b1:Holds w1 E 168 #[.pointer (some ⟨q,0,none⟩)]:=by rw[hw1];exact(at_new hE).alloc _
  have b2:Holds w1 (E+1) 9 #[.string p]:=by rw[hw1];exact at_new (by simp[hE])
  obtain⟨v0,o1,o2,o3⟩:=HU.out.out
  have hCE:C<E:=by rw[←hE];exact o1.lt
  have hwE:C≤E:=by omega
  have c1:=b1.cell 0
  have c2:=b2.cell 0
  simp at c1 c2
  obtain⟨L,hL⟩:∃ L,(if i=j then l else [])=L:=⟨_,rfl⟩
  rw[hL] at HM
  have hM1:=HM.out.fr0 (HU.out.fr.trans F1)
  have hqC:q<C:=by
   obtain⟨v,q1,_⟩:=HM.out.at_
   rw[←H.out.2.2.2.2.2.2]
   exact q1.lt
  have hown:∀ v k,w1.cell? ⟨q,0,none⟩=some v→ownOf v=some k→k<E+1+1∧k≠C:=by
   intro v k hv hk
   obtain⟨v',q1,q2⟩:=HM.out.at_
   have e:=(q1.fr (HU.out.fr.trans F1) (by simp)).cell 0
   rw[hv] at e
   simp at e
   subst e
   have:=own_lt q2 hk
   rw[H.out.2.2.2.2.2.2] at this
   omega
  have hpre:∀ x∈L,p.size≤x.1.size∧x.1.extract 0 p.size=p:=by
   intro x hx
   rw[←hL] at hx
   split at hx
   ·exact H.out.2.1 x hx
   ·cases hx
  have hidx:idx (Oi.keys L) p=0:=by
   rw[←hL]
   split
   ·exact H.out.2.2.1
   ·rfl
  have hll:L.length≤1:=by
   rw[←hL]
   split
   ·exact H.out.2.2.2.1
   ·simp
  have HL:=hid hL
  have HO:=hid (And.intro o1 (And.intro o2 (And.intro o3 (And.intro F1 hE))))
  have hI0:RI w1 (E+1+1) C v0 [] w1:=⟨v0,o1.fr F1 (by simp),Kx.refl _ _ _,.inl ⟨rfl,rfl⟩⟩
  clear hw1 b1 b2 o1 o2 o3 F1 hL
  rw[hE]
  clear hE
  go_wp2_with fail
  refine(wpIn_wide (n:=8)).1 ?_
  refine wpIn_rangeFunc_ownG (F:=Fence.wide) rfl (by omega) (gf:=234) (lb:=#[.pointer (some ⟨E,0,none⟩),.pointer (some ⟨E+1,0,none⟩)]) rfl trivial (enters_of Tryz.func234 (by kernel_rfl) rfl)
   (Oi.under_stops (8 - 1) (by omega) B E (E+1) q (E+1+1) C L p hpre hidx w1 hM1 c1 c2 (by omega) (by omega) (by omega) (by omega) hown) (fun h k=>h.trans k) ?keepb (Below.refl _ _) (fun _=>rfl)
   (RI w1 (E+1+1) C v0) (fun _ _ _=>False) ?own1 (fun _ _ _ _ _ h=>h.elim) hI0
   (fun x=>{ tmps:=#[.pointer (some ⟨g,0,none⟩),.string p,undef,undef,.slice none 0 0,.pointer (some ⟨C,0,none⟩),undef,.pointer (some ⟨q,0,none⟩),.string x.1,.pointer (some ⟨g,0,none⟩),.pointer (some ⟨g,0,none⟩),.pointer (some ⟨g,0,none⟩),.slice (some ⟨gq,0,none⟩) n cv,.int .i64 n,.int .i64 i,.bool true,.pointer (some ⟨gq,i,none⟩),.pointer (some ⟨q,0,none⟩),.pointer (some ⟨q,0,none⟩),.string p,.func (.func 234) #[] #[.pointer (some ⟨E,0,none⟩),.pointer (some ⟨E+1,0,none⟩)],.string x.1,x.2,undef,undef,undef,undef,x27,undef,undef,undef],defers:=[] }) ?assign ?body ?done ?stop
  case keepb=>exact fun W l o o' h1 h2 _ _=>kx_grown (Kx.refl _ _ W) (grownBy_putObj' W l o') (by have:=(Array.getElem?_eq_some_iff.1 h2).1;omega) (fun r e=>by cases e;omega)
  case own1 =>
   rintro s X Y row ⟨v,a,k,h⟩ hg hr
   refine⟨v,holds_grown a hg fun r e=>(hr r e).2,kx_grown k hg (by omega) fun r e=>by have:=(hr r e).1;omega,?_⟩
   rcases h with h|⟨x,h,o⟩
   ·exact .inl h
   ·exact .inr ⟨x,h,own_grown o hg fun r e=>(hr r e).2⟩
  case assign =>
   intro l x W K hK
   simp only[Oi.enc]
   gi_wp2
   exact hK
  case body =>
   rintro l2 pre x W2 ⟨v,hb,kx,hv⟩ hlen
   have hp0:pre=[]:=List.eq_nil_of_length_eq_zero (by omega)
   subst hp0
   have hv0:v=v0:=by
    rcases hv with⟨_,h⟩|⟨y,h,_⟩
    ·exact h
    ·cases h
   have hij:i=j:=by
    rcases Nat.lt_or_ge 0 L.length with h|h
    ·by_cases e:i=j
     ·exact e
     ·have h':=HL.out
      rw[if_neg e] at h'
      rw[←h'] at h
      cases h
    ·simp at hlen
     omega
   have hv1:v0 = .slice none 0 0:=HO.out.2.2.1 (by omega)
   rw[hv1] at hv0
   subst hv0
   have HB:=hid (And.intro hb kx)
   have cb:=hb.cell 0
   have zb:=hb.frozen 0
   have hCl:=hb.lt
   have hW:=kx.size
   simp at cb
   clear hb kx hv hI0 hM1 c1 c2
   gi_wp2_with (gi_at_builtin;go_loud (refine wpListIn_append_sl rfl (.tmp 23) (.tmp 25) 59 rfl i3 _ 16 Tryz.underlying59 hi hz0 hz1 hz2 rfl (by decide) _ none rfl (Sl.nil _ _ _) _ 1 1 [.string x.1] rfl rfl (cells_holds (at_new (t:=9) (cs:=#[.string x.1]) (by simp))) (by simp[Value.oneCell']) (by unfold maxLen;omega) (by omega) ?_;intro v2 W3 own2 hs2 hf2 ho2 hm2;obtain⟨g2,rfl⟩:=hm2 (by omega);obtain⟨c2,rfl,r2⟩:=hs2.own_row;have HP:=hid (box_push (D:=w1.heap.size) HB.out.1 (Own.nil W2 (E+1+1) 9 1) (by decide) (by omega) hf2 r2 ho2);have y0:=((HB.out.1.alloc _).fr hf2 (by simp)).frozen 0;have y1:=((HB.out.1.alloc _).fr hf2 (by simp)).cell 0;simp at y1))
   exact⟨HP.out.1,HP.out.2.1,_,HP.out.2.2.1,HB.out.2.trans HP.out.2.1,.inr ⟨x,rfl,by simpa using HP.out.2.2.2⟩⟩
  case done =>
   rintro D xs W2 hD rfl ⟨v,hb,kx,hv⟩ hm
   have HB:=hid (And.intro hb (And.intro kx (And.intro hv hm)))
   clear hb kx hv hm hI0 hM1 c1 c2
   go_wp2_with fail
   obtain⟨hb,kx,hv,hm⟩:=HB.out
   obtain⟨o1,o2,o3,F1,hE⟩:=HO.out
   have f2:Fr [] w W2:=by
    have f:=HU.out.fr.trans F1
    refine⟨kx.os.trans f.os,kx.tape.trans f.tape,kx.output.trans f.output,Nat.le_trans f.size kx.size,fun k hk _=>?_⟩
    have:=H.out.2.2.2.2.2.2
    exact(kx.block k (by omega) (by omega)).trans (f.block k hk (by simp))
   have hmk:∀ D',D'∈Ds→C<D'∧D'<E∧W2.heap[D']? = some (.deferred (some [])):=fun D' hD'=>by
    obtain⟨a,b⟩:=HU.out.mks D' hD'
    have hl:=(Array.getElem?_eq_some_iff.1 b).1
    exact⟨a,by omega,((kx.block D' (by omega) (by omega)).trans (F1.block D' hl (by simp))).trans b⟩
   have hU:UI w C j l (i+1) (D::Ds) W2:=by
    refine⟨f2,List.nodup_cons.2 ⟨fun h=>?_,HU.out.nodup⟩,fun D' hD'=>?_,v,hb,?_⟩
    ·have:=(hmk D h).2.1
     omega
    ·rcases List.mem_cons.1 hD' with rfl|h
     ·exact⟨by omega,hm⟩
     ·exact⟨(hmk D' h).1,(hmk D' h).2.2⟩
    ·rcases hv with⟨hx,rfl⟩|⟨x,hx,ho⟩
     ·have hk:=kx_own (o2.fr0 F1) kx (fun k hk=>⟨by have:=own_lt o2 hk;omega,fun e=>by
       subst e
       have h1:=(o2.ty hk).1
       rw[o1.ty] at h1
       exact absurd (Option.some.inj h1) (by decide)⟩)
      have hL:=HL.out
      by_cases e:i=j
      ·rw[if_pos e] at hL
       rw[←hL] at hx
       subst hx
       have hno:¬ j<i:=by omega
       rw[if_neg hno,if_neg hno] at hk
       rw[if_pos (by omega),if_pos (by omega)]
       exact⟨hk,fun h=>absurd (by omega) h⟩
      ·have hji:(j<i+1) ↔ j<i:=by omega
       simp only[hji]
       exact⟨hk,o3⟩
     ·have hL:=HL.out
      by_cases e:i=j
      ·rw[if_pos e] at hL
       rw[←hL] at hx
       subst hx
       rw[if_pos (by omega),if_pos (by omega)]
       exact⟨own_lower ho (by omega),fun h=>absurd (by omega) h⟩
      ·rw[if_neg e] at hL
       rw[←hL] at hx
       cases hx
   refine⟨⟨i+1,D::Ds,_,_,_,_,_,_,_,_,rfl,by omega,hU⟩,?_⟩
   simp[intOf]
   omega
  case stop=>exact fun D c pre W _ _ h _=>h.elim
 ·obtain rfl:n=i:=by omega
  obtain⟨v,o1,o2,o3⟩:=hU.out
  rw[if_pos jn,if_pos jn] at o2
  obtain⟨a2,c2,hv⟩:=o2.form
  subst hv
  have y0:=o1.cell 0
  simp at y0
  have HU:=hid (And.intro hU (And.intro o1 o2))
  have hCw:=H.out.2.2.2.2.2.2
  have HCw:=hid (And.intro hCw hB)
  clear hCw
  have HS:=hid (So.sort_few W a2 l.length c2 H.out.2.2.2.1)
  clear hU o1 o2 o3
  go_wp2_with fail
  refine HS.out.mono ?_
  rintro e W2 ⟨rfl,rfl⟩
  go_wp2_with fail
  have hCw:=HCw.out.1
  have hk:=takeAll_fr Ds W (Kx.of_fr (n₁:=C) (C:=C) HU.out.1.fr (by omega)) (fun D hD=>Nat.le_of_lt (HU.out.1.mks D hD).1) (by omega)
  have f:Fr [] w (takeAll Ds W):=⟨hk.os,hk.tape,hk.output,hk.size,fun k hk' _=>hk.block k (by omega) (by omega)⟩
  have ho:=takeAll_own Ds W HU.out.2.2 HU.out.1.nodup (fun D hD=>(HU.out.1.mks D hD).2)
  refine leave_marks Ds W HU.out.1.nodup (fun D hD=>(HU.out.1.mks D hD).2) ?_
  exact⟨_,(results_tmp (t:=4) rfl _ _ _),_,rfl,own_lower ho (by omega),f⟩
end Go.Proofs.YtjmkkcckfbnmeaaGreatDoor.Rk
namespace Go.Proofs.YtjmkkcckfbnmeaaGreatDoor.Cr
open Go.RowKit
def pfx:ByteArray:=tn++⟨#[47]⟩
theorem pfx_facts:pfx.size≤key.size∧key.extract 0 pfx.size=pfx:=by decide +kernel
theorem pfx_idx:idx (Oi.keys [(key,.int .i64 0)]) pfx=0:=by
 have h:¬ kl key<kl pfx:=by decide +kernel
 simp[idx,Oi.keys,h]
theorem ret_list (W:World)(tmps:Array Value)(g:Nat)(a:M.Resp)(v:Value)(hp:Holds W g 53 (Ev.rsc a v).toArray)(h4:tmps[4]?.getD undef = .pointer (some ⟨g,0,none⟩)) :
  (results Tryz.f108 tmps).run Tryz.prog W = .ok (.agg (Ev.rsc a v).toArray) W:=by
 have hr:Tryz.f108.results=#[.cell 4 53]:=rfl
 obtain⟨q0,q1,q2,q3,q4,q5,q6,q7⟩:=hp.cs8
 simp[Ev.rsc] at q0 q1 q2 q3 q4 q5 q6 q7
 simp[results,h4,go_sem,q0,q1,q2,q3,q4,q5,q6,q7,Ev.rsc]
theorem list_end {tmps:Array Value}{w W:World}{B:Nat}{a a0:M.Resp}{v v0:Value}(hB:B≤w.heap.size)(b:Holds W w.heap.size 53 (Ev.rsc a0 v0).toArray)(hi:Ev.ItsAt W B v a.items)(hf:Fr [] w W)(h4:tmps[4]?.getD undef = .pointer (some ⟨w.heap.size,0,none⟩)) :
  bodyPost Tryz.prog Tryz.f108 (fun e w'=>∃ v,e = .returned (.agg (Ev.rsc a v).toArray)∧Ev.ItsAt w' B v a.items∧Fr [] w w') Exit.ret ⟨tmps,[]⟩ (Ev.put8 W w.heap.size 0 a v):=by
 have x8:FrX B [53] [] W (Ev.put8 W w.heap.size 0 a v):=Ev.put8_frx hB b.ty (by simp)
 exact bodyPost_ret (ret_list _ _ w.heap.size _ _ (Ev.put8_holds b) h4) rfl ⟨_,rfl,hi.frx0 x8 (by decide),Ev.put8_frn hf (Nat.le_refl _)⟩
theorem list_any (w:World)(B g:Nat)(k:Cf)(x:M.Core)(p:M.Place)(h:CoreAt w B g k x)(hB:B≤w.heap.size)(hp:x.place=some p) :
  Calls Tryz.prog 108 #[.pointer (some ⟨g,0,none⟩),.string tn] w fun e w'=>∃ v,e = .returned (.agg (Ev.rsc x.list v).toArray)∧Ev.ItsAt w' B v x.list.items∧Fr [] w w':=by
 obtain⟨i3,hi,hz0,hz1,hz2⟩:=info_parts Ev.infoI
 obtain⟨vp,rg,bg,hg,cg,h⟩:=h
 obtain⟨w0,hw0⟩:∃ w0,w0=(w.alloc (.cells (Ev.rsc { kind:=0 } (.slice none 0 0)).toArray 53)).alloc (.cells (Ev.rsc { kind:=10 } (.slice none 0 0)).toArray 53):=⟨_,rfl⟩
 have f0:Fr [] w w0:=by rw[hw0];exact((Fr.refl _ _).alloc _).alloc _
 have b4:Holds w0 w.heap.size 53 (Ev.rsc { kind:=0 } (.slice none 0 0)).toArray:=by rw[hw0];exact(Holds.new _ _ _).alloc _
 have b5:Holds w0 (w.heap.size+1) 53 (Ev.rsc { kind:=10 } (.slice none 0 0)).toArray:=by rw[hw0];exact at_new (by simp)
 have h0:=h.fr0 f0
 have c10:=h0.cell.cell 10
 have hgl:=h0.cell.lt
 simp at c10
 have HN:=hid (Id.name_low tn w0 low_tn)
 have HF:=hid (And.intro h0 (And.intro f0 (And.intro b4 b5)))
 simp only[Ev.rsc] at hw0
 have HU:Hid (Calls Tryz.prog 160 #[.pointer (some ⟨rg,0,none⟩),.string (tn++⟨#[47]⟩)] w0 fun e w'=>∃ v,e = .returned v∧Own w' B 9 1 v (ents x.found).length (Rk.sc (ents x.found))∧Fr [] w0 w'):=by
  refine hid (Rk.under_any w0 B rg k.shards _ (ents x.found) pfx h0.reg ?_ ?_ ?_ ?_ (by have:=f0.size;omega))
  ·unfold ents
   split
   ·intro y hy
    simp at hy
    subst hy
    exact pfx_facts
   ·simp
  ·unfold ents
   split
   ·exact pfx_idx
   ·rfl
  ·unfold ents
   split<;>simp
  ·unfold ents
   split
   ·intro y hy
    simp at hy
    subst hy
    exact⟨_,rfl⟩
   ·simp
 clear h h0 f0 b4 b5
 obtain⟨t0,t2,_⟩:=Id.low_facts low_tn
 have HT:Hid (∃ T,tn=T):=hid ⟨_,rfl⟩
 generalize tn=T at HN HU t0 t2 ⊢
 go_enter Tryz.func108,Tryz.ntmps108
 go_wp2_with fail
 rw[←hw0]
 clear hw0
 refine HN.out.mono ?_
 rintro e w1 ⟨rfl,rfl⟩
 go_wp2_with fail
 refine HU.out.mono ?_
 rintro e w2 ⟨v,rfl,ho,f1⟩
 cases hfd:x.found with
 | false =>
  rw[hfd] at ho
  obtain⟨a,c,hv⟩:=ho.form
  subst hv
  have b5:=HF.out.2.2.2.fr f1 (by simp)
  have b4:=HF.out.2.2.1.fr f1 (by simp)
  clear ho
  have hi0:Ev.ItsAt w2 B (.slice none 0 0) ({ kind:=10 } : M.Resp).items:=Own.nil _ _ _ _
  have hxl:x.list={ kind:=10 }:=by simp[M.Core.list,hfd]
  have HX:=hid (And.intro hxl (And.intro hi0 (HF.out.2.1.trans f1)))
  have h4l:=b4.lt
  have h5l:=b5.lt
  obtain⟨y0,y1,y2,y3,y4,y5,y6,y7⟩:=b5.cs8
  obtain⟨z0,z1,z2,z3,z4,z5,z6,z7⟩:=b4.fz8
  obtain⟨d0,d1,d2,d3,d4,d5,d6,d7⟩:=b4.cs8
  have HB:=hid (And.intro b4 b5)
  simp[Ev.rsc] at y0 d0 y1 d1 y2 d2 y3 d3 y4 d4 y5 d5 y6 d6 y7 d7
  clear b4 b5 hi0 hxl f1 hfd
  go_wp2_with fail
  refine wp_loop_rounds 1 ?_
  rw[rounds_succ]
  go_wp2_with fail
  rw[HX.out.1]
  exact list_end (a:={ kind:=10 }) hB HB.out.1 HX.out.2.1 HX.out.2.2 rfl
 | true =>
  rw[hfd] at ho
  obtain⟨gs,c,hgs,rfl,hrow⟩:=ho.pos (by simp[ents])
  have k0:w2.cell? ⟨gs,0,none⟩=some (.string key):=hrow.cell rfl
  obtain⟨q,hq,hop,hpl⟩:∃ q,B≤q∧Own w2 B 182 1 vp 1 [.pointer (some ⟨q,0,none⟩)]∧PlaceAt w2 B q p:=by
   have h:=(HF.out.1.fr0 f1).pls
   rw[hp] at h
   exact h
  obtain⟨ga,cp,hga,rfl,hrow2⟩:=hop.pos (by omega)
  have p0:w2.cell? ⟨ga,0,none⟩=some (.pointer (some ⟨q,0,none⟩)):=hrow2.cell rfl
  have c9:=(HF.out.1.fr0 f1).cell.cell 9
  have c10':=(HF.out.1.fr0 f1).cell.cell 10
  simp at c9 c10'
  have hreg:=(HF.out.1.fr0 f1).reg
  rw[hfd] at hreg
  have HFi:=hid (fun W (f:Fr [] w2 W)=>Rk.find_yes W B rg k.shards key 0 (hreg.fr0 f) key_facts.2)
  have hel:(ents true).length=1:=rfl
  rw[hel]
  have hxl:x.list={ kind:=10,items:=[⟨M.home,p.drawn,false,⟨#[]⟩⟩] }:=by
   simp[M.Core.list,hfd,hp]
   rfl
  have HX:=hid (And.intro hxl (And.intro hpl (HF.out.2.1.trans f1)))
  have HB:=hid (And.intro (HF.out.2.2.1.fr f1 (by simp)) (HF.out.2.2.2.fr f1 (by simp)))
  have C9:=hid (And.intro c9 (And.intro c10' p0))
  obtain⟨K,hK⟩:∃ K,key=K:=⟨_,rfl⟩
  rw[hK] at k0 HFi
  clear hrow hop hpl hrow2 hreg hel hxl ho f1 hfd hK hp c10
  go_wp2_with fail
  refine wp_loop_rounds 2 ?_
  rw[rounds_succ]
  go_wp2_with fail
  go_region_held3 (fun w'=>w'.cell? ⟨g,9,none⟩=some (.slice (some ⟨ga,0,none⟩) 1 cp)∧w'.cell? ⟨g,10,none⟩=some (.pointer (some ⟨rg,0,none⟩))∧w'.cell? ⟨ga,0,none⟩=some (.pointer (some ⟨q,0,none⟩))) (first|with_reducible exact hS|go_keep)
   (first|(go_at_call 151;refine(HFi.out _ (by first|exact(Fr.refl _ _).drewN _|exact(Fr.refl _ _).drew)).mono ?_;rintro e w3 ⟨rfl,f3'⟩;have f3:Fr [] w2 w3:=(by first|exact((Fr.refl _ _).drewN _).trans f3'|exact(Fr.refl _ _).drew.trans f3');have hS:=(⟨f3.cell C9.out.1 (block_lt_of_cell C9.out.1) (by simp),f3.cell C9.out.2.1 (block_lt_of_cell C9.out.2.1) (by simp),f3.cell C9.out.2.2 (block_lt_of_cell C9.out.2.2) (by simp)⟩:w3.cell? ⟨g,9,none⟩=_∧w3.cell? ⟨g,10,none⟩=_∧w3.cell? ⟨ga,0,none⟩=_)))
  go_wp2_with fail
  obtain⟨cg',lg',_,_,hq1,_,_⟩:=HX.out.2.1.fr0 f3
  have q1:=hq1.cell 1
  have q5:=hq1.cell 5
  have ql:=hq1.lt
  have b5:=HB.out.2.fr f3 (by simp)
  have y7:=b5.cell 7
  have bl:=b5.lt
  have hqn:q≠w.heap.size+1:=hq1.ne b5 (by decide)
  simp[Ev.rsc] at q1 q5 y7
  have hsz:w.heap.size+1<w3.heap.size:=bl
  have H5:=hid b5
  have F3:=hid (HX.out.2.2.trans f3)
  have H4:=hid (HB.out.1.fr f3 (by simp))
  obtain⟨wi,hwi⟩:∃ wi:M.Item,wi=⟨M.home,p.drawn,false,⟨#[]⟩⟩:=⟨_,rfl⟩
  have HWI:=hid hwi
  clear hwi hS f3' f3 hq1 b5 k0 p0 c9 c10'
  rename_i hHeld
  clear hHeld
  go_region_law (first
   | (refine step_append_sl rfl (.tmp 40) (.tmp 50) 51 rfl i3 _ 48 Tryz.underlying51 hi hz0 hz1 hz2 rfl (by decide) _ none rfl (Sl.nil _ _ _) _ 1 1 (Ev.ic ⟨M.home,p.drawn,false,⟨#[]⟩⟩) rfl rfl (cells_holds (at_new (t:=154) (cs:=(Ev.ic ⟨M.home,p.drawn,false,⟨#[]⟩⟩).toArray) rfl)) (Ev.ic_one _) (by unfold maxLen;omega) (by omega) ?_;intro v4 w4 own4 hs4 hf4 ho4 hm4;obtain⟨g4,rfl⟩:=hm4 (by omega);obtain⟨c4,rfl,r4⟩:=hs4.own_row;have f4:Fr [] w3 w4:=(by first|exact(((Fr.refl [] w3).drewN _).alloc _).trans hf4|exact(((Fr.refl [] w3).drew).alloc _).trans hf4);have b4':=H5.out.fr f4 (by simp);have x7:=b4'.cell 7;have x8:=b4'.frozen 7;simp[Ev.rsc] at x7))
  all_goals
   have hg4:w3.heap.size≤g4:=by
    rcases ho4 with h|⟨g',h,hg'⟩
    ·cases h
    ·cases h
     simp at hg'
     omega
   simp only[Nat.zero_add,List.nil_append] at r4
   obtain⟨W5,hW5⟩:∃ W5,W5=w4.setCell ⟨w.heap.size+1,7,none⟩ (.slice (some ⟨g4,0,none⟩) 1 c4):=⟨_,rfl⟩
   rw[←hW5]
   have f5:Fr [w.heap.size+1] w4 W5:=by rw[hW5];exact(Fr.refl _ _).setCell (by simp) _
   have b7:Holds W5 (w.heap.size+1) 53 (Ev.rsc { kind:=10 } (.slice (some ⟨g4,0,none⟩) 1 c4)).toArray:=by rw[hW5];simpa[Ev.rsc] using b4'.set 7 (.slice (some ⟨g4,0,none⟩) 1 c4)
   have b8:=(H4.out.fr f4 (by simp)).fr f5 (by simp)
   have hi5:Ev.ItsAt W5 B (.slice (some ⟨g4,0,none⟩) 1 c4) [⟨M.home,p.drawn,false,⟨#[]⟩⟩]:=.inr ⟨g4,c4,by omega,rfl,by rw[hW5];simpa[flat] using r4.far (show g4≠w.heap.size+1 by omega) _⟩
   have H6:=hid (And.intro b8 (And.intro hi5 ((F3.out.trans f4).step f5 (fun k hk=>.inr (by simp at hk;omega)))))
   have h4l:=b8.lt
   have h5l:=b7.lt
   obtain⟨y0,y1,y2,y3,y4,y5,y6,y7⟩:=b7.cs8
   obtain⟨z0,z1,z2,z3,z4,z5,z6,z7⟩:=b8.fz8
   obtain⟨d0,d1,d2,d3,d4,d5,d6,d7⟩:=b8.cs8
   simp[Ev.rsc] at y0 d0 y1 d1 y2 d2 y3 d3 y4 d4 y5 d5 y6 d6 y7 d7
   clear hW5 f5 b7 b8 hi5 f4 b4' x7 x8 r4 hs4 hf4 ho4 hm4 q1 q5 ql bl
   go_wp2_with fail
   rw[rounds_succ]
   go_wp2_with fail
   rw[HX.out.1]
   exact list_end (a:={ kind:=10,items:=[⟨M.home,p.drawn,false,⟨#[]⟩⟩] }) hB H6.out.1 H6.out.2.1 H6.out.2.2 rfl
end Go.Proofs.YtjmkkcckfbnmeaaGreatDoor.Cr

namespace Go.Proofs.YtjmkkcckfbnmeaaGreatDoor.Cr
open Go.RowKit
theorem may_write {x:M.Core}{p:M.Place}{b:Int × Int}{ops:List M.Op}{ap:Bool}(hc:M.mayCore x=true)(h:M.mayWrite p.col x.counter b ops ap=true):MayWrite x p b ops:=by
 simp only[M.mayCore,decide_eq_true_eq] at hc
 unfold M.mayWrite at h
 simp only[Bool.and_eq_true,decide_eq_true_eq,List.all_eq_true,Bool.or_eq_true] at h
 obtain⟨⟨⟨⟨h1,h2,h3,h4⟩,h5⟩,h6⟩,h7⟩:=h
 refine⟨by rw[hc.1,hc.2.1,hc.2.2.1,hc.2.2.2.1];rfl,by omega,by omega,h1,by omega,by omega,fun o ho=>(h5 o ho).1,fun o ho=>(h5 o ho).2,h6,h4,fun he=>?_⟩
 rw[hc.2.2.1] at he ⊢
 rcases h7 with h|⟨h,_⟩
 ·exact absurd he h
 ·exact h
theorem may_drop {x:M.Core}{p:M.Place}{b:Int × Int}(hc:M.mayCore x=true)(h:(x.found&&decide (0≤b.1∧b.1≤8∧0≤b.2∧b.2≤1048576∧0≤p.col.bytes))=true):MayDrop x p b:=by
 simp only[M.mayCore,decide_eq_true_eq] at hc
 simp only[Bool.and_eq_true,decide_eq_true_eq] at h
 exact⟨by rw[hc.1,hc.2.1,hc.2.2.1,hc.2.2.2.1];rfl,by omega,by omega,h.2.1,h.2.2.1,h.2.2.2.1,h.2.2.2.2.1,h.2.2.2.2.2,h.1⟩
theorem may_each {x:M.Core}{p:M.Place}{b:Int × Int}{o:M.Op}(hc:M.mayCore x=true)(h:M.mayWrite p.col x.counter b [o] true=true) :
  (p.col.check [o] (65536 - b.2)).2.2≠0∨M.mayApply p.col o (x.counter+1)=true:=by
 unfold M.mayWrite at h
 simp only[Bool.and_eq_true,decide_eq_true_eq,List.all_eq_true,Bool.or_eq_true] at h
 rcases h.2 with h|⟨_,h⟩
 ·exact .inl h
 ·right
  rcases h with h|h
  ·simp at h
  ·have:=h 0 (by simp)
   simpa using this
theorem one_each {x:M.Core}{p:M.Place}{b:Int × Int}{o:M.Op}(hc:M.mayCore x=true)(h:M.mayWrite p.col x.counter b [o] true=true)(hck:(p.col.check [o] (x.maxBytes - b.2)).2.2=0) :
  ∀ (j:Nat) (o':M.Op),([o]:List M.Op)[j]? = some o'→∀ W cl B,Co.ColAt W B cl ((([o]:List M.Op).take j).foldl (fun c o=>c.apply o (x.counter+1)) p.col)→B≤W.heap.size→B≤cl →
   Calls Tryz.prog 114 #[.pointer (some ⟨cl,0,none⟩),.agg #[.bool o'.del,.string o'.uid,.string o'.card,.int .i64 o'.ck,.int .i64 o'.cv],.int .i64 (x.counter+1)] W fun e W'=>(∃ b,e = .returned (.bool b))∧Co.ColAt W' B cl ((([o]:List M.Op).take (j+1)).foldl (fun c o=>c.apply o (x.counter+1)) p.col)∧FrX B Co.Ts [] W W':=by
 intro j o' hj W cl B hcl hB hb
 match j,hj with
 | 0,hj =>
  simp only[List.getElem?_cons_zero,Option.some.injEq] at hj
  subst hj
  have hmx:x.maxBytes=65536:=by simp only[M.mayCore,decide_eq_true_eq] at hc;exact hc.2.2.1
  rcases may_each hc h with h'|h'
  ·rw[hmx] at hck
   exact absurd hck h'
  ·exact(Co.apply_may W B cl p.col o (x.counter+1) (by simpa using hcl) hB hb h').mono fun e W' ⟨a,b,c⟩=>⟨a,by simpa using b,c⟩
 | j+1,hj=>simp at hj
theorem work_any (w:World)(B g:Nat)(k:Cf)(x:M.Core)(p:M.Place)(q:M.Req)(vo:Value)(h:CoreAt w B g k x)(hg':B≤g)(hB:B≤w.heap.size)(hp:x.place=some p)(hal:p.alive=true)(ho:Ev.OpsAt w B vo q.ops)(hc:M.mayCore x=true)(hm:M.mayWork p.col x.found x.counter x.budget q=true) :
  Calls Tryz.prog 112 #[.pointer (some ⟨g,0,none⟩),.int .i64 0,.agg (Ev.rqc q vo).toArray] w fun e w'=>∃ vi,e = .returned (.tuple #[.agg (Ev.rsc (x.work q).2 (.slice none 0 0)).toArray,vi])∧Ev.ItsAt w' B vi (x.work q).2.items∧CoreAt w' B g k (x.work q).1∧FrX B Ts [] w w':=by
 unfold M.mayWork at hm
 split at hm
 ·rename_i hk
  cases hb:x.budget with
  | none=>rw[hb] at hm;cases hm
  | some b =>
   rw[hb] at hm
   exact work_drop w B g k x p q vo h hg' hB hp hal hk b hb (may_drop hc hm)
 split at hm
 ·rename_i hk
  cases hb:x.budget with
  | none=>rw[hb] at hm;cases hm
  | some b =>
   rw[hb] at hm
   exact work_put w B g k x p q vo h hg' hB hp hal hk b hb (may_write hc hm) (fun hck j o hj W cl hcl hB hb=>one_each hc hm hck j o hj W cl B hcl hB hb)
 split at hm
 ·rename_i hk
  cases hb:x.budget with
  | none=>rw[hb] at hm;cases hm
  | some b =>
   rw[hb] at hm
   exact work_del w B g k x p q vo h hg' hB hp hal hk b hb (may_write hc hm) (fun hck j o hj W cl hcl hB hb=>one_each hc hm hck j o hj W cl B hcl hB hb)
 split at hm
 ·rename_i hk
  cases hb:x.budget with
  | none=>rw[hb] at hm;cases hm
  | some b =>
   rw[hb] at hm
   exact work_batch w B g k x p q vo h hg' hB hp hal hk b hb (may_write hc hm) ho
 split at hm
 ·rename_i hk
  simp only[Bool.and_eq_true,decide_eq_true_eq] at hm
  exact work_delta w B g k x p q vo h hg' hB hp hal hk hm.1.1 hm.1.2 hm.2.1 hm.2.2
 ·rcases of_decide_eq_true hm with hk|hk
  ·exact work_get w B g k x p q vo h hg' hB hp hal hk
  ·exact work_wait w B g k x p q vo h hg' hB hp hal hk
end Go.Proofs.YtjmkkcckfbnmeaaGreatDoor.Cr
namespace Go.Proofs.YtjmkkcckfbnmeaaGreatDoor.Tk
open Go.RowKit Cr
abbrev TTs:List TypeId:=140::Ts
theorem task_sh {w w':World}{B g:Nat}(h:FrX B Ts [g] w w')(ht:tyOf w g=some 140):FrX B TTs [] w w' :=
 (h.mono (Ts:=TTs) (fun _ h=>by simp[h]) (fun _ h=>h)).shed (fun z hz=>.inr (.inr ⟨140,by simp,by simp at hz;subst hz;exact ht⟩))
theorem task_fr {w w':World}{B g:Nat}(h:Fr [g] w w')(hg:B≤g):FrX B Ts [g] w w':=FrX.of_fr h (by simpa using hg)
theorem core_set {w w':World}{B g xp:Nat}{k:Cf}{x:M.Core}(h:CoreAt w B xp k x)(hf:Fr [g] w w')(hg:B≤g)(ht:tyOf w g=some 140):CoreAt w' B xp k x :=
 h.frx (FrX.of_frT (Ts:=[140]) (T:=[]) hf (by simpa using hg) (fun y hy=>⟨140,by simp,by simp at hy;subst hy;exact ht⟩)) (by decide)
theorem own_set {w w':World}{B g:Nat}{e sz n:Nat}{v:Value}{xs:List Value}(h:Own w B e sz v n xs)(hf:Fr [g] w w')(hg:B≤g)(ht:tyOf w g=some 140)(he:e≠140):Own w' B e sz v n xs :=
 h.frx0 (FrX.of_frT (Ts:=[140]) (T:=[]) hf (by simpa using hg) (fun y hy=>⟨140,by simp,by simp at hy;subst hy;exact ht⟩)) (by simpa using he)
def Stepped (w:World)(B g xp:Nat)(who:Int)(k:Cf)(r:M.Core × M.Task)(w':World):Prop:=TaskAt w' B g xp who r.2∧CoreAt w' B xp k r.1∧FrX B Ts [g] w w'
theorem seek_find (w:World)(B g xp:Nat)(who:Int)(t:M.Task)(vo vi:Value)(k:Cf)(x:M.Core)(h:TaskP w B g xp who t vo vi)(hc:CoreAt w B xp k x)(hg:B≤g)(hB:B≤w.heap.size)(h2:t.q.kind≠2)(h10:t.q.kind≠10)(hcol:t.q.col=M.home)(h1:t.stage=1) :
  Calls Tryz.prog 67 #[.pointer (some ⟨g,0,none⟩)] w fun e w'=>e = .returned (.tuple #[])∧Stepped w B g xp who k (t.step x who) w':=by
 have hst:t.step x who=if x.find<0 then (x,{ t.settle { kind:=t.q.kind,err:=4 } 8 with id:=x.find }) else (x,{ t with id:=x.find,stage:=2 }):=by
  unfold M.Task.step
  rw[if_pos h1,if_neg h2,if_neg h10]
 have HS:=hid hst
 have c0:=h.cell.cell 0
 have c2:=h.cell.cell 2
 have c3:=h.cell.cell 3
 have c5:=h.cell.cell 5
 simp[taskC,hcol] at c0 c2 c3 c5
 have hgl:=h.cell.lt
 have b2:(t.q.kind==2)=false:=by simpa using h2
 have b10:(t.q.kind==10)=false:=by simpa using h10
 have HF:=hid (fun W (f:Fr [] w W)=>find_any W B xp k x (hc.fr0 f))
 have HT:=hid h
 have HC:=hid hc
 have HK:=hid (And.intro h2 h10)
 have c16:=h.cell.cell 16
 have c15:=h.cell.cell 15
 have z16:=h.cell.frozen 16
 simp[taskC] at c16 c15
 clear h hc hst hcol h2 h10
 generalize M.home=H at *
 generalize tn=N at c2 HF
 have C0:=hid (And.intro c0 (And.intro c2 c5))
 go_enter Tryz.func67,Tryz.ntmps67
 go_wp2_with fail
 go_region_held3 (fun w'=>w'.cell? ⟨g,0,none⟩=some (.pointer (some ⟨xp,0,none⟩))∧w'.cell? ⟨g,2,none⟩=some (.string N)∧w'.cell? ⟨g,5,none⟩=some (.string H)) (first|go_keep|exact hS|(simpa[go_sem] using hS))
  (first|(go_at_call 109;refine(HF.out _ (by first|exact(Fr.refl _ _).drewN _|exact(Fr.refl _ _).drew)).mono ?_;rintro e w2 ⟨rfl,f2'⟩;have f2:Fr [] w w2:=(by first|exact((Fr.refl _ _).drewN _).trans f2'|exact(Fr.refl _ _).drew.trans f2');have hS:=(⟨f2.cell C0.out.1 (block_lt_of_cell C0.out.1) (by simp),f2.cell C0.out.2.1 (block_lt_of_cell C0.out.2.1) (by simp),f2.cell C0.out.2.2 (block_lt_of_cell C0.out.2.2) (by simp)⟩:w2.cell? ⟨g,0,none⟩=_∧w2.cell? ⟨g,2,none⟩=_∧w2.cell? ⟨g,5,none⟩=_);have d16:=f2.cell c16 (block_lt_of_cell c16) (by simp);have y16:=(HT.out.fr0 f2).cell.frozen 16))
 clear hS c0 c2 c5 c15 c16 z16 hgl
 have hT2:=HT.out.fr0 f2
 have hC2:=HC.out.fr0 f2
 have hf2:Fr [g] w w2:=f2.mono (by simp)
 have hfind:x.find=0∨x.find = -1:=by unfold M.Core.find;split<;>simp
 generalize hfi:x.find=fi at *
 obtain⟨W,hW⟩:∃ W,W=w2.setCell ⟨g,16,none⟩ (.int .i64 fi):=⟨_,rfl⟩
 have fW:Fr [g] w2 W:=by rw[hW];exact(Fr.refl _ _).setCell (by simp) _
 have hTW:TaskP W B g xp who { t with id:=fi } vo vi:=⟨by rw[hW];simpa[taskC] using hT2.cell.set 16 (.int .i64 fi),own_set hT2.ops fW hg hT2.cell.ty (by decide),own_set hT2.its fW hg hT2.cell.ty (by decide),hT2.l1,hT2.l2⟩
 have hCW:=core_set hC2 fW hg hT2.cell.ty
 have c16:=hTW.cell.cell 16
 have c3:=hTW.cell.cell 3
 have c15:=hTW.cell.cell 15
 have z15:=hTW.cell.frozen 15
 simp[taskC] at c16 c3 c15
 have hgl:=hTW.cell.lt
 rw[←hW]
 have HTW:=hid hTW
 have HCW:=hid hCW
 have FW:=hid (hf2.trans fW)
 clear hW hTW hCW hT2 hC2 f2' d16 y16 fW hf2 f2
 rcases hfind with rfl|rfl
 ·go_wp2_with fail
  go_end0
  rw[HS.out,if_neg (by decide)]
  have f3:Fr [g] W (W.setCell ⟨g,15,none⟩ (.int .i64 2)):=(Fr.refl _ _).setCell (by simp) _
  refine⟨rfl,⟨vo,vi,by simpa[taskC] using HTW.out.cell.set 15 (.int .i64 2),own_set HTW.out.ops f3 hg HTW.out.cell.ty (by decide),own_set HTW.out.its f3 hg HTW.out.cell.ty (by decide),HTW.out.l1,HTW.out.l2⟩,core_set HCW.out f3 hg HTW.out.cell.ty,task_fr (FW.out.trans f3) hg⟩
 ·go_wp2_with fail
  refine(settle_any W B g xp who 8 { t with id:=-1 } { kind:=t.q.kind,err:=4 } vo vi (.slice none 0 0) HTW.out hg (Own.nil _ _ _ _) (by simp)).mono ?_
  rintro e w3 ⟨rfl,h3,f3⟩
  go_wp2_with fail
  refine bodyPost_ret (results_none rfl _ _ _) rfl ?_
  rw[HS.out,if_pos (by decide)]
  exact⟨rfl,⟨vo,_,h3⟩,core_set HCW.out f3 hg HTW.out.cell.ty,task_fr (FW.out.trans f3) hg⟩
theorem seek_list (w:World)(B g xp:Nat)(who:Int)(t:M.Task)(vo vi:Value)(k:Cf)(x:M.Core)(p:M.Place)(h:TaskP w B g xp who t vo vi)(hc:CoreAt w B xp k x)(hg:B≤g)(hB:B≤w.heap.size)(h10:t.q.kind=10)(h1:t.stage=1)(hp:x.place=some p) :
  Calls Tryz.prog 67 #[.pointer (some ⟨g,0,none⟩)] w fun e w'=>e = .returned (.tuple #[])∧Stepped w B g xp who k (t.step x who) w':=by
 have hst:t.step x who=(x,t.settle x.list 8):=by
  unfold M.Task.step
  rw[if_pos h1,if_neg (by omega),if_pos h10]
 have HS:=hid hst
 have hll:x.list.items.length≤20:=by
  unfold M.Core.list
  simp only[]
  split<;>simp
 have c0:=h.cell.cell 0
 have c2:=h.cell.cell 2
 have c3:=h.cell.cell 3
 simp[taskC,h10] at c0 c2 c3
 have HF:=hid (fun W (f:Fr [] w W)=>list_any W B xp k x p (hc.fr0 f) (by have:=f.size;omega) hp)
 have HT:=hid h
 have HC:=hid hc
 have HL:=hid hll
 clear h hc hst h10 hll
 generalize x.list=a at *
 obtain⟨N,hN⟩:∃ N,N=tn:=⟨_,rfl⟩
 rw[←hN] at c2 HF
 have HN:=hid hN
 clear hN
 have C0:=hid (And.intro c0 c2)
 go_enter Tryz.func67,Tryz.ntmps67
 go_wp2_with fail
 go_region_held3 (fun w'=>w'.cell? ⟨g,0,none⟩=some (.pointer (some ⟨xp,0,none⟩))∧w'.cell? ⟨g,2,none⟩=some (.string N)) (first|go_keep|exact hS|(simpa[go_sem] using hS))
  (first
   | (go_at_call 108;refine(HF.out _ (by first|exact(Fr.refl _ _).drewN _|exact(Fr.refl _ _).drew)).mono ?_;rintro e w2 ⟨v,rfl,hv,f2'⟩;have f2:Fr [] w w2:=(by first|exact((Fr.refl _ _).drewN _).trans f2'|exact(Fr.refl _ _).drew.trans f2');have hS:=(⟨f2.cell C0.out.1 (block_lt_of_cell C0.out.1) (by simp),f2.cell C0.out.2 (block_lt_of_cell C0.out.2) (by simp)⟩:w2.cell? ⟨g,0,none⟩=_∧w2.cell? ⟨g,2,none⟩=_))
   | (go_at_call 106;refine(settle_any w2 B g xp who 8 t a vo vi v (HT.out.fr0 f2) hg hv HL.out).mono ?_;rintro e w3 ⟨rfl,h3,f3⟩;have hS:=(⟨by simpa[taskC] using h3.cell.cell 0,by rw[HN.out];simpa[taskC] using h3.cell.cell 2⟩:w3.cell? ⟨g,0,none⟩=some (.pointer (some ⟨xp,0,none⟩))∧w3.cell? ⟨g,2,none⟩=some (.string N))))
 go_wp2_with fail
 refine bodyPost_ret (results_none rfl _ _ _) rfl ?_
 rw[HS.out]
 have hT2:=HT.out.fr0 f2
 exact⟨rfl,⟨vo,_,h3⟩,core_set (HC.out.fr0 f2) f3 hg hT2.cell.ty,task_fr ((f2.mono (by simp)).trans f3) hg⟩
theorem seek_create (w:World)(B g xp:Nat)(who:Int)(t:M.Task)(vo vi:Value)(k:Cf)(x:M.Core)(h:TaskP w B g xp who t vo vi)(hc:CoreAt w B xp k x)(hg:B≤g)(hB:B≤w.heap.size)(h2:t.q.kind=2)(hcol:t.q.col=M.home)(h1:t.stage=1)(hxp:B≤xp)(hm:MayCreate x k) :
  Calls Tryz.prog 67 #[.pointer (some ⟨g,0,none⟩)] w fun e w'=>e = .returned (.tuple #[])∧Stepped w B g xp who k (t.step x who) w':=by
 have hst:t.step x who=(x.create.1,t.settle x.create.2 8):=by
  unfold M.Task.step
  rw[if_pos h1,if_pos h2]
 have HS:=hid hst
 have c0:=h.cell.cell 0
 have c2:=h.cell.cell 2
 have c3:=h.cell.cell 3
 have c5:=h.cell.cell 5
 simp[taskC,h2,hcol] at c0 c2 c3 c5
 have HF:=hid (fun W (f:Fr [] w W)=>create_any W B xp k x (hc.fr0 f) hxp (by have:=f.size;omega) hm)
 have HT:=hid h
 have HC:=hid hc
 have HH:=hid hcol
 clear h hc hst h2 hcol hm
 generalize x.create=a at *
 generalize M.home=H at *
 obtain⟨N,hN⟩:∃ N,N=tn:=⟨_,rfl⟩
 rw[←hN] at c2 HF
 have HN:=hid hN
 clear hN
 have C0:=hid (And.intro c0 (And.intro c2 c5))
 go_enter Tryz.func67,Tryz.ntmps67
 go_wp2_with fail
 go_region_held3 (fun w'=>w'.cell? ⟨g,0,none⟩=some (.pointer (some ⟨xp,0,none⟩))∧w'.cell? ⟨g,2,none⟩=some (.string N)∧w'.cell? ⟨g,5,none⟩=some (.string H)) (first|go_keep|exact hS|(simpa[go_sem] using hS))
  (first
   | (go_at_call 107;refine(HF.out _ (by first|exact(Fr.refl _ _).drewN _|exact(Fr.refl _ _).drew)).mono ?_;rintro e w2 ⟨⟨v,rfl,rfl⟩,hi,hc2,x2'⟩;have x2:FrX B Ts [] w w2:=(by first|exact(FrX.of_fr0 ((Fr.refl _ _).drewN _)).trans x2'|exact(FrX.of_fr0 ((Fr.refl _ _).drew)).trans x2');have hT2:=HT.out.frx x2 (by decide) (by decide) (by decide);have hS:=(⟨by simpa[taskC] using hT2.cell.cell 0,by rw[HN.out];simpa[taskC] using hT2.cell.cell 2,by rw[←HH.out];simpa[taskC] using hT2.cell.cell 5⟩:w2.cell? ⟨g,0,none⟩=some (.pointer (some ⟨xp,0,none⟩))∧w2.cell? ⟨g,2,none⟩=some (.string N)∧w2.cell? ⟨g,5,none⟩=some (.string H)))
   | (go_at_call 106;refine(settle_any w2 B g xp who 8 t a.2 vo vi (.slice none 0 0) hT2 hg (by rw[hi];exact Own.nil _ _ _ _) (by rw[hi];simp)).mono ?_;rintro e w3 ⟨rfl,h3,f3⟩;have hS:=(⟨by simpa[taskC] using h3.cell.cell 0,by rw[HN.out];simpa[taskC] using h3.cell.cell 2,by rw[←HH.out];simpa[taskC,M.Task.settle] using h3.cell.cell 5⟩:w3.cell? ⟨g,0,none⟩=some (.pointer (some ⟨xp,0,none⟩))∧w3.cell? ⟨g,2,none⟩=some (.string N)∧w3.cell? ⟨g,5,none⟩=some (.string H))))
 go_wp2_with fail
 refine bodyPost_ret (results_none rfl _ _ _) rfl ?_
 rw[HS.out]
 exact⟨rfl,⟨vo,_,h3⟩,core_set hc2 f3 hg hT2.cell.ty,(x2.mono (fun _ h=>h) (by simp)).trans (task_fr f3 hg)⟩
end Go.Proofs.YtjmkkcckfbnmeaaGreatDoor.Tk
namespace Go.Proofs.YtjmkkcckfbnmeaaGreatDoor.Tk
open Go.RowKit Cr
theorem step3_eq (t:M.Task)(x:M.Core)(who:Int)(h3:t.stage=3):t.step x who=if !x.alive t.id then (x.unlock t.id who false,{ t with stage:=1 })
  else
   if t.q.kind=9&&(x.work t.q).2.err==15 then
    if x.now ≥ t.deadline then ((x.work t.q).1,t.settle (x.work t.q).2 6)
    else ((x.work t.q).1.sleep who t.id t.deadline,{ t with stage:=6 })
   else if t.q.kind=7&&(x.work t.q).2.err==0 then ((x.work t.q).1,t.settle (x.work t.q).2 4)
   else if 0<(x.work t.q).2.items.length then ((x.work t.q).1,t.settle (x.work t.q).2 5)
   else ((x.work t.q).1,t.settle (x.work t.q).2 6):=by
 unfold M.Task.step
 rw[if_neg (by omega),if_neg (by omega),if_pos h3]
theorem work9 (x:M.Core)(q:M.Req)(h:q.kind=9):(x.work q).1=x:=by
 unfold M.Core.work
 split
 ·rfl
 split
 ·rfl
 simp only[h,Int.reduceEq,if_false,if_true]
 split<;>rfl
theorem act_gone (w:World)(B g xp:Nat)(who:Int)(t:M.Task)(vo vi:Value)(k:Cf)(x:M.Core)(p:M.Place)(h:TaskP w B g xp who t vo vi)(hc:CoreAt w B xp k x)(hg:B≤g)(hB:B≤w.heap.size)(h3:t.stage=3)(hiq:t.id=0)(hp:x.place=some p)(hal:p.alive=false)
  (hst:p.lock.state who=3∨p.lock.state who=2) (hlk:p.lock.readers.length+p.lock.queue.length≤90) (hh:x.hub.length≤90) :
  Calls Tryz.prog 70 #[.pointer (some ⟨g,0,none⟩)] w fun e w'=>e = .returned (.tuple #[])∧Stepped w B g xp who k (t.step x who) w':=by
 have hstep:t.step x who=(x.unlock 0 who false,{ t with stage:=1 }):=by
  rw[step3_eq t x who h3,if_pos (by simp[M.Core.alive,hp,hiq,hal]),hiq]
 have HS:=hid hstep
 have c0:=h.cell.cell 0
 have c1:=h.cell.cell 1
 have c16:=h.cell.cell 16
 simp[taskC,hiq] at c0 c1 c16
 have HA:=hid (fun W (f:Fr [] w W)=>alive_any W B xp k x p (hc.fr0 f) hp)
 have HU:=hid (fun W (f:Fr [] w W)=>unlock_any W B xp k x p who false (hc.fr0 f) hp (by have:=f.size;omega) (by omega) hst (by omega))
 rw[hal] at HA
 have HT:=hid h
 clear h hc hstep hst
 go_enter Tryz.func70,Tryz.ntmps70
 go_wp2_with fail
 go_quiet ((go_at_call 111;exact quiet_same (HA.out _ (by first|exact(Fr.refl _ _).drewN _|exact(Fr.refl _ _).drew|exact Fr.refl _ _))))
 obtain⟨W,hW⟩:∃ W,W=w.drewN nq:=⟨_,rfl⟩
 have fW:Fr [] w W:=by rw[hW];exact(Fr.refl _ _).drewN _
 rw[←hW]
 have d0:=fW.cell c0 (block_lt_of_cell c0) (by simp)
 have d1:=fW.cell c1 (block_lt_of_cell c1) (by simp)
 have d16:=fW.cell c16 (block_lt_of_cell c16) (by simp)
 clear hW c0 c1 c16
 go_wp2_with fail
 go_still_tail 12,(by kernel_rfl)
 change wpList _ _ _ _ _ W.drew
 go_wp2_with fail
 refine(HU.out _ fW.drew).mono ?_
 rintro e w2 ⟨rfl,hc2,x2'⟩
 have x2:FrX B Ts [] w w2:=(FrX.of_fr0 fW.drew).trans x2'
 have hT2:=HT.out.frx x2 (by decide) (by decide) (by decide)
 have c15:=hT2.cell.cell 15
 have z15:=hT2.cell.frozen 15
 simp[taskC] at c15
 have hgl:=hT2.cell.lt
 have HT2:=hid hT2
 have HC2:=hid hc2
 have X2:=hid x2
 clear d0 d1 d16 hT2 hc2 x2 x2'
 go_wp2_with fail
 refine bodyPost_ret (results_none rfl _ _ _) rfl ?_
 rw[HS.out]
 have f3:Fr [g] w2 (w2.setCell ⟨g,15,none⟩ (.int .i64 1)):=(Fr.refl _ _).setCell (by simp) _
 exact⟨rfl,⟨vo,vi,by simpa[taskC] using HT2.out.cell.set 15 (.int .i64 1),own_set HT2.out.ops f3 hg HT2.out.cell.ty (by decide),own_set HT2.out.its f3 hg HT2.out.cell.ty (by decide),HT2.out.l1,HT2.out.l2⟩,core_set HC2.out f3 hg HT2.out.cell.ty,(X2.out.mono (fun _ h=>h) (by simp)).trans (task_fr f3 hg)⟩
structure MayAct (x:M.Core)(p:M.Place)(t:M.Task)(who:Int):Prop where
 h3:t.stage=3
 hiq:t.id=0
 hp:x.place=some p
 hal:p.alive=true
 hmc:M.mayCore x=true
 hm:M.mayWork p.col x.found x.counter x.budget t.q=true
 hit:(x.work t.q).2.items.length≤20
def Worked (B g xp:Nat)(who:Int)(t:M.Task)(k:Cf)(r:M.Core × M.Resp)(w:World)(s2 s3:Value)(wc:World):Prop :=
 ∃ b,s2 = .pointer (some ⟨b,0,none⟩)∧w.heap.size≤b∧Holds wc b 53 (Ev.rsc r.2 (.slice none 0 0)).toArray∧Ev.ItsAt wc B s3 r.2.items∧CoreAt wc B xp k r.1∧TaskAt wc B g xp who t∧FrX B Ts [] w wc
theorem worked_after {w W w2:World}{B g xp:Nat}{who:Int}{t:M.Task}{k:Cf}{r:M.Core × M.Resp}{vo vi v:Value}(fW:Fr [] w W)(hv:Ev.ItsAt w2 B v r.2.items)(hc:CoreAt w2 B xp k r.1)(hx:FrX B Ts [] W w2)(hT:TaskP w B g xp who t vo vi) :
  w.heap.size≤w2.heap.size∧Holds (w2.alloc (.cells (Ev.rsc r.2 (.slice none 0 0)).toArray 53)) w2.heap.size 53 (Ev.rsc r.2 (.slice none 0 0)).toArray∧Ev.ItsAt (w2.alloc (.cells (Ev.rsc r.2 (.slice none 0 0)).toArray 53)) B v r.2.items∧CoreAt (w2.alloc (.cells (Ev.rsc r.2 (.slice none 0 0)).toArray 53)) B xp k r.1∧TaskAt (w2.alloc (.cells (Ev.rsc r.2 (.slice none 0 0)).toArray 53)) B g xp who t∧FrX B Ts [] w (w2.alloc (.cells (Ev.rsc r.2 (.slice none 0 0)).toArray 53)):=by
 have f:Fr [] w2 (w2.alloc (.cells (Ev.rsc r.2 (.slice none 0 0)).toArray 53)):=(Fr.refl _ _).alloc _
 exact⟨Nat.le_trans fW.size hx.size,Holds.new _ _ _,Own.fr0 hv f,hc.fr0 f,⟨vo,vi,((hT.fr0 fW).frx hx (by decide) (by decide) (by decide)).fr0 f⟩,((FrX.of_fr0 fW).trans hx).trans (FrX.of_fr0 f)⟩
theorem worked_before {w W w2:World}{B g xp:Nat}{who:Int}{t:M.Task}{k:Cf}{r:M.Core × M.Resp}{vo vi v:Value}{o:Obj}(fW:Fr [] w W)(hv:Ev.ItsAt w2 B v r.2.items)(hc:CoreAt w2 B xp k r.1)(hx:FrX B Ts [] (W.alloc o) w2)(ho:o = .cells (Ev.rsc { kind:=0 } (.slice none 0 0)).toArray 53)(hB:B≤w.heap.size)(hT:TaskP w B g xp who t vo vi) :
  w.heap.size≤W.heap.size∧Holds (Ev.put8 w2 W.heap.size 0 r.2 (.slice none 0 0)) W.heap.size 53 (Ev.rsc r.2 (.slice none 0 0)).toArray∧Ev.ItsAt (Ev.put8 w2 W.heap.size 0 r.2 (.slice none 0 0)) B v r.2.items∧CoreAt (Ev.put8 w2 W.heap.size 0 r.2 (.slice none 0 0)) B xp k r.1∧TaskAt (Ev.put8 w2 W.heap.size 0 r.2 (.slice none 0 0)) B g xp who t∧FrX B Ts [] w (Ev.put8 w2 W.heap.size 0 r.2 (.slice none 0 0)):=by
 subst ho
 have bx:=(Holds.new W 53 (Ev.rsc { kind:=0 } (.slice none 0 0)).toArray).frx hx (by decide) (by simp)
 have f1:Fr [] w (W.alloc (.cells (Ev.rsc { kind:=0 } (.slice none 0 0)).toArray 53)):=fW.alloc _
 have x8:FrX B [53] [] w2 (Ev.put8 w2 W.heap.size 0 r.2 (.slice none 0 0)):=Ev.put8_frx (Nat.le_trans hB fW.size) bx.ty (by simp)
 exact⟨fW.size,Ev.put8_holds bx,hv.frx0 x8 (by decide),hc.frx x8 (by decide),⟨vo,vi,((hT.fr0 f1).frx hx (by decide) (by decide) (by decide)).frx x8 (by decide) (by decide) (by decide)⟩,Ev.put8_new ((FrX.of_fr0 f1).trans hx) fW.size⟩
end Go.Proofs.YtjmkkcckfbnmeaaGreatDoor.Tk
