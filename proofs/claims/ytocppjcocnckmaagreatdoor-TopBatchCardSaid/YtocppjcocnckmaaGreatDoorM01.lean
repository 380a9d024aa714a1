/- Walks. -/
import Derived.Test.YtocppjcocnckmaaGreatDoorM00
set_option maxRecDepth 100000
set_option maxHeartbeats 8000000
set_option linter.all false
namespace Go.Proofs.YtocppjcocnckmaaGreatDoor
namespace M
theorem Cw {l:Lk}(h:LK l){k:Int}{f:Bool}(ha:Wt' l k f∨(f=true/\Wr l k)∨(f=false/\Rd l k))(hh:Rd l k∨Wr l k):(f=true/\Wr l k)∨(f=false/\Rd l k):=by
 rcases ha with g|g|g
 ·exfalso
  have hm:k∈eP l.queue:=A2.2 ⟨f,g⟩
  rcases hh with r|w
  ·exact(List.nodup_append.1 h.nd).2.2 k r k hm rfl
  exact h.nw w.1 (by rw[w.2];exact hm)
 ·exact .inl g
 exact .inr g
theorem qG (c:Col)(o:Op)(T:Int):(c.apply o T).az=T∨(c.apply o T).az=c.az:=by
 unfold Col.apply
 simp only[]
 split
 ·exact .inr rfl
 split<;>exact .inl rfl
theorem oH (l:List Cd):0<=mf l:=by
 unfold mf
 induction l with
 | nil=>simp
 | cons x l ih=>simp only[List.map_cons,List.sum_cons];omega
section
variable {cf:Cfg} {N:Nat} {s:Srv} {k:Nat} {c:bT}
theorem wy (I:cO cf N s)(hc:s.ag[k]? = some c){p:Place}(hp:s.core.place=some p){B:Int}(P:CC cf s.core p B)(D:zo s p B)(hh:Rd p.lock k∨Wr p.lock k)(h4:c.task.ax≠4):Whole p.col/\p.col.bytes=B/\p.col.aj<=64:=by
 refine D.calm λi ci hi ⟨g1,g2⟩=>?_
 have Ci:eI N (lk s.core) i ci:=I.ag i ci hi
 rcases Ci.st with⟨e,_⟩|⟨_,_,_,Ti⟩|⟨e,_⟩
 ·omega
 ·have hw:=(Ti.wr g2).2.2.2.2 p.lock (by simp[lk,hp])
  have e:(k:Int)=i:=ki P.lk hw hh
  have e':k=i:=by omega
  subst e'
  rw[hc] at hi
  cases hi
  exact h4 g2
 omega
theorem gV (I:cO cf N s)(hc:s.ag[k]? = some c)(h2:c.state=2)(T:jG (lk s.core) k c.task)(h3:c.task.ax=3)(hcan:c.task.can s.core k=true){a:aU}{st:Int}(hst:c.task.step s.core k=(s.core,c.task.settle a st))(hpr:PR a)(hs:st=5∨st=6)
  (hh:∀ l,lk s.core=some l->Rd l k∨Wr l k):cO cf N (s.pick k):=by
 have C:eI N (lk s.core) k c:=I.ag k c hc
 have hn4:¬ (c.state=2/\c.task.ax=4):=λe=>by rw[h3] at e;cases e.2
 rw[dq hc h2 hcan hst (by rcases hs with rfl|rfl<;>simp[Task.settle])]
 refine gj I hc hn4 (λe=>by have:=e.2;simp only[Task.settle] at this;omega) (za C h2 ?_ rfl) nU
 refine⟨T.rq,by rcases hs with rfl|rfl<;>simp[Task.settle],T.dl,λh=>?_,λh=>?_,λ_=>⟨rfl,hpr⟩,λ_=>T.pl (by omega),λh=>?_,λ_=>hh,λh=>?_,λ_=>T.nx (by omega),λh=>?_⟩
 all_goals (simp only[Task.settle] at h;omega)
theorem Fh (I:cO cf N s)(O:cf.Ok)(hk4:k<4)(hc:s.ag[k]? = some c)(h2:c.state=2)(T:jG (lk s.core) k c.task)(h3:c.task.ax=3):cO cf N (s.pick k):=by
 cases hcan:c.task.can s.core k
 ·rw[jA (by simp[Srv.can,hc,h2,hcan])]
  exact I
 have C:eI N (lk s.core) k c:=I.ag k c hc
 obtain⟨hiq,hk2,l,hl⟩:=T.pl (by omega)
 obtain⟨p,hp,rfl⟩:∃ p,s.core.place=some p/\p.lock=l:=by simpa[lk] using hl
 obtain⟨B,P,D⟩:=I.ps p hp
 have hh:Rd p.lock k∨Wr p.lock k:=ng (by
  unfold Task.can at hcan
  rw[if_pos h3,hiq] at hcan
  simpa[Core.held,hp] using hcan)
 have hhl:∀ l,lk s.core=some l->Rd l k∨Wr l k:=λl e=>by rw[hl] at e;cases e;exact hh
 obtain⟨W,hB,hlm⟩:=wy I hc hp P D hh (by omega)
 have hal:s.core.alive c.task.id=true:=by simp[Core.alive,hp,hiq,P.alive]
 have hq:=iS T.rq
 have hlat:0<=p.col.az/\p.col.az<=aW:=⟨P.lat.1,Int.le_trans P.lat.2 I.c1⟩
 have hstep:∀ x' a,s.core.work c.task.q=(x',a)->c.task.step s.core k=if c.task.q.kind=7&&a.err==0 then (x',c.task.settle a 4) else if 0<a.items.length then (x',c.task.settle a 5) else (x',c.task.settle a 6):=λx' a e=>by
  have h9:decide (c.task.q.kind=9)=false:=decide_eq_false hq.2.2.2.2.2.1
  unfold Task.step
  rw[if_neg (by omega),if_neg (by omega),if_pos h3]
  simp only[hal,Bool.not_true,Bool.false_eq_true,if_false,e,h9,Bool.false_and]
 have hwk:s.core.work c.task.q=if c.task.q.kind=7 then s.core.write p c.task.q.ops false { kind:=7 } else if c.task.q.kind=6 then (match bR p.col.ah c.task.q.uid with|none=>(s.core,{ kind:=6,err:=4 })|some e=>(s.core,{ kind:=6,version:=e.version,au:=e.text })) else (match p.col.since c.task.q.token with|none=>(s.core,{ kind:=8,err:=8 })|some l=>(s.core,{ kind:=8,token:=p.col.az,items:=l })):=by
  unfold Core.work
  simp only[hp,P.alive,Bool.not_true,Bool.false_eq_true,if_false]
  rcases hq.2.1 with e|e|e|e
  ·exact absurd e hk2
  ·simp only[e,show ¬ ((6:Int)=3) by decide,show ¬ ((6:Int)=4) by decide,show ¬ ((6:Int)=5) by decide,show ¬ ((6:Int)=7) by decide,if_false,if_true]
   rfl
  ·simp only[e,show ¬ ((7:Int)=3) by decide,show ¬ ((7:Int)=4) by decide,show ¬ ((7:Int)=5) by decide,if_false,if_true]
  simp only[e,show ¬ ((8:Int)=3) by decide,show ¬ ((8:Int)=4) by decide,show ¬ ((8:Int)=5) by decide,show ¬ ((8:Int)=6) by decide,show ¬ ((8:Int)=7) by decide,if_false,if_true]
  rfl
 by_cases e7:c.task.q.kind=7
 ·rw[if_pos e7] at hwk
  have hbo:=hq.2.2.2.1 e7
  have hb:s.core.aZ.getD (0,0)=(1,B):=by rw[P.bud];rfl
  obtain⟨room,hroom⟩:∃ room,s.core.aH - B=room:=⟨_,rfl⟩
  have hmb:=I.bytes
  have hlen:c.task.q.ops.length=2:=by rcases hbo with⟨t,_,e⟩|e<;>rw[e]<;>rfl
  have hpk:=pk p.col room c.task.q.ops c.task.q.ops 0 p.col.ah.length 0 (by omega)
  have hwr:s.core.write p c.task.q.ops false { kind:=7 }=if (p.col.check c.task.q.ops room).2.2≠0 then (s.core,{ kind:=7,err:=(p.col.check c.task.q.ops room).2.2,index:=(p.col.check c.task.q.ops room).1 }) else if s.core.counter=aW then (s.core,{ kind:=7,err:=9 }) else ({ s.core with counter:=s.core.counter+1,aZ:=some (1,B+(p.col.check c.task.q.ops room).2.1),place:=some { p with drawn:=s.core.counter+1 } },{ kind:=7,token:=s.core.counter+1 }):=by
   unfold Core.write
   simp only[hb,hroom,Bool.false_eq_true,if_false]
  obtain⟨pk1,pk2,pk3,pk4⟩:Pk (p.col.check c.task.q.ops room):=hpk
  by_cases h0:(p.col.check c.task.q.ops room).2.2=0
  ·rw[if_neg (by simpa using h0)] at hwr
   by_cases hm:s.core.counter=aW
   ·rw[if_pos hm] at hwr
    rw[hwr] at hwk
    have:=hstep _ _ hwk
    refine gV I hc h2 T h3 hcan (a:={ kind:=7,err:=9 }) (st:=6) ?_ (lH 7 9 (by decide) (by decide)) (.inr rfl) hhl
    rw[this]
    simp
   rw[if_neg hm] at hwr
   rw[hwr] at hwk
   have hst:=hstep _ _ hwk
   have hc1:=I.c1
   have hc0:=I.c0
   have hs0:=O.s0
   have hDn:Ek p.col c.task.q.ops (p.col.check c.task.q.ops room).2.1 room (s.core.counter+1):=by
    have hT:p.col.az<=s.core.counter+1:=by have:=P.lat.2;omega
    rcases hbo with⟨t,ht,e⟩|e
    ·rw[e] at h0 ⊢
     exact sG W hlm hT ht h0
    rw[e] at h0 ⊢
    exact sH W hlm hT h0
   generalize (p.col.check c.task.q.ops room).2.1=grow at *
   obtain⟨o0,o1,hops⟩:∃ o0 o1,c.task.q.ops=[o0,o1]:=by
    rcases hbo with⟨t,_,e⟩|e<;>exact⟨_,_,e⟩
   have hrest:Rest (s.core.counter+1) (B+grow) p.col c.task.q.ops:=by
    have d1:=hDn.m0
    have d2:=hDn.m1
    have d3:=hDn.whole
    have d4:=hDn.bytes
    have d5:=hDn.lm
    rw[hops] at d1 d2 d3 d4 d5 ⊢
    simp only[List.foldl_cons,List.foldl_nil] at d3 d4 d5
    exact⟨d1 o0 rfl,d2 o0 o1 rfl rfl,d3,by rw[d4,hB],by rw[d5];exact hlm⟩
   have hBg:0<=B+grow/\B+grow<=cf.bytes:=by
    have d3:=hDn.whole.bytes
    have d4:=hDn.bytes
    have d6:=hDn.room
    have:=oH (c.task.q.ops.foldl (λc o=>c.apply o (s.core.counter+1)) p.col).ah
    omega
   have hst':c.task.step s.core k=({ s.core with counter:=s.core.counter+1,aZ:=some (1,B+grow),place:=some { p with drawn:=s.core.counter+1 } },c.task.settle { kind:=7,token:=s.core.counter+1 } 4):=by
    rw[hst]
    simp[e7]
   rw[dq hc h2 hcan hst' (by simp[Task.settle])]
   have hlk:lk s.core=some p.lock:=hl
   refine I.upd hc ⟨rfl,rfl,rfl,rfl,rfl,rfl,rfl⟩ (by simp only;omega) (by simp only;omega) (λe=>by cases e) (λq hq'=>?_) (λi _=>⟨λe=>(by rw[hlk] at e;cases e),λl e=>⟨p.lock,rfl,by rw[hlk] at e;cases e;exact Adv.refl _ _⟩⟩) (za C h2 ?_ rfl) nU
   ·cases hq'
    refine⟨B+grow,⟨P.found,P.alive,by simp only;omega,P.lk,P.rng,⟨P.lat.1,by have:=P.lat.2;simp only;omega⟩,rfl,hBg.1,hBg.2⟩,⟨λi ci hi g1 g2=>?_,λhn=>?_⟩⟩
    ·have hlt:k<s.ag.length:=(List.getElem?_eq_some_iff.1 hc).1
     by_cases hik:i=k
     ·subst hik
      simp only[List.getElem?_set,if_true,hlt] at hi
      cases hi
      refine⟨Int.le_refl _,?_⟩
      have hn0:c.task.next=0:=T.nx (by omega)
      simp only[Task.settle,hn0]
      exact hrest
     exfalso
     simp only[List.getElem?_set,if_neg (Ne.symm hik)] at hi
     have Ci:eI N (lk s.core) i ci:=I.ag i ci hi
     rcases Ci.st with⟨e,_⟩|⟨_,_,_,Ti⟩|⟨e,_⟩
     ·omega
     ·have hw:=(Ti.wr g2).2.2.2.2 p.lock hlk
      have e:(k:Int)=i:=ki P.lk hw hh
      omega
     omega
    exfalso
    have hlt:k<s.ag.length:=(List.getElem?_eq_some_iff.1 hc).1
    exact hn k { c with task:=c.task.settle { kind:=7,token:=s.core.counter+1 } 4 } (by simp[List.getElem?_set,hlt]) ⟨h2,rfl⟩
   have hw7:writes c.task.q.kind=true:=by rw[e7];rfl
   have hwr:Wr p.lock k:=by
    rcases Cw P.lk (T.act h3 _ hl) hh with g|g
    ·exact g.2
    rw[hw7] at g;cases g.1
   have hn0:c.task.next=0:=T.nx (by omega)
   refine⟨T.rq,.inr (.inr (.inr (.inl rfl))),T.dl,λh=>?_,λh=>?_,λ_=>⟨rfl,AA 7 _ (by decide) (by decide) (by omega)⟩,λ_=>⟨hiq,hk2,_,rfl⟩,λh=>?_,λ_ l e=>?_,λ_=>⟨e7,rfl,by simp[Task.settle,hn0],by simp[Task.settle,hn0,hlen],λl e=>?_⟩,λh=>?_,λh=>?_⟩
   case refine_4=>cases e;exact hh
   case refine_5=>cases e;exact hwr
   all_goals (simp only[Task.settle] at h;omega)
  rw[if_pos h0] at hwr
  rw[hwr] at hwk
  have hst:=hstep _ _ hwk
  refine gV I hc h2 T h3 hcan (st:=6) (a:={ kind:=7,err:=(p.col.check c.task.q.ops room).2.2,index:=(p.col.check c.task.q.ops room).1 }) ?_ (AD 7 _ _ (by decide) (by omega) (by omega)) (.inr rfl) hhl
  rw[hst]
  simp[h0]
 rw[if_neg e7] at hwk
 by_cases e6:c.task.q.kind=6
 ·rw[if_pos e6] at hwk
  cases hg:bR p.col.ah c.task.q.uid with
  | none =>
   rw[hg] at hwk
   have hst:=hstep _ _ hwk
   refine gV I hc h2 T h3 hcan (st:=6) (a:={ kind:=6,err:=4 }) ?_ (lH 6 4 (by decide) (by decide)) (.inr rfl) hhl
   rw[hst]
   simp[e7]
  | some x =>
   rw[hg] at hwk
   have hst:=hstep _ _ hwk
   have hx:0<=x.version/\x.version<=aW/\x.text.size<=80:=by
    have hm:x∈p.col.ah:=List.mem_of_find?_eq_some hg
    rcases W.ah with e|⟨t,ht,e⟩
    ·rw[e] at hm;cases hm
    rw[e] at hm
    simp at hm
    rcases hm with rfl|rfl<;>exact⟨hlat.1,hlat.2,ht⟩
   refine gV I hc h2 T h3 hcan (st:=6) (a:={ kind:=6,version:=x.version,au:=x.text }) ?_ (EP _ _ ⟨hx.1,hx.2.1⟩ hx.2.2) (.inr rfl) hhl
   rw[hst]
   simp[e7]
 rw[if_neg e6] at hwk
 rcases nr W c.task.q.token with e|e|⟨g,t,ht,e⟩
 ·rw[e] at hwk
  have hst:=hstep _ _ hwk
  refine gV I hc h2 T h3 hcan (st:=6) (a:={ kind:=8,err:=8 }) ?_ (lH 8 8 (by decide) (by decide)) (.inr rfl) hhl
  rw[hst]
  simp[e7]
 ·rw[e] at hwk
  have hst:=hstep _ _ hwk
  refine gV I hc h2 T h3 hcan (st:=6) (a:={ kind:=8,token:=p.col.az,items:=[] }) ?_ (C9 _ hlat) (.inr rfl) hhl
  rw[hst]
  simp[e7]
 rw[e] at hwk
 have hst:=hstep _ _ hwk
 refine gV I hc h2 T h3 hcan (st:=5) (a:={ kind:=8,token:=p.col.az,items:=two p.col.az g t }) ?_ (AB _ _ _ _ hlat hlat ht) (.inl rfl) hhl
 rw[hst]
 simp[e7,two]
theorem BB (I:cO cf N s)(hc:s.ag[k]? = some c)(h2:c.state=2)(T:jG (lk s.core) k c.task)(h4:c.task.ax=4):cO cf N (s.pick k):=by
 have C:eI N (lk s.core) k c:=I.ag k c hc
 have hcan:c.task.can s.core k=true:=by simp[Task.can,h4]
 obtain⟨hiq,hk2,l,hl⟩:=T.pl (by omega)
 obtain⟨p,hp,rfl⟩:∃ p,s.core.place=some p/\p.lock=l:=by simpa[lk] using hl
 obtain⟨B,P,D⟩:=I.ps p hp
 obtain⟨w1,w2,w3,w4,w5⟩:=T.wr h4
 obtain⟨hpo,hpr⟩:=T.po (by omega)
 have hw:=w5 _ hl
 obtain⟨hT,hrest⟩:=D.busy k c hc h2 h4
 obtain⟨nx,hnx⟩:∃ nx:Nat,c.task.next=nx:=⟨c.task.next.toNat,by omega⟩
 rw[hnx] at w4
 have hlt:nx<c.task.q.ops.length:=by omega
 have hop:c.task.q.ops[nx]? = some c.task.q.ops[nx]:=List.getElem?_eq_getElem hlt
 generalize c.task.q.ops[nx]=o at hop
 have hdrop:c.task.q.ops.drop nx=o::c.task.q.ops.drop (nx+1):=by
  rw[List.drop_eq_getElem_cons hlt]
  have:=List.getElem?_eq_getElem hlt
  rw[hop] at this
  cases this
  rfl
 rw[hnx,Int.toNat_natCast,hdrop] at hrest
 obtain⟨hma,hr⟩:=hrest
 have hst:c.task.step s.core k=({ s.core with place:=some { p with col:=p.col.apply o c.task.aM.token } },{ c.task with next:=(nx:Int)+1,ax:=if (nx:Int)+1=c.task.q.ops.length then 6 else 4 }):=by
  unfold Task.step
  rw[if_neg (by omega),if_neg (by omega),if_neg (by omega),if_pos h4,hnx]
  simp[hop,Core.gG,hp,hiq]
 have h8:(if (nx:Int)+1=c.task.q.ops.length then (6:Int) else 4)≠8:=by split<;>decide
 rw[dq hc h2 hcan hst h8]
 have hlk:lk s.core=some p.lock:=hl
 have htok:0<=c.task.aM.token:=by
  have:=hpr.ok
  simp only[bH,Bool.and_eq_true,decide_eq_true_eq] at this
  exact this.1.2.2.2.2.1
 refine I.upd hc ⟨rfl,rfl,rfl,rfl,rfl,rfl,rfl⟩ (Int.le_refl _) I.c1 (λe=>by cases e) (λq hq'=>?_) (λi _=>⟨λe=>(by rw[hlk] at e;cases e),λl e=>⟨p.lock,rfl,by rw[hlk] at e;cases e;exact Adv.refl _ _⟩⟩) (za C h2 ?_ rfl) nU
 ·cases hq'
  have hlat:=P.lat
  refine⟨B,⟨P.found,P.alive,P.drawn,P.lk,P.rng,?_,P.bud,P.b0,P.b1⟩,⟨λi ci hi g1 g2=>?_,λhn=>?_⟩⟩
  ·rcases qG p.col o c.task.aM.token with e|e
   ·simp only[e];exact⟨htok,hT⟩
   simp only[e];exact hlat
  ·have hlt:k<s.ag.length:=(List.getElem?_eq_some_iff.1 hc).1
   by_cases hik:i=k
   ·subst hik
    simp only[List.getElem?_set,if_true,hlt] at hi
    cases hi
    refine⟨hT,?_⟩
    have e:((nx:Int)+1).toNat=nx+1:=by omega
    simp only[e]
    exact hr
   exfalso
   simp only[List.getElem?_set,if_neg (Ne.symm hik)] at hi
   have Ci:eI N (lk s.core) i ci:=I.ag i ci hi
   rcases Ci.st with⟨e,_⟩|⟨_,_,_,Ti⟩|⟨e,_⟩
   ·omega
   ·have hw2:=(Ti.wr g2).2.2.2.2 p.lock hlk
    have e:(k:Int)=i:=ki P.lk hw2 (.inr hw)
    omega
   omega
  have hltc:k<s.ag.length:=(List.getElem?_eq_some_iff.1 hc).1
  by_cases he:(nx:Int)+1=c.task.q.ops.length
  ·have e0:c.task.q.ops.drop (nx+1)=[]:=List.drop_of_length_le (by omega)
   rw[e0] at hr
   exact hr
  exfalso
  exact hn k { c with task:={ c.task with next:=(nx:Int)+1,ax:=if (nx:Int)+1=c.task.q.ops.length then 6 else 4 } } (by simp[List.getElem?_set,hltc]) ⟨h2,by simp[he]⟩
 have hs:(if (nx:Int)+1=c.task.q.ops.length then (6:Int) else 4)=6∨((if (nx:Int)+1=c.task.q.ops.length then (6:Int) else 4)=4/\(nx:Int)+1<c.task.q.ops.length):=by
  split
  ·exact .inl rfl
  exact .inr ⟨rfl,by omega⟩
 refine⟨T.rq,by rcases hs with e|⟨e,_⟩<;>simp[e],T.dl,λh=>?_,λh=>?_,λ_=>⟨hpo,hpr⟩,λ_=>⟨hiq,hk2,_,rfl⟩,λh=>?_,λ_ l e=>?_,λh=>?_,λh=>?_,λh=>?_⟩
 case refine_4=>cases e;exact .inr hw
 case refine_5 =>
  simp only at h
  refine⟨w1,w2,by simp only;omega,by simp only;omega,λl e=>?_⟩
  cases e
  exact hw
 all_goals (simp only at h;omega)
theorem go (I:cO cf N s)(O:cf.Ok)(hk4:k<4):cO cf N (s.pick k):=by
 obtain⟨c,hc⟩:∃ c,s.ag[k]? = some c:=⟨_,List.getElem?_eq_getElem (by rw[I.len];exact hk4)⟩
 have C:eI N (lk s.core) k c:=I.ag k c hc
 rcases C.st with⟨h1,hf⟩|⟨h2,_,_,T⟩|⟨h3,_,hf,hp,_⟩
 ·exact DG I hc h1 hf
 ·rcases T.st with e|e|e|e|e|e
  ·by_cases hk:c.task.q.kind=2
   ·exact yH I O hc h2 T e hk
   exact DJ I hc h2 T e hk
  ·exact DH I hk4 hc h2 T e
  ·exact Fh I O hk4 hc h2 T e
  ·exact BB I hc h2 T e
  ·exact BA I hc h2 T e
  exact DI I hk4 hc h2 T e
 exact Fg I hc h3 hf hp
end
theorem eI.le {N N':Nat}{L:Option Lk}{k:Int}{c:bT}(h:eI N L k c)(hN:N<=N'):eI N' L k c :=
 ⟨h.todo,⟨h.num.1,by have:=h.num.2;omega⟩,h.outs,h.out,h.st⟩
theorem cO.le {cf:Cfg}{N N':Nat}{s:Srv}(I:cO cf N s)(hN:N<=N'):cO cf N' s :=
 { I with ag:=λk c hc=>(I.ag k c hc).le hN }
def nh (cf:Cfg):Srv:={ core:=cf.core,ag:=List.replicate 4 { todo:=[eh] } }
theorem zT {cf:Cfg}(O:cf.Ok):cO cf 1 (nh cf):=by
 refine⟨rfl,rfl,rfl,rfl,rfl,Int.le_refl _,O.s1,rfl,rfl,rfl,λ_=>⟨rfl,.inl rfl⟩,λp h=>(by cases h),λk c hc=>?_,λe he=>by cases he⟩
 have:c={ todo:=[eh] }:=by
  have:=List.mem_of_getElem? hc
  simp[nh] at this
  exact this
 subst this
 exact⟨.inl ⟨rfl,[],rfl,by simp⟩,by simp,by simp,by simp,.inl ⟨rfl,λl h=>by cases h⟩⟩
section
variable {cf:Cfg} {N:Nat} {s:Srv} {k:Nat} {c:bT}
theorem yw (I:cO cf N s)(hc:s.ag[k]? = some c){c':bT}{N':Nat}(hN:N<=N')(h1:c'.state=c.state)(h2:c'.task=c.task)(hck:eI N' (lk s.core) k c'):cO cf N' { s with ag:=s.ag.set k c' }:=by
 have hlt:k<s.ag.length:=(List.getElem?_eq_some_iff.1 hc).1
 have hget:∀ (i:Nat) (ci:bT),(s.ag.set k c')[i]? = some ci->∃ di:bT,s.ag[i]? = some di/\ci.state=di.state/\ci.task=di.task:=λi ci hi=>by
  by_cases hik:i=k
  ·subst hik
   simp only[List.getElem?_set,if_true,hlt] at hi
   cases hi
   exact⟨c,hc,h1,h2⟩
  simp only[List.getElem?_set,if_neg (Ne.symm hik)] at hi
  exact⟨ci,hi,rfl,rfl⟩
 refine { I with len:=by simpa using I.len,ps:=λp hp=>?_,ag:=λi ci hi=>?_ }
 ·obtain⟨B,P,D⟩:=I.ps p hp
  refine⟨B,P,⟨λi ci hi g1 g2=>?_,λhn=>D.calm λi ci hi g=>?_⟩⟩
  ·obtain⟨di,e,e1,e2⟩:=hget i ci hi
   have:=D.busy i di e (by rw[<-e1];exact g1) (by rw[<-e2];exact g2)
   rw[e2]
   exact this
  by_cases hik:i=k
  ·subst hik
   rw[hc] at hi
   cases hi
   exact hn i c' (by simp[List.getElem?_set,hlt]) (by rw[h1,h2];exact g)
  exact hn i ci (by simp only[List.getElem?_set,if_neg (Ne.symm hik)];exact hi) g
 by_cases hik:i=k
 ·subst hik
  simp only[List.getElem?_set,if_true,hlt] at hi
  cases hi
  exact hck
 simp only[List.getElem?_set,if_neg (Ne.symm hik)] at hi
 exact(I.ag i ci hi).le hN
theorem cO.send (I:cO cf N s){q:Req}(hq:Rq q):cO cf (N+1) (s.send k [q]):=by
 unfold Srv.send
 cases hc:s.ag[k]? with
 | none=>exact I.le (Nat.le_succ _)
 | some c =>
  have C:=I.ag k c hc
  refine yw I hc (Nat.le_succ _) rfl rfl ⟨?_,⟨C.num.1,by have:=C.num.2;simp;omega⟩,C.outs,C.out,C.st⟩
  rcases C.todo with⟨h,r,e,hr⟩|⟨h,hr⟩
  ·refine .inl ⟨h,r++[q],by simp[e],λx hx=>?_⟩
   rcases List.mem_append.1 hx with hx|hx
   ·exact hr x hx
   simp at hx
   exact hx ▸ hq
  refine .inr ⟨h,λx hx=>?_⟩
  rcases List.mem_append.1 hx with hx|hx
  ·exact hr x hx
  simp at hx
  exact hx ▸ hq
theorem cO.take (I:cO cf N s):cO cf N (s.take k):=by
 unfold Srv.take
 cases hc:s.ag[k]? with
 | none=>exact I
 | some c =>
  have C:=I.ag k c hc
  have ho:=C.outs
  refine yw I hc (Nat.le_refl _) rfl rfl ⟨C.todo,C.num,?_,by simp,C.st⟩
  have:(0:Int)+(if c.state=1 then 0 else 1)<=c.seq:=by omega
  simpa using this
end
theorem rK (s:Srv)(k:Nat):(s.pick k).events.length<=s.events.length+2:=by
 unfold Srv.pick
 split
 ·omega
 split
 ·omega
 split
 ·split
  ·omega
  simp only[]
  split<;>simp
 split
 ·simp only[]
  split<;>(simp only[];split<;>simp)
 simp
theorem uo (s:Srv)(k:Nat):(s.pick k).ag.length=s.ag.length:=by
 unfold Srv.pick
 split
 ·rfl
 split
 ·rfl
 split
 ·split
  ·rfl
  simp only[]
  split<;>simp
 split
 ·simp only[]
  split<;>simp
 simp
theorem wa {start:Int}(h0:0<=start)(drop:Bool)(m:Move):Rq (m.q start drop):=by
 unfold Move.q
 split
 ·split
  ·exact .del
  exact .put _
 split
 ·refine .delta _ _ ?_ ?_ (by omega) (by omega)<;>split<;>omega
 exact .get
theorem j1 {q:Req}(h:Rq q):bF q=true:=by
 cases h with
 | create=>decide +kernel
 | put n =>
  have e:jE n=jE (n % 5):=by simp[jE,eN]
  rw[e]
  have:∀ m:Fin 5,bF (jE m.val)=true:=by decide +kernel
  exact this ⟨n % 5,Nat.mod_lt _ (by omega)⟩
 | del=>decide +kernel
 | delta t m h1 h2 h3 h4 =>
  have e1:¬ ((8:Int)=1):=by omega
  simp[bF,gA]
  exact decide_eq_true (by omega)
 | get=>decide +kernel
theorem kQ:bF eh=true:=by decide +kernel
def pt (t:Task):Nat:=if t.ax=1/\t.q.kind=2 then 1 else 0
def iD (c:bT):Nat:=(c.todo.filter (λq=>q.kind==2)).length+(if c.state=2 then pt c.task else 0)
structure lj (s:Srv):Prop where
 zero:∀ (k:Nat) c,s.ag[k]? = some c->1<=k->iD c=0
 one:∀ c,s.ag[0]? = some c->iD c+(if s.core.place.isSome then 1 else 0)<=1
theorem lj.upd {s:Srv}(h:lj s){k:Nat}{c c':bT}(hc:s.ag[k]? = some c){x':Core}{E:List Ev}(h1:iD c'<=iD c)(h2:x'.place.isSome=s.core.place.isSome∨iD c'+1<=iD c):lj ⟨x',s.ag.set k c',E⟩:=by
 have hlt:k<s.ag.length:=(List.getElem?_eq_some_iff.1 hc).1
 refine⟨λi ci hi hi1=>?_,λci hi=>?_⟩
 ·by_cases hik:i=k
  ·subst hik
   simp only[List.getElem?_set,if_true,hlt] at hi
   cases hi
   have:=h.zero i c hc hi1
   omega
  simp only[List.getElem?_set,if_neg (Ne.symm hik)] at hi
  exact h.zero i ci hi hi1
 by_cases hk:k=0
 ·subst hk
  simp only[List.getElem?_set,if_true,hlt] at hi
  cases hi
  have h3:=h.one c hc
  rcases h2 with h2|h2
  ·simp only[h2];omega
  split<;>omega
 simp only[List.getElem?_set,if_neg hk] at hi
 have h3:=h.one ci hi
 have h4:=h.zero k c hc (by omega)
 rcases h2 with h2|h2
 ·simp only[h2];exact h3
 omega
theorem uC (x:Core)(i w:Int)(b:Bool):(x.lock i w b).place.isSome=x.place.isSome:=by
 unfold Core.lock
 split
 ·next p hp=>split<;>simp[hp]
 rfl
theorem kz (x:Core)(i w:Int)(b:Bool):(x.unlock i w b).place.isSome=x.place.isSome:=by
 unfold Core.unlock
 split
 ·next p hp =>
  simp only[]
  split<;>split<;>simp[hp]
 simp only[]
 split<;>rfl
theorem tb (x:Core)(i:Int)(o:Op)(t:Int):(x.gG i o t).place.isSome=x.place.isSome:=by
 unfold Core.gG
 split
 ·next p hp=>split<;>simp[hp]
 rfl
theorem te (x:Core)(q:Req)(hk:q.kind=6∨q.kind=7∨q.kind=8):(x.work q).1.place.isSome=x.place.isSome:=by
 unfold Core.work
 split
 ·rfl
 next p hp =>
 split
 ·rfl
 rw[if_neg (by omega),if_neg (by omega),if_neg (by omega)]
 split
 ·unfold Core.write
  simp only[]
  split
  ·rfl
  split<;>simp[hp]
 split
 ·split<;>rfl
 split
 ·split<;>rfl
 omega
theorem tC (t:Task)(x:Core)(who:Int)(hk:t.q.kind=6∨t.q.kind=7∨t.q.kind=8):(t.step x who).1.place.isSome=x.place.isSome/\(t.step x who).2.q=t.q:=by
 unfold Task.step
 split
 ·rw[if_neg (by omega),if_neg (by omega)]
  split<;>exact⟨rfl,rfl⟩
 split
 ·exact⟨uC _ _ _ _,rfl⟩
 split
 ·split
  ·exact⟨kz _ _ _ _,rfl⟩
  have hw:=te x t.q hk
  have h9:decide (t.q.kind=9)=false:=decide_eq_false (by omega)
  simp only[h9,Bool.false_and,Bool.false_eq_true,if_false]
  split
  ·exact⟨hw,rfl⟩
  split<;>exact⟨hw,rfl⟩
 split
 ·refine⟨?_,rfl⟩
  simp only[]
  split
  ·exact tb _ _ _ _
  rfl
 split
 ·exact⟨rfl,rfl⟩
 split
 ·exact⟨kz _ _ _ _,rfl⟩
 split
 ·exact⟨rfl,rfl⟩
 exact⟨rfl,rfl⟩
section
variable {cf:Cfg} {N:Nat} {s:Srv} {k:Nat} {c:bT}
theorem lj.pick (h:lj s)(I:cO cf N s):lj (s.pick k):=by
 cases hcan:s.can k
 ·rw[jA hcan];exact h
 cases hc:s.ag[k]? with
 | none=>simp[Srv.can,hc] at hcan
 | some c =>
  have C:=I.ag k c hc
  rcases C.st with⟨h1,_⟩|⟨h2,_,_,T⟩|⟨h3,_⟩
  ·have hp:iD c=(c.todo.filter (λq=>q.kind==2)).length:=by simp[iD,h1]
   cases ht:c.todo with
   | nil=>simp[Srv.can,hc,h1,ht] at hcan
   | cons q r =>
    by_cases hq:q.kind=1
    ·rw[nG hc h1 ht hq]
     refine h.upd hc ?_ (.inl rfl)
     rw[hp,ht]
     simp[iD,hq]
    rw[jJ hc h1 ht hq]
    refine h.upd hc ?_ (.inl rfl)
    rw[hp,ht]
    by_cases hq2:q.kind=2
    ·simp[iD,pt,Task.start,hq2]
    simp[iD,pt,Task.start,hq2]
  ·have hcan':c.task.can s.core k=true:=by simpa[Srv.can,hc,h2] using hcan
   obtain⟨x',t',hst⟩:∃ x' t',c.task.step s.core k=(x',t'):=⟨_,_,rfl⟩
   by_cases hk2:c.task.q.kind=2
   ·have h1:c.task.ax=1:=by
     rcases T.st with e|e|e|e|e|e
     ·exact e
     all_goals exact absurd hk2 (T.pl (by omega)).2.1
    have hst8:t'.ax=8:=by
     have e:(c.task.step s.core k).2.ax=8:=by
      unfold Task.step
      rw[if_pos h1,if_pos hk2]
      rfl
     rw[hst] at e
     exact e
    rw[gJ hc h2 hcan' hst hst8]
    refine h.upd hc ?_ (.inr ?_)<;>simp[iD,pt,h2,h1,hk2]
   have hkk:=(iS T.rq).2.1
   obtain⟨hp,hq⟩:=tC c.task s.core k (by omega)
   rw[hst] at hp hq
   simp only at hp hq
   by_cases h8:t'.ax=8
   ·rw[gJ hc h2 hcan' hst h8]
    refine h.upd hc ?_ (.inl hp)
    simp[iD]
   rw[dq hc h2 hcan' hst h8]
   refine h.upd hc ?_ (.inl hp)
   simp[iD,pt,hq,hk2]
  rw[rM hc h3]
  refine h.upd hc ?_ (.inl rfl)
  simp[iD]
theorem nN (I:cO cf N s)(O:cf.Ok):mayCore s.core=true:=by
 have h0:=I.c0
 have h1:=I.c1
 have h2:=O.s0
 have h3:=O.c0
 have h4:=O.c1
 have h5:=O.d0
 have h6:=O.d1
 have h7:=O.b0
 have h8:=O.b1
 have h9:=O.l0
 have h10:=O.l1
 simp only[mayCore,pM,Bool.and_eq_true,decide_eq_true_eq,I.bQ,I.ah,I.bytes,I.log,I.hub,I.ct,I.now,List.length_nil]
 omega
theorem BH:∀ (l L:List Int),l.Nodup->(∀ x∈l,x∈L)->l.length<=L.length
 | [],_,_,_=>Nat.zero_le _
 | x::l,L,h,hm=>by
  have hx:=hm x (List.mem_cons_self ..)
  have hn:=List.nodup_cons.1 h
  have:=BH l (L.erase x) hn.2 λy hy=>(List.mem_erase_of_ne (λe=>hn.1 (by subst e;exact hy))).2 (hm y (List.mem_cons_of_mem _ hy))
  have h2:=List.length_erase_of_mem hx
  have h3:=List.length_pos_of_mem hx
  simp only[List.length_cons]
  omega
theorem E4 {x:Core}{p:Place}{B:Int}(P:CC cf x p B):p.lock.an.length+p.lock.queue.length<=4:=by
 have h:=BH (p.lock.an++eP p.lock.queue) [0,1,2,3] P.lk.nd λy hy=>by
  have:0<=y/\y<4:=by
   by_cases h:y<0∨4<=y
   ·have:=P.rng y h
    rcases List.mem_append.1 hy with hy|hy
    ·exact absurd hy this.1
    exact absurd hy this.2.1
   omega
  simp only[List.mem_cons,List.not_mem_nil,or_false]
  omega
 simpa[eP] using h
theorem wA {ops:List Op}(h:Gr ops):ops.all (λo=>aY o.ck o.cv&&decide (o.au.size<=100000))=true/\ops.length=2:=by
 rcases h with⟨t,ht,rfl⟩|rfl
 ·refine⟨?_,rfl⟩
  have:t.size<=100000:=by omega
  simp[aY,this]
 exact⟨by decide +kernel,rfl⟩
theorem qN {c:Col}(W:Whole c):c.ah.all (λy=>decide (y.text.size<=100000))=true/\c.ah.length<=2:=by
 rcases W.ah with h|⟨t,h1,h2⟩
 ·simp[h]
 rw[h2]
 have:t.size<=100000:=by omega
 simp[this]
theorem A5 (I:cO cf N s)(hc:s.ag[k]? = some c)(T:jG (lk s.core) k c.task){p:Place}(hp:s.core.place=some p){B:Int}(P:CC cf s.core p B)(W:Whole p.col)(hB:p.col.bytes=B)(hlm:p.col.aj<=64)(hk2:c.task.q.kind≠2):fT s.core p.col c.task.q=true:=by
 have hq:=iS T.rq
 unfold fT
 have hs:=qN W
 rcases hq.2.1 with e|e|e|e
 ·exact absurd e hk2
 ·simp[e]
 ·rw[if_neg (by omega),if_pos e,P.bud]
  simp only[]
  have hb:=wA (hq.2.2.2.1 e)
  have hdone:(p.col.check c.task.q.ops (s.core.aH - B)).2.2=0->(p.col.check c.task.q.ops (s.core.aH - B)).2.1<=s.core.aH - B/\0<=B+(p.col.check c.task.q.ops (s.core.aH - B)).2.1:=λh0=>by
   have hD:Ek p.col c.task.q.ops (p.col.check c.task.q.ops (s.core.aH - B)).2.1 (s.core.aH - B) p.col.az:=by
    rcases hq.2.2.2.1 e with⟨t,ht,e⟩|e
    ·rw[e] at h0 ⊢
     exact sG W hlm (Int.le_refl _) ht h0
    rw[e] at h0 ⊢
    exact sH W hlm (Int.le_refl _) h0
   refine⟨hD.room,?_⟩
   have d3:=hD.whole.bytes
   have d4:=hD.bytes
   have:=oH (c.task.q.ops.foldl (λc o=>c.apply o p.col.az) p.col).ah
   omega
  have hb0:=P.b0
  have hb1:=P.b1
  have hmb:=I.bytes
  simp only[eU,Bool.and_eq_true,Bool.or_eq_true,decide_eq_true_eq,hb.1,hs.1,hb.2,Bool.not_false,Bool.true_or,and_true]
  refine⟨by omega,?_⟩
  by_cases h0:(p.col.check c.task.q.ops (s.core.aH - B)).2.2=0
  ·have:=hdone h0
   exact .inr ⟨this.2,this.1⟩
  exact .inl h0
 rw[if_neg (by omega),if_neg (by omega),if_pos e]
 have hm:1<=c.task.q.aD:=by
  have:=T.rq
  revert e this
  generalize c.task.q=q
  intro e this
  cases this<;>first|assumption|(exact absurd (show (2:Int)=8 from e) (by decide))|(exact absurd (show (7:Int)=8 from e) (by decide))|(exact absurd (show (6:Int)=8 from e) (by decide))
 simp[hm,pE,W]
theorem A6 (I:cO cf N s)(O:cf.Ok)(U:lj s)(hk4:k<4)(hc:s.ag[k]? = some c)(h2:c.state=2)(T:jG (lk s.core) k c.task)(hcan:c.task.can s.core k=true):fV s.core c.task k=true:=by
 have C:eI N (lk s.core) k c:=I.ag k c hc
 have J:=M.go I O hk4
 have hlt:k<s.ag.length:=(List.getElem?_eq_some_iff.1 hc).1
 obtain⟨x',t',hst⟩:∃ x' t',c.task.step s.core k=(x',t'):=⟨_,_,rfl⟩
 have hpt:(!t'.aX||bH t'.aM)=true:=by
  by_cases h8:t'.ax=8
  ·rw[gJ hc h2 hcan hst h8] at J
   have C':=J.ag k _ (by simp only[List.getElem?_set,if_true,hlt];rfl)
   rcases C'.st with⟨e,_⟩|⟨e,_⟩|⟨_,_,_,hp,_⟩
   ·exact absurd e (by simp)
   ·exact absurd e (by simp)
   have:bH t'.aM=true:=hp.ok
   simp[this]
  rw[dq hc h2 hcan hst h8] at J
  have C':=J.ag k _ (by simp only[List.getElem?_set,if_true,hlt];rfl)
  rcases C'.st with⟨e,_⟩|⟨_,_,_,T'⟩|⟨e,_⟩
  ·simp only at e;omega
  ·by_cases h3:t'.ax<=3
   ·have:t'.aX=false:=T'.un h3
    simp[this]
   have:bH t'.aM=true:=(T'.po (by simp only;omega)).2.ok
   simp[this]
  simp only at e;omega
 have hp0:(!c.task.aX||bH c.task.aM)=true:=by
  by_cases h3:c.task.ax<=3
  ·have:c.task.aX=false:=T.un h3
   simp[this]
  have:bH c.task.aM=true:=(T.po (by omega)).2.ok
  simp[this]
 have hdl:=T.dl
 unfold fV
 rw[hst]
 simp only[j1 T.rq,nN I O,hp0,hpt,hdl,Bool.true_and,Bool.and_true]
 have hd:decide ((0:Int)<=0/\(0:Int)<=1000000)=true:=by decide
 rw[hd,Bool.true_and]
 by_cases h1:c.task.ax=1
 ·rw[if_pos h1]
  split
  ·next hk2 =>
   have hpd:iD c >= 1:=by simp[iD,pt,h2,h1,hk2]
   have hpl:s.core.place=none:=by
    by_cases hk0:k=0
    ·subst hk0
     have:=U.one c hc
     cases hpl:s.core.place with
     | none=>rfl
     | some p=>rw[hpl] at this;simp at this;omega
    have:=U.zero k c hc (by omega)
    omega
   obtain⟨hf,hb⟩:=I.pn hpl
   have hco:=I.bQ
   have:=O.c0
   rcases hb with hb|hb
   ·simp[hf,hpl,hb];omega
   simp[hf,hpl,hb];omega
  rfl
 rw[if_neg h1]
 have h2':2<=c.task.ax:=by rcases T.st with e|e|e|e|e|e<;>omega
 obtain⟨hiq,hk2,l,hl⟩:=T.pl h2'
 obtain⟨p,hp,rfl⟩:∃ p,s.core.place=some p/\p.lock=l:=by simpa[lk] using hl
 obtain⟨B,P,D⟩:=I.ps p hp
 have hll:=E4 P
 rw[hp]
 simp only[]
 have hd2:decide (c.task.id=0/\p.lock.an.length+p.lock.queue.length<=90)=true:=decide_eq_true ⟨hiq,by omega⟩
 rw[hd2,Bool.true_and]
 rcases T.st with e|e|e|e|e|e
 ·exact absurd e h1
 ·rw[if_pos e]
 ·rw[if_neg (by omega),if_pos e]
  have hh:Rd p.lock k∨Wr p.lock k:=ng (by
   unfold Task.can at hcan
   rw[if_pos e,hiq] at hcan
   simpa[Core.held,hp] using hcan)
  obtain⟨W,hB,hlm⟩:=wy I hc hp P D hh (by omega)
  rw[A5 I hc T hp P W hB hlm hk2]
  simp
 ·rw[if_neg (by omega),if_neg (by omega),if_pos e]
  obtain⟨h7,_,hn0,hn1,_⟩:=T.wr e
  have hb:=D.busy k c hc h2 e
  have hlen:=(wA ((iS T.rq).2.2.2.1 h7)).2
  have hlt2:c.task.next.toNat<c.task.q.ops.length:=by omega
  rw[List.drop_eq_getElem_cons hlt2] at hb
  have hg:c.task.q.ops[c.task.next.toNat]? = some c.task.q.ops[c.task.next.toNat]:=List.getElem?_eq_getElem hlt2
  rw[hg]
  simp only[Bool.and_eq_true,decide_eq_true_eq]
  exact⟨by omega,hb.2.1⟩
 ·rw[if_neg (by omega),if_neg (by omega),if_neg (by omega),if_pos e]
  have:=T.rd e
  simp[this]
 rw[if_neg (by omega),if_neg (by omega),if_neg (by omega),if_neg (by omega),if_pos e]
 rcases T.hold (by omega) p.lock hl with g|g
 ·exact decide_eq_true (.inr (zS P.lk g))
 exact decide_eq_true (.inl (zR g))
theorem A7 (I:cO cf N s)(O:cf.Ok)(U:lj s)(hN:N<=61)(hk4:k<4):gZ s k=true:=by
 unfold gZ
 rw[nN I O,Bool.true_and]
 cases hc:s.ag[k]? with
 | none=>rfl
 | some c =>
  have C:eI N (lk s.core) k c:=I.ag k c hc
  simp only[]
  unfold kL
  have hn:=C.num
  have ho:=C.outs
  have hd:decide (0<=c.seq/\c.seq<=100/\c.todo.length<=62/\c.out.length<=62)=true:=decide_eq_true (by
   have:(c.out.length:Int)<=c.seq:=by split at ho<;>omega
   omega)
  have ht:c.todo.all bF=true:=by
   rw[List.all_eq_true]
   intro q hq
   rcases C.todo with⟨_,r,e,hr⟩|⟨_,hr⟩
   ·rw[e] at hq
    rcases List.mem_cons.1 hq with rfl|hq
    ·exact kQ
    exact j1 (hr q hq)
   exact j1 (hr q hq)
  have hou:c.out.all bH=true:=List.all_eq_true.2 C.out
  rw[hd,ht,hou,Bool.true_and,Bool.true_and,Bool.true_and]
  rcases C.st with⟨h1,_⟩|⟨h2,_,ht2,T⟩|⟨h3,_,_,hp,hrq⟩
  ·rw[if_pos h1]
   rcases C.todo with⟨hb,r,e,hr⟩|⟨hb,hr⟩
   ·rw[e,hb];rfl
   cases e:c.todo with
   | nil=>rfl
   | cons q r =>
    have:=(iS (hr q (by rw[e];exact List.mem_cons_self ..))).1
    simp[hb,this]
  ·rw[if_neg (by omega),if_pos h2,ht2,j1 T.rq,Bool.true_and]
   have hmc:eo s.core c.task=true:=by
    unfold eo
    rw[nN I O,Bool.true_and]
    by_cases h3:c.task.ax=3
    ·obtain⟨hiq,hk2,l,hl⟩:=T.pl (by omega)
     obtain⟨p,hp,rfl⟩:∃ p,s.core.place=some p/\p.lock=l:=by simpa[lk] using hl
     simp[hp,hiq]
    simp[h3]
   rw[hmc,Bool.true_and]
   cases hcan:c.task.can s.core k
   ·rfl
   rw[A6 I O U hk4 hc h2 T hcan]
   rfl
  rw[if_neg (by omega),if_neg (by omega)]
  have hr:bF c.dh=true:=by
   rcases hrq with h|h
   ·exact j1 h
   rw[h];exact kQ
  rw[hr,hp.ok]
  simp[h3]
end
inductive Ac
 | opn
 | snd (k:Nat) (q:List Req)
 | pck (k:Nat)
def Srv.act (s:Srv):Ac->Srv
 | .opn=>{ s with ag:=s.ag++[{}] }
 | .snd k q=>s.send k q
 | .pck k=>s.pick k
def Srv.cR (s:Srv)(l:List Ac):Srv:=l.foldl Srv.act s
def pC (n:Int)(s:Srv):Ac->Prop
 | .opn=>(s.ag.length:Int)<n/\∀ m∈s.ag,m.state≠4
 | .snd k q=>∃ m,s.ag[k]? = some m/\m.state≠4/\m.todo.length+q.length<=62/\∀ x∈m.todo++q,bF x=true
 | .pck k=>k<s.ag.length/\gZ s k=true/\s.events.length<=4000
def Fits (n:Int)(s:Srv)(l:List Ac):Prop:=∀ (i:Nat) a,l[i]? = some a->pC n (s.cR (l.take i)) a
theorem iO (s:Srv)(l:List Ac)(a:Ac):s.cR (l++[a])=(s.cR l).act a:=by simp[Srv.cR]
theorem Fits.snoc {n:Int}{s:Srv}{l:List Ac}{a:Ac}(h:Fits n s l)(ha:pC n (s.cR l) a):Fits n s (l++[a]):=by
 intro i b hb
 rcases Nat.lt_or_ge i l.length with hi|hi
 ·rw[List.getElem?_append_left hi] at hb
  rw[List.take_append_of_le_length (Nat.le_of_lt hi)]
  exact h i b hb
 rw[List.getElem?_append_right hi] at hb
 have e:i - l.length=0:=by
  rcases Nat.eq_zero_or_pos (i - l.length) with h0|h0
  ·exact h0
  rw[List.getElem?_eq_none (by simp;omega)] at hb
  cases hb
 rw[e] at hb
 simp at hb
 subst hb
 have e2:i=l.length:=by omega
 subst e2
 simpa using ha
def dp (s:Srv)(j:Nat):Srv:=(List.range j).foldl Srv.pick s
theorem jz (s:Srv)(j:Nat):dp s (j+1)=(dp s j).pick j:=by simp[dp,List.range_succ]
abbrev Ost:=Srv × List (List aU)
def vM (x:Ost)(k:Nat):Ost:=(x.1.take k,x.2.modify k (·++x.1.outs k))
def cj (x:Ost)(j:Nat):Ost:=(List.range j).foldl vM x
theorem ju (x:Ost)(j:Nat):cj x (j+1)=vM (cj x j) j:=by simp[cj,List.range_succ]
def iT (n:Nat)(x:Ost):Ost:=cj (dp x.1 n,x.2) n
def bk (n:Nat)(x:Ost):Nat->Ost
 | 0=>x
 | t+1=>iT n (bk n x t)
structure mP (n:Nat)(x:Ost):Prop where
 len:x.1.ag.length=n
 evs:x.1.events.length<=3900
 may:∀ j,j<n->gZ (dp x.1 j) j=true
 outs:∀ j,j<n->((cj (dp x.1 n,x.2) j).1.outs j).length<=62/\∀ a∈(cj (dp x.1 n,x.2) j).1.outs j,bH a=true
theorem kf (s:Srv)(j:Nat):(dp s j).ag.length=s.ag.length:=by
 induction j with
 | zero=>rfl
 | succ j ih=>rw[jz,uo,ih]
theorem nF (s:Srv)(j:Nat):(dp s j).events.length<=s.events.length+2*j:=by
 induction j with
 | zero=>exact Nat.le_refl _
 | succ j ih =>
  have:=rK (dp s j) j
  rw[jz]
  omega
theorem zL (s:Srv)(k:Nat):(s.take k).ag.length=s.ag.length/\(s.take k).events=s.events:=by
 unfold Srv.take
 split<;>simp
theorem mZ (x:Ost)(j:Nat):(cj x j).1.ag.length=x.1.ag.length/\(cj x j).1.events=x.1.events/\(cj x j).2.length=x.2.length:=by
 induction j with
 | zero=>exact⟨rfl,rfl,rfl⟩
 | succ j ih =>
  rw[ju]
  have:=zL (cj x j).1 j
  exact⟨this.1.trans ih.1,this.2.trans ih.2.1,by simp[vM,ih.2.2]⟩
theorem tO (n:Nat)(x:Ost):(iT n x).1.ag.length=x.1.ag.length/\(iT n x).1.events.length<=x.1.events.length+2*n/\(iT n x).2.length=x.2.length:=by
 have h:=mZ (dp x.1 n,x.2) n
 refine⟨h.1.trans (kf _ _),?_,h.2.2⟩
 show (cj (dp x.1 n,x.2) n).1.events.length<=_
 rw[h.2.1]
 exact nF _ _
def s0 (cf:Cfg):Srv:={ core:=cf.core }
def en:List Ac:=[.opn,.snd 0 [eh],.opn,.snd 1 [eh],.opn,.snd 2 [eh],.opn,.snd 3 [eh],.snd 0 [eb]]
def mvA (start:Int)(drop:Bool)(x:List Ac × Nat)(m:Move):List Ac × Nat :=
 if m.w=0 then (x.1++[.pck m.k],x.2) else (if x.2+1<60 then x.1++[.snd m.k [m.q start drop]] else x.1,x.2+1)
def dk (start:Int)(drop:Bool)(l:List Move):List Ac × Nat:=l.foldl (mvA start drop) (en,0)
theorem mg (start:Int)(drop:Bool)(l:List Move)(m:Move):dk start drop (l++[m])=mvA start drop (dk start drop l) m:=by simp[dk]
theorem pU (m:Move):m.k<4:=by unfold Move.k;omega
theorem yi (start:Int)(drop:Bool)(m:Move):(m.q start drop).kind≠2:=by
 unfold Move.q
 split
 ·split<;>simp[s6,jE]
 split<;>simp[gA,xz]
theorem AT {s:Srv}(h:lj s){k:Nat}{c c':bT}(hc:s.ag[k]? = some c)(hp:iD c'=iD c):lj { s with ag:=s.ag.set k c' } :=
 h.upd hc (E:=s.events) (x':=s.core) (by omega) (.inl rfl)
theorem lj.take {s:Srv}(h:lj s)(k:Nat):lj (s.take k):=by
 unfold Srv.take
 split
 ·next c hc=>exact AT h hc rfl
 exact h
theorem lj.send {s:Srv}(h:lj s)(k:Nat){q:Req}(hq:q.kind≠2):lj (s.send k [q]):=by
 unfold Srv.send
 split
 ·next c hc=>exact AT h hc (by simp[iD,hq])
 exact h
structure Inv (cf:Cfg)(N:Nat)(s:Srv):Prop where
 b:cO cf N s
 u:lj s
section
variable {cf:Cfg} {N:Nat} {s:Srv} {k:Nat}
theorem Inv.pick (h:Inv cf N s)(O:cf.Ok)(hk:k<4):Inv cf N (s.pick k):=⟨M.go h.b O hk,h.u.pick h.b⟩
theorem Inv.take (h:Inv cf N s):Inv cf N (s.take k):=⟨h.b.take,h.u.take k⟩
theorem Inv.send (h:Inv cf N s){q:Req}(hq:Rq q)(h2:q.kind≠2):Inv cf (N+1) (s.send k [q]):=⟨h.b.send hq,h.u.send k h2⟩
theorem Inv.le {N':Nat}(h:Inv cf N s)(hN:N<=N'):Inv cf N' s:=⟨h.b.le hN,h.u⟩
theorem Inv.picks (h:Inv cf N s)(O:cf.Ok):∀ j,j<=4->Inv cf N (dp s j)
 | 0,_=>h
 | j+1,hj=>by rw[jz];exact(Inv.picks h O j (by omega)).pick O (by omega)
theorem Inv.gD {x:Ost}(h:Inv cf N x.1):∀ j,Inv cf N (cj x j).1
 | 0=>h
 | j+1=>by rw[ju];exact(Inv.gD h j).take
theorem Inv.round {x:Ost}(h:Inv cf N x.1)(O:cf.Ok)(hN:N<=61)(he:x.1.events.length<=3900):mP 4 x/\Inv cf N (iT 4 x).1:=by
 have hp:=h.picks O
 refine⟨⟨h.b.len,he,λj hj=>A7 (hp j (by omega)).b O (hp j (by omega)).u hN hj,λj hj=>?_⟩,Inv.gD (x:=(dp x.1 4,x.2)) (hp 4 (Nat.le_refl _)) 4⟩
 have ht:=(Inv.gD (x:=(dp x.1 4,x.2)) (hp 4 (Nat.le_refl _)) j).b
 obtain⟨c,hc⟩:∃ c,(cj (dp x.1 4,x.2) j).1.ag[j]? = some c:=⟨_,List.getElem?_eq_getElem (by rw[ht.len];exact hj)⟩
 have C:=ht.ag j c hc
 have ho:(cj (dp x.1 4,x.2) j).1.outs j=c.out:=by simp[Srv.outs,hc]
 rw[ho]
 have hs:=C.outs
 have hn:=C.num
 exact⟨by split at hs<;>omega,C.out⟩
theorem Inv.rounds {x:Ost}(h:Inv cf N x.1)(O:cf.Ok)(hN:N<=61)(he:x.1.events.length<=1000):∀ j,j<=200->Inv cf N (bk 4 x j).1/\(bk 4 x j).1.events.length<=1000+8*j
 | 0,_=>⟨h,he⟩
 | j+1,hj=>by
  obtain⟨h1,h2⟩:=Inv.rounds h O hN he j (by omega)
  have:=tO 4 (bk 4 x j)
  exact⟨(h1.round O hN (by omega)).2,by show (iT 4 (bk 4 x j)).1.events.length<=_;omega⟩
theorem Inv.Eh (h:Inv cf N s)(O:cf.Ok)(hN:N<=61)(he:s.events.length<=4000)(hk:k<4):pC cf.ag s (.pck k):=⟨by rw[h.b.len];exact hk,A7 h.b O h.u hN hk,he⟩
theorem Inv.Eg (h:Inv cf N s)(hN:N<=61)(hk:k<4){q:Req}(hq:bF q=true):pC cf.ag s (.snd k [q]):=by
 obtain⟨c,hc⟩:∃ c,s.ag[k]? = some c:=⟨_,List.getElem?_eq_getElem (by rw[h.b.len];exact hk)⟩
 have C:=h.b.ag k c hc
 have hn:=C.num
 refine⟨c,hc,?_,by simp;omega,λx hx=>?_⟩
 ·rcases C.st with⟨e,_⟩|⟨e,_⟩|⟨e,_⟩<;>omega
 rcases List.mem_append.1 hx with hx|hx
 ·rcases C.todo with⟨_,r,e,hr⟩|⟨_,hr⟩
  ·rw[e] at hx
   rcases List.mem_cons.1 hx with rfl|hx
   ·exact kQ
   exact j1 (hr x hx)
  exact j1 (hr x hx)
 simp at hx
 exact hx ▸ hq
theorem Ab (s:Srv)(k:Nat)(q:List Req):(s.send k q).events=s.events:=by
 unfold Srv.send
 split<;>rfl
theorem zf (O:cf.Ok):Fits cf.ag (s0 cf) en:=by
 have h4:=O.n0
 intro i a ha
 have hh:=kQ
 have hc:bF eb=true:=j1 .create
 match i,ha with
 | 0,ha=>cases ha;exact⟨by simp[Srv.cR,s0];omega,by simp[Srv.cR,s0]⟩
 | 1,ha=>cases ha;exact⟨{},rfl,by decide,by decide,by simp[hh]⟩
 | 2,ha=>cases ha;exact⟨by simp[Srv.cR,s0,en,Srv.act,Srv.send];omega,by simp[Srv.cR,s0,en,Srv.act,Srv.send]⟩
 | 3,ha=>cases ha;exact⟨{},rfl,by decide,by decide,by simp[hh]⟩
 | 4,ha=>cases ha;exact⟨by simp[Srv.cR,s0,en,Srv.act,Srv.send];omega,by simp[Srv.cR,s0,en,Srv.act,Srv.send]⟩
 | 5,ha=>cases ha;exact⟨{},rfl,by decide,by decide,by simp[hh]⟩
 | 6,ha=>cases ha;exact⟨by simp[Srv.cR,s0,en,Srv.act,Srv.send];omega,by simp[Srv.cR,s0,en,Srv.act,Srv.send]⟩
 | 7,ha=>cases ha;exact⟨{},rfl,by decide,by decide,by simp[hh]⟩
 | 8,ha=>cases ha;exact⟨{ todo:=[eh] },rfl,by decide,by decide,by simp[hh,hc]⟩
 | i+9,ha=>simp[en] at ha
theorem zg (cf:Cfg):(s0 cf).cR en=(nh cf).send 0 [eb]:=rfl
theorem Cl (O:cf.Ok):Inv cf 2 ((s0 cf).cR en):=by
 rw[zg]
 refine⟨(zT O).send .create,λk c hc h1=>?_,λc hc=>?_⟩
 ·match k,hc,h1 with
  | 0,_,h1=>omega
  | 1,hc,_=>cases hc;decide
  | 2,hc,_=>cases hc;decide
  | 3,hc,_=>cases hc;decide
  | k+4,hc,_=>simp[nh,Srv.send] at hc
 cases hc
 have e:((nh cf).send 0 [eb]).core.place=none:=rfl
 rw[e]
 decide
theorem oI (O:cf.Ok)(drop:Bool)(l:List Move)(hl:l.length<=200):Fits cf.ag (s0 cf) (dk cf.start drop l).1/\Inv cf (2+min (dk cf.start drop l).2 59) ((s0 cf).cR (dk cf.start drop l).1)/\((s0 cf).cR (dk cf.start drop l).1).events.length<=2*l.length/\(dk cf.start drop l).1.length<=9+l.length/\(dk cf.start drop l).2<=l.length:=by
 obtain⟨n,hn⟩:∃ n,l.length=n:=⟨_,rfl⟩
 induction n generalizing l with
 | zero =>
  obtain rfl:=List.eq_nil_of_length_eq_zero hn
  exact⟨zf O,Cl O,Nat.le_of_eq rfl,(by decide:en.length<=9+0),Nat.le_refl _⟩
 | succ n ih =>
  obtain⟨r,m,rfl⟩:∃ r m,l=r++[m]:=⟨l.dropLast,l.getLast (by intro e;simp[e] at hn),(List.dropLast_concat_getLast _).symm⟩
  simp only[List.length_append,List.length_cons,List.length_nil] at hn hl ⊢
  obtain⟨h1,h2,h3,h4,h5⟩:=ih r (by omega) (by omega)
  rw[mg]
  generalize dk cf.start drop r=x at *
  unfold mvA
  split
  ·refine⟨h1.snoc (h2.Eh O (by omega) (by omega) (pU m)),?_,?_,by simp;omega,by (try simp only);omega⟩
   ·simp only[iO]
    exact h2.pick O (pU m)
   have:=rK ((s0 cf).cR x.1) m.k
   simp only[iO,Srv.act]
   omega
  have hq:=wa O.s0 drop m
  split
  ·next hlt =>
   refine⟨h1.snoc (h2.Eg (by omega) (pU m) (j1 hq)),?_,?_,by simp;omega,by (try simp only);omega⟩
   ·simp only[iO]
    exact(h2.send hq (yi _ _ m)).le (by (try simp only);omega)
   simp only[iO,Srv.act,Ab]
   omega
  refine⟨h1,h2.le (by (try simp only);omega),?_,?_,?_⟩<;>(try simp only)<;>omega
end
def um : Req := { kind := 4, col := home, uid := bs "a", au := ann, ck := 1 }
def jF : Req := { kind := 7, col := home, ops := [⟨false, bs "b", bob, 0, 0⟩, ⟨true, bs "c", ⟨#[]⟩, 0, 0⟩] }
def qO:Req:={ kind:=9,col:=home,token:=2,bj:=9 }
def jo:List Req:=[eh,eb,um,um,jF,qO]
def cf0:Cfg:=⟨12,0,20006,3,2,6,65536,9⟩
theorem Fl:cf0.Ok:=⟨by decide,by decide,by decide,by decide,by decide,by decide,by decide,by decide,by decide,by decide,by decide,by decide,by decide,by decide,by decide,by decide⟩
def mw:List Ac:=[.opn,.snd 0 jo]
def x1:Ost:=((s0 cf0).cR mw,[[]])
def gz:List aU:=[{ kind:=1 },{ kind:=2,token:=1 },{ kind:=4,token:=2,version:=2 },{ kind:=4,err:=6 },{ kind:=7,err:=4,index:=1 }]
def fx:List Ev->List Ev
 | []=>[]
 | e::l=>if e.kind=1/\¬ (l.any λx=>x.kind==3&&x.conn==e.conn&&x.seq==e.seq)=true then e::fx l else fx l
def zx (x:Core)(c:Col)(q:Req):Bool :=
 if q.kind=4 then (match x.aZ with|some b=>eU x c b [⟨false,q.uid,q.au,q.ck,q.cv⟩] true|none=>false)
 else if q.kind=7 then (match x.aZ with|some b=>eU x c b q.ops false|none=>false)
 else if q.kind=8 then false
 else decide (q.kind=6∨q.kind=9)
theorem zw {x:Core}{c:Col}{q:Req}(h:zx x c q=true):fT x c q=true:=by
 unfold zx at h
 unfold fT
 by_cases h4:q.kind=4
 ·rw[if_pos h4] at h ⊢;exact h
 rw[if_neg h4] at h ⊢
 by_cases h7:q.kind=7
 ·rw[if_pos h7] at h ⊢;exact h
 rw[if_neg h7] at h ⊢
 by_cases h8:q.kind=8
 ·rw[if_pos h8] at h;cases h
 rw[if_neg h8] at h ⊢
 exact h
def zQ (x:Core)(t:Task)(who:Int):Bool :=
 bF t.q&&mayCore x&&decide (0<=t.deadline/\t.deadline<=1000000)&&(!t.aX||bH t.aM)&&(!(t.step x who).2.aX||bH (t.step x who).2.aM) &&
 (if t.ax=1 then (if t.q.kind=2 then !x.found&&x.place.isNone&&decide (0<=(x.aZ.getD (0,0)).1/\(x.aZ.getD (0,0)).1<x.bQ) else true)
  else match x.place with
   | none=>false
   | some p=>decide (t.id=0/\p.lock.an.length+p.lock.queue.length<=90) &&
    (if t.ax=2 then true
    else if t.ax=3 then !p.alive||zx x p.col t.q
    else if t.ax=4 then decide (0<=t.next/\t.next<=100)&&(match t.q.ops[t.next.toNat]? with|some o=>cM p.col o t.aM.token|none=>false)
    else if t.ax=5 then decide (0<=t.next/\t.next<=100)
    else if t.ax=6 then decide (p.lock.state who=3∨p.lock.state who=2)
    else decide (t.ax=7)))
theorem zP {x:Core}{t:Task}{who:Int}(h:zQ x t who=true):fV x t who=true:=by
 unfold zQ at h
 unfold fV
 rw[Bool.and_eq_true] at h ⊢
 refine⟨h.1,?_⟩
 have h:=h.2
 by_cases h1:t.ax=1
 ·rw[if_pos h1] at h ⊢;exact h
 rw[if_neg h1] at h ⊢
 cases hp:x.place with
 | none=>rw[hp] at h;cases h
 | some p =>
  rw[hp] at h
  simp only[Bool.and_eq_true] at h ⊢
  refine⟨h.1,?_⟩
  have h:=h.2
  by_cases h2:t.ax=2
  ·rw[if_pos h2]
  rw[if_neg h2] at h ⊢
  by_cases h3:t.ax=3
  ·rw[if_pos h3] at h ⊢
   rw[Bool.or_eq_true] at h ⊢
   exact h.imp id zw
  rw[if_neg h3] at h ⊢
  exact h
def Es (s:Srv)(k:Nat)(c:bT):Bool :=
 decide (0<=c.seq/\c.seq<=100/\c.todo.length<=62/\c.out.length<=62)&&c.todo.all bF&&c.out.all bH &&
  (if c.state=1 then (match c.todo with|[]=>true|q::_=>(q.kind==1) != c.bound)
  else if c.state=2 then bF c.dh&&eo s.core c.task&&(!c.task.can s.core k||zQ s.core c.task k)
  else decide (c.state=3)&&bF c.dh&&bH c.cL)
def AJ (s:Srv)(k:Nat):Bool:=mayCore s.core&&(match s.ag[k]? with|none=>true|some c=>Es s k c)
theorem AI {s:Srv}{k:Nat}(h:AJ s k=true):gZ s k=true:=by
 unfold AJ at h
 unfold gZ
 rw[Bool.and_eq_true] at h ⊢
 refine⟨h.1,?_⟩
 have h:=h.2
 cases hc:s.ag[k]? with
 | none=>rfl
 | some c =>
  rw[hc] at h
  simp only at h ⊢
  unfold Es at h
  unfold kL
  rw[Bool.and_eq_true] at h ⊢
  refine⟨h.1,?_⟩
  have h:=h.2
  by_cases h1:c.state=1
  ·rw[if_pos h1] at h ⊢;exact h
  rw[if_neg h1] at h ⊢
  by_cases h2:c.state=2
  ·rw[if_pos h2] at h ⊢
   rw[Bool.and_eq_true] at h ⊢
   refine⟨h.1,?_⟩
   have h:=h.2
   rw[Bool.or_eq_true] at h ⊢
   exact h.imp id zP
  rw[if_neg h2] at h ⊢
  exact h
def okB:Nat->Ost->Bool
 | 0,x=>decide (x.1.events.length<=1000)
 | t+1,x=>AJ x.1 0&&decide (x.1.ag.length=1)&&decide (x.1.events.length<=1000)&&decide (((dp x.1 1).outs 0).length<=62)&&((dp x.1 1).outs 0).all bH&&okB t (iT 1 x)
theorem lB (n:Nat)(x:Ost):∀ t,bk n (iT n x) t=bk n x (t+1)
 | 0=>rfl
 | t+1=>by
  show iT n (bk n (iT n x) t)=iT n (bk n x (t+1))
  rw[lB n x t]
theorem AU:∀ (t:Nat) (x:Ost),okB t x=true->(∀ j,j<t->mP 1 (bk 1 x j))/\(bk 1 x t).1.events.length<=1000
 | 0,x,h=>⟨λj hj=>by omega,of_decide_eq_true h⟩
 | t+1,x,h=>by
  simp only[okB,Bool.and_eq_true,decide_eq_true_eq,List.all_eq_true] at h
  obtain⟨⟨⟨⟨⟨h1,h2⟩,h3⟩,h4⟩,h5⟩,h6⟩:=h
  obtain⟨h7,h8⟩:=AU t _ h6
  refine⟨λj hj=>?_,by rw[<-lB];exact h8⟩
  cases j with
  | zero =>
   refine⟨h2,by show x.1.events.length<=3900;omega,λj hj=>?_,λj hj=>?_⟩
   ·obtain rfl:j=0:=by omega
    exact AI h1
   obtain rfl:j=0:=by omega
   exact⟨h4,h5⟩
  | succ j =>
   rw[<-lB]
   exact h7 j (by omega)
theorem ok1:okB 80 x1=true:=by decide +kernel
theorem FH:(bk 1 x1 80).2=[gz]/\(fx (bk 1 x1 80).1.events).length=1:=by decide +kernel
theorem rC:jo.all bF=true:=by decide +kernel
theorem Gk:Fits cf0.ag (s0 cf0) mw:=by
 intro i a ha
 match i,ha with
 | 0,ha=>cases ha;exact⟨by decide,by simp[Srv.cR,s0]⟩
 | 1,ha=>cases ha;exact⟨{},rfl,by decide,by decide,λx hx=>List.all_eq_true.1 rC x (by simpa using hx)⟩
 | i+2,ha=>simp[mw] at ha
end M
