/- Walks. -/
import Derived.Test.YtocppjcocnckmaaGreatDoorM16
import Derived.Test.YtocppjcocnckmaaGreatDoorM22
import Derived.BigRegion
import Derived.RegionTactic
import Derived.Lib.MinMax
import Derived.Deep.RegionLaw
import Derived.IntWalk
import Derived.Deep.CutRange
set_option maxRecDepth 100000
set_option maxHeartbeats 8000000
set_option linter.all false
open Go.Lib (hid)
namespace Go.Proofs.YtocppjcocnckmaaGreatDoor
open Go.Proofs.Tryz
namespace Co
open Go.RowKit
theorem tne {w:World}{a b:Nat}{t u:TypeId}(ha:cB w a=some t)(hb:cB w b=some u)(h:t≠u):a≠b:=λe=>by
 rw[e,hb] at ha
 cases ha
 exact h rfl
def hzn (c:M.Col):Int:=if (c.log.length:Int)<c.aj then c.aG else max c.aG (Rg.ox c.aj c.log)
theorem zl (w:World)(B g:Nat)(c:M.Col)(o:M.Op)(token:Int)(h:bX w B g c)(hB:B<=w.heap.size)(hg:B<=g)(hd:o.del=false)(hno:M.bR c.ah o.uid=none)(hup:∀ x∈c.ah,kl x.uid<kl o.uid)
  (ht:c.az<=token) (hlm:(c.ah.length:Int)<c.aD) (hlm1:1<=c.aj) (hlog:(c.log.length:Int)<=c.aj) (hlog2:c.log.length<=90) (hcl:c.ah.length<1000) (hb0:0<=c.bytes) (hb1:c.bytes<=1000000000) (hsz:o.au.size<=100000) :
  Calls prog 118 #[.pointer (some ⟨g,0,none⟩),.agg #[.bool o.del,.string o.uid,.string o.au,.int .i64 o.ck,.int .i64 o.cv],.int .i64 token] w λe w'=>e = .returned (.bool true) /\
   bX w' B g { c with ah:=c.ah++[⟨o.uid,token,o.au⟩],bytes:=c.bytes+(o.au.size:Int),log:=Rg.gE c.aj c.log (token,o.uid),aG:=hzn c,az:=token }/\FrX B Ts [] w w':=by
 have f0:Fr [] w (w.alloc (.cells #[.bool o.del,.string o.uid,.string o.au,.int .i64 o.ck,.int .i64 o.cv] 43)):=rZ.alloc _
 have b0:=Holds.new w 43 #[.bool o.del,.string o.uid,.string o.au,.int .i64 o.ck,.int .i64 o.cv]
 have HG:=hid (jL _ B g c o.uid (h.fr0 f0))
 rw[hno,hd] at HG
 rw[hd] at f0 b0 ⊢
 have HU:=hid hup
 have H0:=hid h
 have e0:(vOf none:Int)=0:=rfl
 have e1:(tOf none)=ByteArray.empty:=rfl
 rw[e0,e1] at HG
 clear hup hno hd e0 e1
 have hnt:¬ token<c.az:=by omega
 go_enter func118,ntmps118
 go_wp2_with fail
 refine uu HG λw1 f1=>?_
 have HL:=hid (λx=>ig (w1.drewN x) B g c (h.fr0 ((f0.trans f1).drewN x)))
 obtain⟨m,r,hm,hr,p0,mp0,rp0⟩:=h.fr0 (f0.trans f1)
 have b1:=b0.fr f1 (by simp)
 have d0:=b1.cell 0
 have d1:=b1.cell 1
 have d2:=b1.cell 2
 have c0:=p0.cell 0
 have c1:=p0.cell 1
 have c2:=p0.cell 2
 have c3:=p0.cell 3
 have c4:=p0.cell 4
 simp at d0 d1 d2 c0 c1 c2 c3 c4
 clear h
 have hgl:=p0.lt
 have hbl:=b1.lt
 have hlm':¬ c.aD<=(c.ah.length:Int):=by omega
 go_wp2_with fail
 go_quiet ((go_at_call 168;exact bB (HL _)))
 obtain⟨W,hW⟩:∃ W,W=w1.drewN nq:=⟨_,rfl⟩
 have fW:Fr [] w W:=by rw[hW];exact(f0.trans f1).drewN _
 have bW:Holds W w.heap.size 43 #[.bool false,.string o.uid,.string o.au,.int .i64 o.ck,.int .i64 o.cv]:=by rw[hW];exact b1.drewN _
 have pW:Holds W g 257 #[.pointer (some ⟨m,0,none⟩),.pointer (some ⟨r,0,none⟩),.int .i64 c.aD,.int .i64 c.bytes,.int .i64 c.az,.int .i64 c.aG]:=by rw[hW];exact p0.drewN _
 have mW:Oc.aQ W B m (bK c.ah):=by rw[hW];exact mp0.fr0 (rZ.drewN _)
 have rW:Rg.bC W B r c.aj c.log:=by rw[hW];exact rp0.fr0 (rZ.drewN _)
 rw[<-hW]
 clear hW mp0 rp0 p0 b1 b0 d0 d1 d2 c0 c1 c2 c3 c4 HL hgl hbl
 have HM:=hid mW
 have HR:=hid rW
 have d0:=bW.cell 0
 have c3:=pW.cell 3
 have z3:=pW.frozen 3
 simp at d0 c3 z3
 have hgl:=pW.lt
 have hbl:=bW.lt
 have hgb:g≠w.heap.size:=tne pW.ty bW.ty (by decide)
 have hbg:w.heap.size≠g:=hgb.symm
 clear mW rW
 go_wp2_with fail
 obtain⟨W1,hW1⟩:∃ W1,W1=W.setCell ⟨g,3,none⟩ (.int .i64 c.bytes):=⟨_,rfl⟩
 have x1:FrX B Ts [] W W1:=by
  rw[hW1]
  exact FrX.aB ((Fr.refl [g] W).setCell (by simp) _) (by simpa using hg) (λx hx=>⟨257,by simp,by simp at hx;subst hx;exact pW.ty⟩)
 have x1':FrX B [257] [] W W1:=by
  rw[hW1]
  exact FrX.aB ((Fr.refl [g] W).setCell (by simp) _) (by simpa using hg) (λx hx=>⟨257,by simp,by simp at hx;subst hx;exact pW.ty⟩)
 have p1:Holds W1 g 257 #[.pointer (some ⟨m,0,none⟩),.pointer (some ⟨r,0,none⟩),.int .i64 c.aD,.int .i64 c.bytes,.int .i64 c.az,.int .i64 c.aG]:=by rw[hW1];simpa using pW.set 3 (.int .i64 c.bytes)
 have m1:Oc.aQ W1.drew B m (bK c.ah):=(HM.frx x1' (by decide) (by decide) (by simp)).fr0 rZ.drew
 have r1:Rg.bC W1 B r c.aj c.log:=HR.frx x1' (by decide) (by decide)
 have b1:Holds W1 w.heap.size 43 #[.bool false,.string o.uid,.string o.au,.int .i64 o.ck,.int .i64 o.cv]:=bW.frx x1' (by decide) (by simp)
 rw[<-hW1]
 have hs1:w.heap.size<=W1.heap.size:=Nat.le_trans fW.size x1.size
 have HP:=hid (Oc.iW W1.drew B m (bK c.ah) o.uid token o.au m1 (λx hx=>by
  obtain⟨y,hy,rfl⟩:=List.mem_map.1 hx
  exact HU y hy) (by simpa[bK] using hcl) (by simp;omega) hm)
 have hgm:g≠m:=by
  obtain⟨v,hv,_⟩:=HM.at_
  exact tne pW.ty hv.ty (by decide)
 have HMT:=hid (show cB W1.drew m=some 314 from by
  obtain⟨v,hv,_⟩:=m1.at_
  exact hv.ty)
 clear hW1 d0 c3 z3 x1' pW bW m1
 have d1:=b1.cell 1
 have d2:=b1.cell 2
 have c0:=p1.cell 0
 simp at d1 d2 c0
 have hgl1:=p1.lt
 have hbl1:=b1.lt
 clear hgl hbl
 go_cut [] from 12 (λw2=>Oc.aQ w2 B m (bK c.ah++[(o.uid,token,o.au)])/\FrX B [312] [m] W1.drew w2)
 case first =>
  go_region_law (go_simp;go_at_call 170;refine HP.mono ?_;rintro e w2 ⟨rfl,q1,q2⟩)
  all_goals
   go_wp2_with fail
   go_meet
   exact⟨q1,q2⟩
 case rest =>
  obtain⟨q1,q2⟩:=hcut
  obtain⟨w2,hw2⟩:∃ w2,w2=wc:=⟨_,rfl⟩
  rw[<-hw2] at q1 q2 ⊢
  clear hw2
  have q2':FrX B Ts [] W1 w2:=((FrX.aA ((Fr.refl [] W1).drew)).trans ((q2.mono (Ts:=Ts) (T:=[m]) (by simp) (λ_ h=>h)).jY (λx hx=>.inr (.inr ⟨314,by simp,by simp at hx;subst hx;exact HMT⟩))))
  have p2:Holds w2 g 257 #[.pointer (some ⟨m,0,none⟩),.pointer (some ⟨r,0,none⟩),.int .i64 c.aD,.int .i64 c.bytes,.int .i64 c.az,.int .i64 c.aG]:=p1.drew.frx q2 (by decide) (by simpa using hgm)
  have b2:Holds w2 w.heap.size 43 #[.bool false,.string o.uid,.string o.au,.int .i64 o.ck,.int .i64 o.cv]:=b1.drew.frx q2 (by decide) (by
   have:=tne b1.drew.ty HMT (by decide)
   simpa using this)
  have r2:Rg.bC w2 B r c.aj c.log:=(r1.fr0 ((Fr.refl [] W1).drew)).frx (Us:=[312,314]) ((q2.mono (T:=[m]) (by simp) (λ_ h=>h)).jY (λx hx=>.inr (.inr ⟨314,by simp,by simp at hx;subst hx;exact HMT⟩))) (by decide) (by decide)
  clear d1 d2 c0
  have c3:=p2.cell 3
  have z3:=p2.frozen 3
  have d2:=b2.cell 2
  simp at c3 z3 d2
  have hgl2:=p2.lt
  have hbl2:=b2.lt
  have hbw:IntKind.i64.wrap (c.bytes+(o.au.size:Int))=c.bytes+(o.au.size:Int):=IntWalk.i64_in _ (by omega)
  clear hgl1 hbl1
  go_wp2_with fail
  go_region
  obtain⟨W3,hW3⟩:∃ W3,W3=(w2.setCell ⟨g,3,none⟩ (.int .i64 (c.bytes+(o.au.size:Int)))).drew:=⟨_,rfl⟩
  have x3:FrX B [257] [] w2 W3:=by
   rw[hW3]
   exact(FrX.aB ((Fr.refl [g] w2).setCell (by simp) _) (by simpa using hg) (λx hx=>⟨257,by simp,by simp at hx;subst hx;exact p2.ty⟩)).trans (FrX.aA rZ.drew)
  have p3:Holds W3 g 257 #[.pointer (some ⟨m,0,none⟩),.pointer (some ⟨r,0,none⟩),.int .i64 c.aD,.int .i64 (c.bytes+(o.au.size:Int)),.int .i64 c.az,.int .i64 c.aG]:=by rw[hW3];simpa using (p2.set 3 (.int .i64 (c.bytes+(o.au.size:Int)))).drew
  have m3:Oc.aQ W3 B m (bK c.ah++[(o.uid,token,o.au)]):=q1.frx x3 (by decide) (by decide) (by simp)
  have r3:Rg.bC W3 B r c.aj c.log:=r2.frx x3 (by decide) (by decide)
  have b3:Holds W3 w.heap.size 43 #[.bool false,.string o.uid,.string o.au,.int .i64 o.ck,.int .i64 o.cv]:=b2.frx x3 (by decide) (by simp)
  have q3:FrX B Ts [] W1 W3:=q2'.trans (x3.mono (by simp) (λ_ h=>h))
  rw[<-hW3]
  clear hW3 p2 b2 r2 c3 z3 d2 hgl2 hbl2 x3 q2' q1 hbw
  have HM3:=hid m3
  have d1:=b3.cell 1
  have c1:=p3.cell 1
  simp at d1 c1
  have hgl:=p3.lt
  have hbl:=b3.lt
  clear m3
  have hs3:=q3.size
  have HQ:=hid (λ(U:World) (f:Fr [] W3 U)=>(Rg.nE U B r c.aj token o.uid c.log (r3.fr0 f) (by have:=f.size;omega) hr hlm1 hlog hlog2).mono (λe w' ⟨he,a,b,S,c1,c2,c3⟩=>(⟨he,a,(FrX.aA f).trans b,S,f,c1,c2 W3 r3 f,c3⟩:e=Ending.returned (.tuple #[.agg #[.int .i64 (Rg.ox c.aj c.log),.string (Rg.rT c.aj c.log)],.bool (!decide ((c.log.length:Int)<c.aj))])/\Rg.bC w' B r c.aj (Rg.gE c.aj c.log (token,o.uid))/\FrX B Rg.Ts [] W3 w'/\∃ S,Fr [] W3 U/\Fr S U w'/\(∀ x∈S,x<W3.heap.size)/\∀ v k,w'.cell? ⟨r,1,none⟩=some v->ay v=some k->k∈S∨U.heap.size<=k)))
  have HRL:=hid (show r<W3.heap.size from by
   obtain⟨_,_,k,_⟩:=r3
   exact k.lt)
  clear r3
  obtain⟨ot,hot⟩:∃ ot,Rg.ox c.aj c.log=ot:=⟨_,rfl⟩
  obtain⟨ou,hou⟩:∃ ou,Rg.rT c.aj c.log=ou:=⟨_,rfl⟩
  obtain⟨gn,hgn⟩:∃ gn,(!decide ((c.log.length:Int)<c.aj))=gn:=⟨_,rfl⟩
  obtain⟨nl,hnl⟩:∃ nl,Rg.gE c.aj c.log (token,o.uid)=nl:=⟨_,rfl⟩
  rw[hot,hou,hgn,hnl] at HQ
  have HZ:=hid (And.intro hot (And.intro hgn hnl))
  clear hot hou hgn hnl
  go_wp2_with fail
  go_cut [10,11] from 12 (λs10 s11 w4=>(∃ b,s10 = .pointer (some ⟨b,0,none⟩)/\W3.heap.size<=b/\Holds w4 b 262 #[.int .i64 ot,.string ou])/\s11 = .bool gn/\Rg.bC w4 B r c.aj nl/\FrX B Rg.Ts [] W3 w4)
  case first =>
   go_region_law (go_simp;go_at_call 171;refine(HQ _ (by first|exact rZ.drew|exact(rZ.alloc _).drew)).mono ?_;rintro e w4 ⟨rfl,q4,x4,S4,fU,f4,s4,o4⟩;have O4:=hid o4;clear o4;try (have bx4:=(Holds.new W3 262 #[.int .i64 0,.string ⟨#[]⟩]).drew.fr f4 (λhx=>Nat.lt_irrefl _ (s4 _ hx));have bz0:=bx4.frozen 0;have bz1:=bx4.frozen 1;have by0:=bx4.cell 0;have by1:=bx4.cell 1;have bl4:=bx4.lt;simp at by0 by1))
   all_goals
    go_wp2_with fail
    go_meet
    first
    | exact⟨⟨_,rfl,x4.size,Holds.new _ _ _⟩,rfl,q4.fr0 (rZ.alloc _),x4.alloc _⟩
    | (have hrb:r≠W3.heap.size:=(by have:=HRL.out;omega);have hob:∀ v k,w4.cell? ⟨r,1,none⟩=some v->ay v=some k->k≠W3.heap.size:=(λv k h1 h2=>by rcases O4 v k h1 h2 with h|h;(have:=s4 k h;omega);(simp at h;omega));exact⟨⟨_,rfl,Nat.le_refl _,by simpa using (bx4.set 0 (.int .i64 ot)).set 1 (.string ou)⟩,rfl,(q4.far hrb hob _).far hrb (λv k h1 h2=>hob v k (by rw[<-h1];exact(World.cell?_of_block (Below.heap_setCell w4 _ _ r (by simp;exact hrb))).symm) h2) _,(x4.aw (Nat.le_refl _) _).aw (Nat.le_refl _) _⟩)
  case rest =>
   obtain⟨⟨b,rfl,hbW,hb4⟩,rfl,q4,x4⟩:=hcut
   clear HQ HP HM HR HU H0 HG
   have x4g:FrX B [318,262] [] W3 wc:=x4
   have p4:=p3.frx x4g (by decide) (by simp)
   clear d1 c1
   have x6:∀ (V:World) (i:Nat) (v:Value),cB V g=some 257->FrX B [257] [] V (V.setCell ⟨g,i,none⟩ v):=λV i v hV=>FrX.aB ((Fr.refl [g] V).setCell (by simp) _) (by simpa using hg) (λx hx=>⟨257,by simp,by simp at hx;subst hx;exact hV⟩)
   have HX6:=hid x6
   have HP4:=hid (And.intro p4 (And.intro q4 x4))
   have z4:=p4.frozen 4
   have z5:=p4.frozen 5
   have c4:=p4.cell 4
   have c5:=p4.cell 5
   have e0:=hb4.cell 0
   simp at c4 c5 e0
   have hgl4:=p4.lt
   have hbl4:=hb4.lt
   clear x6 p4 q4 x4 hb4
   cases gn
   ·go_wp2_with fail
    go_ret
    have hh:hzn c=c.aG:=by
     have:=HZ.2.1
     simp at this
     unfold hzn
     rw[if_pos this]
    have x5:=HX6.out wc 4 (.int .i64 token) HP4.1.ty
    refine⟨rfl,⟨m,r,hm,hr,by rw[hh];simpa using HP4.1.set 4 (.int .i64 token),?_,by rw[HZ.2.2];exact HP4.2.1.frx x5 (by decide) (by decide)⟩,?_⟩
    ·(show Oc.aQ _ B m (bK (c.ah++[⟨o.uid,token,o.au⟩]))
      have he:bK (c.ah++[⟨o.uid,token,o.au⟩])=bK c.ah++[(o.uid,token,o.au)]:=by simp[bK,ent]
      rw[he]
      exact(HM3.frx x4g (by decide) (by decide) (by simp)).frx x5 (by decide) (by decide) (by simp))
    exact((((FrX.aA fW).trans x1).trans q3).trans (HP4.2.2.mono (by simp) (λ_ h=>h))).trans (x5.mono (by simp) (λ_ h=>h))
   go_wp2_with fail
   go_region
   go_wp2_with fail
   go_ret
   have hh:hzn c=max c.aG ot:=by
    have:=HZ.2.1
    simp at this
    unfold hzn
    rw[if_neg (by omega),HZ.1]
   have x51:=HX6.out wc 5 (.int .i64 (max c.aG ot)) HP4.1.ty
   have p51:=HP4.1.set 5 (.int .i64 (max c.aG ot))
   have x5:=(x51.trans (HX6 _ 4 (.int .i64 token) p51.ty)).trans (FrX.aA rZ.drew)
   refine⟨rfl,⟨m,r,hm,hr,by rw[hh];simpa using (p51.set 4 (.int .i64 token)).drew,?_,by rw[HZ.2.2];exact HP4.2.1.frx x5 (by decide) (by decide)⟩,?_⟩
   ·(show Oc.aQ _ B m (bK (c.ah++[⟨o.uid,token,o.au⟩]))
     have he:bK (c.ah++[⟨o.uid,token,o.au⟩])=bK c.ah++[(o.uid,token,o.au)]:=by simp[bK,ent]
     rw[he]
     exact(HM3.frx x4g (by decide) (by decide) (by simp)).frx x5 (by decide) (by decide) (by simp))
   exact((((FrX.aA fW).trans x1).trans q3).trans (HP4.2.2.mono (by simp) (λ_ h=>h))).trans (x5.mono (by simp) (λ_ h=>h))
open Go.RowKit
theorem CN {l:List M.Cd}{u:ByteArray}{c:M.Cd}(hs:Srt (Oc.keys (bK l)))(h:M.bR l u=some c)(t:Int)(s:ByteArray):Oc.tM (bK l) (idx (Oc.keys (bK l)) u) t s=bK (M.gQ l ⟨u,t,s⟩):=by
 obtain⟨hu,hx⟩:=qj hs h
 obtain⟨i,hi⟩:∃ i,idx (Oc.keys (bK l)) u=i:=⟨_,rfl⟩
 rw[hi] at hx ⊢
 have hil:i<l.length:=by
  have:=(List.getElem?_eq_some_iff.1 hx).1
  simpa[bK] using this
 have hkey:∀ (j:Nat) (y:M.Cd),l[j]? = some y->(Oc.keys (bK l))[j]? = some y.uid:=λj y hy=>by
  simp[Oc.keys,bK,ent,hy]
 have hui:l[i].uid=u:=by
  have:(bK l)[i]? = some (ent l[i]):=by simp[bK,List.getElem?_eq_getElem hil]
  rw[hx] at this
  simp only[Option.some.injEq,ent,Prod.mk.injEq] at this
  rw[<-this.1,hu]
 have hne:∀ (j:Nat) (y:M.Cd),l[j]? = some y->j≠i->y.uid≠u:=λj y hy hj e=>by
  have k1:=hkey j y hy
  have k2:=hkey i l[i] (List.getElem?_eq_getElem hil)
  rw[hui] at k2
  rw[e] at k1
  rcases Nat.lt_or_gt_of_ne hj with h'|h'
  ·exact bG _ (iq hs k1 k2 h')
  exact bG _ (iq hs k2 k1 h')
 have hany:(l.any λx=>x.uid==u)=true:=List.any_eq_true.2 ⟨l[i],List.getElem_mem hil,by rw[fY,hui];simp⟩
 unfold Oc.tM M.gQ
 rw[hx]
 simp only[hany,if_true]
 apply List.ext_getElem?
 intro j
 simp only[bK,List.getElem?_set,List.getElem?_map,List.length_map]
 by_cases e:i=j
 ·subst e
  simp[hil,hui,fY,ent,hu]
 rw[if_neg e]
 cases hj:l[j]? with
 | none=>rfl
 | some y =>
  have:=hne j y hj (λh=>e h.symm)
  simp[fY,this]
theorem zk (w:World)(B g:Nat)(c:M.Col)(o:M.Op)(token:Int)(e0':M.Cd)(h:bX w B g c)(hB:B<=w.heap.size)(hg:B<=g)(hd:o.del=false)(hyes:M.bR c.ah o.uid=some e0')
  (ht:c.az<=token) (hlm1:1<=c.aj) (hlog:(c.log.length:Int)<=c.aj) (hlog2:c.log.length<=90) (hb0:(e0'.text.size:Int)<=c.bytes) (hb1:c.bytes<=1000000000) (hsz:o.au.size<=100000) :
  Calls prog 118 #[.pointer (some ⟨g,0,none⟩),.agg #[.bool o.del,.string o.uid,.string o.au,.int .i64 o.ck,.int .i64 o.cv],.int .i64 token] w λe w'=>e = .returned (.bool true) /\
   bX w' B g { c with ah:=M.gQ c.ah ⟨o.uid,token,o.au⟩,bytes:=c.bytes - (e0'.text.size:Int)+(o.au.size:Int),log:=Rg.gE c.aj c.log (token,o.uid),aG:=hzn c,az:=token }/\FrX B Ts [] w w':=by
 have f0:Fr [] w (w.alloc (.cells #[.bool o.del,.string o.uid,.string o.au,.int .i64 o.ck,.int .i64 o.cv] 43)):=rZ.alloc _
 have b0:=Holds.new w 43 #[.bool o.del,.string o.uid,.string o.au,.int .i64 o.ck,.int .i64 o.cv]
 have HG:=hid (jL _ B g c o.uid (h.fr0 f0))
 have hK:Oc.dw (bK c.ah) o.uid=true:=by rw[iI,hyes];rfl
 have HK:=hid hK
 have HDD:=hid (λhs=>CN (l:=c.ah) hs hyes token o.au)
 rw[hyes,hd] at HG
 rw[hd] at f0 b0 ⊢
 have H0:=hid h
 have e0:(vOf (some e0'):Int)=e0'.version:=rfl
 have e1:(tOf (some e0'))=e0'.text:=rfl
 have e2:(some e0').isSome=true:=rfl
 rw[e0,e1,e2] at HG
 obtain⟨tx,htx⟩:∃ tx,e0'.text=tx:=⟨_,rfl⟩
 obtain⟨vx,hvx⟩:∃ vx,e0'.version=vx:=⟨_,rfl⟩
 rw[htx] at HG hb0 ⊢
 rw[hvx] at HG
 clear hyes hd e0 e1 e2 hK htx hvx
 have hnt:¬ token<c.az:=by omega
 go_enter func118,ntmps118
 go_wp2_with fail
 refine uu HG λw1 f1=>?_
 have HL:=hid (λx=>ig (w1.drewN x) B g c (h.fr0 ((f0.trans f1).drewN x)))
 obtain⟨m,r,hm,hr,p0,mp0,rp0⟩:=h.fr0 (f0.trans f1)
 have b1:=b0.fr f1 (by simp)
 have d0:=b1.cell 0
 have d1:=b1.cell 1
 have d2:=b1.cell 2
 have c0:=p0.cell 0
 have c1:=p0.cell 1
 have c2:=p0.cell 2
 have c3:=p0.cell 3
 have c4:=p0.cell 4
 simp at d0 d1 d2 c0 c1 c2 c3 c4
 clear h
 have hgl:=p0.lt
 have hbl:=b1.lt
 have hnb:decide (token<c.az)=false:=decide_eq_false (by omega)
 go_wp2_with fail
 go_quiet ((go_at_call 168;exact bB (HL _)))
 obtain⟨W,hW⟩:∃ W,W=w1.drewN nq:=⟨_,rfl⟩
 have fW:Fr [] w W:=by rw[hW];exact(f0.trans f1).drewN _
 have bW:Holds W w.heap.size 43 #[.bool false,.string o.uid,.string o.au,.int .i64 o.ck,.int .i64 o.cv]:=by rw[hW];exact b1.drewN _
 have pW:Holds W g 257 #[.pointer (some ⟨m,0,none⟩),.pointer (some ⟨r,0,none⟩),.int .i64 c.aD,.int .i64 c.bytes,.int .i64 c.az,.int .i64 c.aG]:=by rw[hW];exact p0.drewN _
 have mW:Oc.aQ W B m (bK c.ah):=by rw[hW];exact mp0.fr0 (rZ.drewN _)
 have rW:Rg.bC W B r c.aj c.log:=by rw[hW];exact rp0.fr0 (rZ.drewN _)
 rw[<-hW]
 clear hW mp0 rp0 p0 b1 b0 d0 d1 d2 c0 c1 c2 c3 c4 HL hgl hbl hnb
 have HM:=hid mW
 have HR:=hid rW
 have d0:=bW.cell 0
 have c3:=pW.cell 3
 have z3:=pW.frozen 3
 simp at d0 c3 z3
 have hgl:=pW.lt
 have hbl:=bW.lt
 have hgb:g≠w.heap.size:=tne pW.ty bW.ty (by decide)
 have hbg:w.heap.size≠g:=hgb.symm
 have hbw:IntKind.i64.wrap (c.bytes - (tx.size:Int))=c.bytes - (tx.size:Int):=IntWalk.i64_in _ (by omega)
 clear mW rW
 go_wp2_with fail
 clear hbw
 obtain⟨W1,hW1⟩:∃ W1,W1=W.setCell ⟨g,3,none⟩ (.int .i64 (c.bytes - (tx.size:Int))):=⟨_,rfl⟩
 have x1:FrX B Ts [] W W1:=by
  rw[hW1]
  exact FrX.aB ((Fr.refl [g] W).setCell (by simp) _) (by simpa using hg) (λx hx=>⟨257,by simp,by simp at hx;subst hx;exact pW.ty⟩)
 have x1':FrX B [257] [] W W1:=by
  rw[hW1]
  exact FrX.aB ((Fr.refl [g] W).setCell (by simp) _) (by simpa using hg) (λx hx=>⟨257,by simp,by simp at hx;subst hx;exact pW.ty⟩)
 have p1:Holds W1 g 257 #[.pointer (some ⟨m,0,none⟩),.pointer (some ⟨r,0,none⟩),.int .i64 c.aD,.int .i64 (c.bytes - (tx.size:Int)),.int .i64 c.az,.int .i64 c.aG]:=by rw[hW1];simpa using pW.set 3 (.int .i64 (c.bytes - (tx.size:Int)))
 have m1:Oc.aQ W1.drew B m (bK c.ah):=(HM.frx x1' (by decide) (by decide) (by simp)).fr0 rZ.drew
 have r1:Rg.bC W1 B r c.aj c.log:=HR.frx x1' (by decide) (by decide)
 have b1:Holds W1 w.heap.size 43 #[.bool false,.string o.uid,.string o.au,.int .i64 o.ck,.int .i64 o.cv]:=bW.frx x1' (by decide) (by simp)
 rw[<-hW1]
 have hs1:w.heap.size<=W1.heap.size:=Nat.le_trans fW.size x1.size
 have HP:=hid (Oc.xA W1.drew B m (bK c.ah) o.uid token o.au m1 HK (by simp;omega) hm)
 rw[HDD m1.srt] at HP
 have hgm:g≠m:=by
  obtain⟨v,hv,_⟩:=HM.at_
  exact tne pW.ty hv.ty (by decide)
 have HMT:=hid (show cB W1.drew m=some 314 from by
  obtain⟨v,hv,_⟩:=m1.at_
  exact hv.ty)
 clear hW1 d0 c3 z3 x1' pW bW m1
 have d1:=b1.cell 1
 have d2:=b1.cell 2
 have c0:=p1.cell 0
 simp at d1 d2 c0
 have hgl1:=p1.lt
 have hbl1:=b1.lt
 clear hgl hbl
 go_cut [] from 12 (λw2=>Oc.aQ w2 B m (bK (M.gQ c.ah ⟨o.uid,token,o.au⟩))/\FrX B [312] [m] W1.drew w2)
 case first =>
  go_region_law (go_simp;go_at_call 170;refine HP.mono ?_;rintro e w2 ⟨rfl,q1,q2⟩)
  all_goals
   go_wp2_with fail
   go_meet
   exact⟨q1,q2⟩
 case rest =>
  obtain⟨q1,q2⟩:=hcut
  obtain⟨w2,hw2⟩:∃ w2,w2=wc:=⟨_,rfl⟩
  rw[<-hw2] at q1 q2 ⊢
  clear hw2
  have q2':FrX B Ts [] W1 w2:=((FrX.aA ((Fr.refl [] W1).drew)).trans ((q2.mono (Ts:=Ts) (T:=[m]) (by simp) (λ_ h=>h)).jY (λx hx=>.inr (.inr ⟨314,by simp,by simp at hx;subst hx;exact HMT⟩))))
  have p2:Holds w2 g 257 #[.pointer (some ⟨m,0,none⟩),.pointer (some ⟨r,0,none⟩),.int .i64 c.aD,.int .i64 (c.bytes - (tx.size:Int)),.int .i64 c.az,.int .i64 c.aG]:=p1.drew.frx q2 (by decide) (by simpa using hgm)
  have b2:Holds w2 w.heap.size 43 #[.bool false,.string o.uid,.string o.au,.int .i64 o.ck,.int .i64 o.cv]:=b1.drew.frx q2 (by decide) (by
   have:=tne b1.drew.ty HMT (by decide)
   simpa using this)
  have r2:Rg.bC w2 B r c.aj c.log:=(r1.fr0 ((Fr.refl [] W1).drew)).frx (Us:=[312,314]) ((q2.mono (T:=[m]) (by simp) (λ_ h=>h)).jY (λx hx=>.inr (.inr ⟨314,by simp,by simp at hx;subst hx;exact HMT⟩))) (by decide) (by decide)
  clear d1 d2 c0
  have c3:=p2.cell 3
  have z3:=p2.frozen 3
  have d2:=b2.cell 2
  simp at c3 z3 d2
  have hgl2:=p2.lt
  have hbl2:=b2.lt
  have hbw:IntKind.i64.wrap (c.bytes - (tx.size:Int)+(o.au.size:Int))=c.bytes - (tx.size:Int)+(o.au.size:Int):=IntWalk.i64_in _ (by omega)
  clear hgl1 hbl1
  go_wp2_with fail
  go_region
  obtain⟨W3,hW3⟩:∃ W3,W3=(w2.setCell ⟨g,3,none⟩ (.int .i64 (c.bytes - (tx.size:Int)+(o.au.size:Int)))).drew:=⟨_,rfl⟩
  have x3:FrX B [257] [] w2 W3:=by
   rw[hW3]
   exact(FrX.aB ((Fr.refl [g] w2).setCell (by simp) _) (by simpa using hg) (λx hx=>⟨257,by simp,by simp at hx;subst hx;exact p2.ty⟩)).trans (FrX.aA rZ.drew)
  have p3:Holds W3 g 257 #[.pointer (some ⟨m,0,none⟩),.pointer (some ⟨r,0,none⟩),.int .i64 c.aD,.int .i64 (c.bytes - (tx.size:Int)+(o.au.size:Int)),.int .i64 c.az,.int .i64 c.aG]:=by rw[hW3];simpa using (p2.set 3 (.int .i64 (c.bytes - (tx.size:Int)+(o.au.size:Int)))).drew
  have m3:Oc.aQ W3 B m (bK (M.gQ c.ah ⟨o.uid,token,o.au⟩)):=q1.frx x3 (by decide) (by decide) (by simp)
  have r3:Rg.bC W3 B r c.aj c.log:=r2.frx x3 (by decide) (by decide)
  have b3:Holds W3 w.heap.size 43 #[.bool false,.string o.uid,.string o.au,.int .i64 o.ck,.int .i64 o.cv]:=b2.frx x3 (by decide) (by simp)
  have q3:FrX B Ts [] W1 W3:=q2'.trans (x3.mono (by simp) (λ_ h=>h))
  rw[<-hW3]
  clear hW3 p2 b2 r2 c3 z3 d2 hgl2 hbl2 x3 q2' q1 hbw
  have HM3:=hid m3
  have d1:=b3.cell 1
  have c1:=p3.cell 1
  simp at d1 c1
  have hgl:=p3.lt
  have hbl:=b3.lt
  clear m3
  have hs3:=q3.size
  have HQ:=hid (λ(U:World) (f:Fr [] W3 U)=>(Rg.nE U B r c.aj token o.uid c.log (r3.fr0 f) (by have:=f.size;omega) hr hlm1 hlog hlog2).mono (λe w' ⟨he,a,b,S,c1,c2,c3⟩=>(⟨he,a,(FrX.aA f).trans b,S,f,c1,c2 W3 r3 f,c3⟩:e=Ending.returned (.tuple #[.agg #[.int .i64 (Rg.ox c.aj c.log),.string (Rg.rT c.aj c.log)],.bool (!decide ((c.log.length:Int)<c.aj))])/\Rg.bC w' B r c.aj (Rg.gE c.aj c.log (token,o.uid))/\FrX B Rg.Ts [] W3 w'/\∃ S,Fr [] W3 U/\Fr S U w'/\(∀ x∈S,x<W3.heap.size)/\∀ v k,w'.cell? ⟨r,1,none⟩=some v->ay v=some k->k∈S∨U.heap.size<=k)))
  have HRL:=hid (show r<W3.heap.size from by
   obtain⟨_,_,k,_⟩:=r3
   exact k.lt)
  clear r3
  obtain⟨ot,hot⟩:∃ ot,Rg.ox c.aj c.log=ot:=⟨_,rfl⟩
  obtain⟨ou,hou⟩:∃ ou,Rg.rT c.aj c.log=ou:=⟨_,rfl⟩
  obtain⟨gn,hgn⟩:∃ gn,(!decide ((c.log.length:Int)<c.aj))=gn:=⟨_,rfl⟩
  obtain⟨nl,hnl⟩:∃ nl,Rg.gE c.aj c.log (token,o.uid)=nl:=⟨_,rfl⟩
  rw[hot,hou,hgn,hnl] at HQ
  have HZ:=hid (And.intro hot (And.intro hgn hnl))
  clear hot hou hgn hnl
  go_wp2_with fail
  go_cut [10,11] from 12 (λs10 s11 w4=>(∃ b,s10 = .pointer (some ⟨b,0,none⟩)/\W3.heap.size<=b/\Holds w4 b 262 #[.int .i64 ot,.string ou])/\s11 = .bool gn/\Rg.bC w4 B r c.aj nl/\FrX B Rg.Ts [] W3 w4)
  case first =>
   go_region_law (go_simp;go_at_call 171;refine(HQ _ (by first|exact rZ.drew|exact(rZ.alloc _).drew)).mono ?_;rintro e w4 ⟨rfl,q4,x4,S4,fU,f4,s4,o4⟩;have O4:=hid o4;clear o4;try (have bx4:=(Holds.new W3 262 #[.int .i64 0,.string ⟨#[]⟩]).drew.fr f4 (λhx=>Nat.lt_irrefl _ (s4 _ hx));have bz0:=bx4.frozen 0;have bz1:=bx4.frozen 1;have by0:=bx4.cell 0;have by1:=bx4.cell 1;have bl4:=bx4.lt;simp at by0 by1))
   all_goals
    go_wp2_with fail
    go_meet
    first
    | exact⟨⟨_,rfl,x4.size,Holds.new _ _ _⟩,rfl,q4.fr0 (rZ.alloc _),x4.alloc _⟩
    | (have hrb:r≠W3.heap.size:=(by have:=HRL.out;omega);have hob:∀ v k,w4.cell? ⟨r,1,none⟩=some v->ay v=some k->k≠W3.heap.size:=(λv k h1 h2=>by rcases O4 v k h1 h2 with h|h;(have:=s4 k h;omega);(simp at h;omega));exact⟨⟨_,rfl,Nat.le_refl _,by simpa using (bx4.set 0 (.int .i64 ot)).set 1 (.string ou)⟩,rfl,(q4.far hrb hob _).far hrb (λv k h1 h2=>hob v k (by rw[<-h1];exact(World.cell?_of_block (Below.heap_setCell w4 _ _ r (by simp;exact hrb))).symm) h2) _,(x4.aw (Nat.le_refl _) _).aw (Nat.le_refl _) _⟩)
  case rest =>
   obtain⟨⟨b,rfl,hbW,hb4⟩,rfl,q4,x4⟩:=hcut
   clear HQ HP HM HR H0 HG
   have x4g:FrX B [318,262] [] W3 wc:=x4
   have p4:=p3.frx x4g (by decide) (by simp)
   clear d1 c1
   have x6:∀ (V:World) (i:Nat) (v:Value),cB V g=some 257->FrX B [257] [] V (V.setCell ⟨g,i,none⟩ v):=λV i v hV=>FrX.aB ((Fr.refl [g] V).setCell (by simp) _) (by simpa using hg) (λx hx=>⟨257,by simp,by simp at hx;subst hx;exact hV⟩)
   have HX6:=hid x6
   have HP4:=hid (And.intro p4 (And.intro q4 x4))
   have z4:=p4.frozen 4
   have z5:=p4.frozen 5
   have c4:=p4.cell 4
   have c5:=p4.cell 5
   have e0:=hb4.cell 0
   simp at c4 c5 e0
   have hgl4:=p4.lt
   have hbl4:=hb4.lt
   clear x6 p4 q4 x4 hb4
   cases gn
   ·go_wp2_with fail
    go_ret
    have hh:hzn c=c.aG:=by
     have:=HZ.2.1
     simp at this
     unfold hzn
     rw[if_pos this]
    have x5:=HX6.out wc 4 (.int .i64 token) HP4.1.ty
    refine⟨rfl,⟨m,r,hm,hr,by rw[hh];simpa using HP4.1.set 4 (.int .i64 token),?_,by rw[HZ.2.2];exact HP4.2.1.frx x5 (by decide) (by decide)⟩,?_⟩
    ·exact(HM3.frx x4g (by decide) (by decide) (by simp)).frx x5 (by decide) (by decide) (by simp)
    exact((((FrX.aA fW).trans x1).trans q3).trans (HP4.2.2.mono (by simp) (λ_ h=>h))).trans (x5.mono (by simp) (λ_ h=>h))
   go_wp2_with fail
   go_region
   go_wp2_with fail
   go_ret
   have hh:hzn c=max c.aG ot:=by
    have:=HZ.2.1
    simp at this
    unfold hzn
    rw[if_neg (by omega),HZ.1]
   have x51:=HX6.out wc 5 (.int .i64 (max c.aG ot)) HP4.1.ty
   have p51:=HP4.1.set 5 (.int .i64 (max c.aG ot))
   have x5:=(x51.trans (HX6 _ 4 (.int .i64 token) p51.ty)).trans (FrX.aA rZ.drew)
   refine⟨rfl,⟨m,r,hm,hr,by rw[hh];simpa using (p51.set 4 (.int .i64 token)).drew,?_,by rw[HZ.2.2];exact HP4.2.1.frx x5 (by decide) (by decide)⟩,?_⟩
   ·exact(HM3.frx x4g (by decide) (by decide) (by simp)).frx x5 (by decide) (by decide) (by simp)
   exact((((FrX.aA fW).trans x1).trans q3).trans (HP4.2.2.mono (by simp) (λ_ h=>h))).trans (x5.mono (by simp) (λ_ h=>h))
open Go.RowKit
theorem BJ {l:List M.Cd}{u:ByteArray}{c:M.Cd}(hs:Srt (Oc.keys (bK l)))(h:M.bR l u=some c):Oc.kY (bK l) (idx (Oc.keys (bK l)) u)=bK (M.oB l u):=by
 obtain⟨hu,hx⟩:=qj hs h
 obtain⟨i,hi⟩:∃ i,idx (Oc.keys (bK l)) u=i:=⟨_,rfl⟩
 rw[hi] at hx ⊢
 have hil:i<l.length:=by
  have:=(List.getElem?_eq_some_iff.1 hx).1
  simpa[bK] using this
 have hli:l[i]=c∨l[i].uid=u:=by
  right
  have:(bK l)[i]? = some (ent l[i]):=by simp[bK,List.getElem?_eq_getElem hil]
  rw[hx] at this
  simp only[Option.some.injEq,ent,Prod.mk.injEq] at this
  rw[<-this.1,hu]
 have hui:l[i].uid=u:=by
  rcases hli with h|h
  ·rw[h,hu]
  exact h
 have hkey:∀ (j:Nat) (y:M.Cd),l[j]? = some y->(Oc.keys (bK l))[j]? = some y.uid:=λj y hy=>by
  simp[Oc.keys,bK,ent,hy]
 have hne:∀ (j:Nat) (y:M.Cd),l[j]? = some y->j≠i->y.uid≠u:=λj y hy hj e=>by
  have k1:=hkey j y hy
  have k2:=hkey i l[i] (List.getElem?_eq_getElem hil)
  rw[hui] at k2
  rw[e] at k1
  rcases Nat.lt_or_gt_of_ne hj with h'|h'
  ·exact bG _ (iq hs k1 k2 h')
  exact bG _ (iq hs k2 k1 h')
 have hsplit:l=l.take i++l[i]::l.drop (i+1):=by
  rw[<-List.drop_eq_getElem_cons hil,List.take_append_drop]
 have e1:M.oB l u=l.take i++l.drop (i+1):=by
  unfold M.oB
  conv=>lhs;rw[hsplit]
  rw[List.filter_append,List.filter_cons]
  have a1:(l.take i).filter (λc=>!(c.uid==u))=l.take i:=by
   rw[List.filter_eq_self]
   intro y hy
   obtain⟨j,hj,rfl⟩:=List.mem_iff_getElem.1 hy
   simp only[List.length_take] at hj
   have:=hne j l[j] (List.getElem?_eq_getElem (by omega)) (by omega)
   simp[fY,this]
  have a2:(l.drop (i+1)).filter (λc=>!(c.uid==u))=l.drop (i+1):=by
   rw[List.filter_eq_self]
   intro y hy
   obtain⟨j,hj,rfl⟩:=List.mem_iff_getElem.1 hy
   simp only[List.length_drop] at hj
   have:=hne (i+1+j) l[i+1+j] (List.getElem?_eq_getElem (by omega)) (by omega)
   simp[fY,this]
  rw[a1,a2]
  simp[fY,hui]
 rw[e1]
 simp[Oc.kY,bK,List.map_take,List.map_drop]
theorem zm (w:World)(B g:Nat)(c:M.Col)(o:M.Op)(token:Int)(e0':M.Cd)(h:bX w B g c)(hB:B<=w.heap.size)(hg:B<=g)(hd:o.del=true)(hyes:M.bR c.ah o.uid=some e0')
  (ht:c.az<=token) (hlm1:1<=c.aj) (hlog:(c.log.length:Int)<=c.aj) (hlog2:c.log.length<=90) (hb0:(e0'.text.size:Int)<=c.bytes) (hb1:c.bytes<=1000000000) :
  Calls prog 118 #[.pointer (some ⟨g,0,none⟩),.agg #[.bool o.del,.string o.uid,.string o.au,.int .i64 o.ck,.int .i64 o.cv],.int .i64 token] w λe w'=>e = .returned (.bool true) /\
   bX w' B g { c with ah:=M.oB c.ah o.uid,bytes:=c.bytes - (e0'.text.size:Int),log:=Rg.gE c.aj c.log (token,o.uid),aG:=hzn c,az:=token }/\FrX B Ts [] w w':=by
 have f0:Fr [] w (w.alloc (.cells #[.bool o.del,.string o.uid,.string o.au,.int .i64 o.ck,.int .i64 o.cv] 43)):=rZ.alloc _
 have b0:=Holds.new w 43 #[.bool o.del,.string o.uid,.string o.au,.int .i64 o.ck,.int .i64 o.cv]
 have HG:=hid (jL _ B g c o.uid (h.fr0 f0))
 have hK:Oc.dw (bK c.ah) o.uid=true:=by rw[iI,hyes];rfl
 have HK:=hid hK
 have HDD:=hid (λhs=>BJ (l:=c.ah) hs hyes)
 rw[hyes,hd] at HG
 rw[hd] at f0 b0 ⊢
 have H0:=hid h
 have e0:(vOf (some e0'):Int)=e0'.version:=rfl
 have e1:(tOf (some e0'))=e0'.text:=rfl
 have e2:(some e0').isSome=true:=rfl
 rw[e0,e1,e2] at HG
 obtain⟨tx,htx⟩:∃ tx,e0'.text=tx:=⟨_,rfl⟩
 obtain⟨vx,hvx⟩:∃ vx,e0'.version=vx:=⟨_,rfl⟩
 rw[htx] at HG hb0 ⊢
 rw[hvx] at HG
 clear hyes hd e0 e1 e2 hK htx hvx
 have hnt:¬ token<c.az:=by omega
 go_enter func118,ntmps118
 go_wp2_with fail
 refine uu HG λw1 f1=>?_
 have HL:=hid (λx=>ig (w1.drewN x) B g c (h.fr0 ((f0.trans f1).drewN x)))
 obtain⟨m,r,hm,hr,p0,mp0,rp0⟩:=h.fr0 (f0.trans f1)
 have b1:=b0.fr f1 (by simp)
 have d0:=b1.cell 0
 have d1:=b1.cell 1
 have d2:=b1.cell 2
 have c0:=p0.cell 0
 have c1:=p0.cell 1
 have c2:=p0.cell 2
 have c3:=p0.cell 3
 have c4:=p0.cell 4
 simp at d0 d1 d2 c0 c1 c2 c3 c4
 clear h
 have hgl:=p0.lt
 have hbl:=b1.lt
 go_wp2_with fail
 have hnb:decide (token<c.az)=false:=decide_eq_false (by omega)
 go_quiet ((go_at_call 168;exact bB (HL _)))
 obtain⟨W,hW⟩:∃ W,W=w1.drewN nq:=⟨_,rfl⟩
 have fW:Fr [] w W:=by rw[hW];exact(f0.trans f1).drewN _
 have bW:Holds W w.heap.size 43 #[.bool true,.string o.uid,.string o.au,.int .i64 o.ck,.int .i64 o.cv]:=by rw[hW];exact b1.drewN _
 have pW:Holds W g 257 #[.pointer (some ⟨m,0,none⟩),.pointer (some ⟨r,0,none⟩),.int .i64 c.aD,.int .i64 c.bytes,.int .i64 c.az,.int .i64 c.aG]:=by rw[hW];exact p0.drewN _
 have mW:Oc.aQ W B m (bK c.ah):=by rw[hW];exact mp0.fr0 (rZ.drewN _)
 have rW:Rg.bC W B r c.aj c.log:=by rw[hW];exact rp0.fr0 (rZ.drewN _)
 rw[<-hW]
 clear hW mp0 rp0 p0 b1 b0 d0 d1 d2 c0 c1 c2 c3 c4 HL hgl hbl hnb
 have HM:=hid mW
 have HR:=hid rW
 have d0:=bW.cell 0
 have c3:=pW.cell 3
 have z3:=pW.frozen 3
 simp at d0 c3 z3
 have hgl:=pW.lt
 have hbl:=bW.lt
 have hgb:g≠w.heap.size:=tne pW.ty bW.ty (by decide)
 have hbg:w.heap.size≠g:=hgb.symm
 have hbw:IntKind.i64.wrap (c.bytes - (tx.size:Int))=c.bytes - (tx.size:Int):=IntWalk.i64_in _ (by omega)
 clear mW rW
 go_wp2_with fail
 obtain⟨W1,hW1⟩:∃ W1,W1=W.setCell ⟨g,3,none⟩ (.int .i64 (c.bytes - (tx.size:Int))):=⟨_,rfl⟩
 have x1:FrX B Ts [] W W1:=by
  rw[hW1]
  exact FrX.aB ((Fr.refl [g] W).setCell (by simp) _) (by simpa using hg) (λx hx=>⟨257,by simp,by simp at hx;subst hx;exact pW.ty⟩)
 have x1':FrX B [257] [] W W1:=by
  rw[hW1]
  exact FrX.aB ((Fr.refl [g] W).setCell (by simp) _) (by simpa using hg) (λx hx=>⟨257,by simp,by simp at hx;subst hx;exact pW.ty⟩)
 have p1:Holds W1 g 257 #[.pointer (some ⟨m,0,none⟩),.pointer (some ⟨r,0,none⟩),.int .i64 c.aD,.int .i64 (c.bytes - (tx.size:Int)),.int .i64 c.az,.int .i64 c.aG]:=by rw[hW1];simpa using pW.set 3 (.int .i64 (c.bytes - (tx.size:Int)))
 have m1:Oc.aQ W1.drew B m (bK c.ah):=(HM.frx x1' (by decide) (by decide) (by simp)).fr0 rZ.drew
 have r1:Rg.bC W1 B r c.aj c.log:=HR.frx x1' (by decide) (by decide)
 have b1:Holds W1 w.heap.size 43 #[.bool true,.string o.uid,.string o.au,.int .i64 o.ck,.int .i64 o.cv]:=bW.frx x1' (by decide) (by simp)
 rw[<-hW1]
 have hs1:w.heap.size<=W1.heap.size:=Nat.le_trans fW.size x1.size
 have HP:=hid (Oc.DS W1.drew B m (bK c.ah) o.uid m1 HK (by simp;omega) hm)
 rw[HDD m1.srt] at HP
 have hgm:g≠m:=by
  obtain⟨v,hv,_⟩:=HM.at_
  exact tne pW.ty hv.ty (by decide)
 have HMT:=hid (show cB W1.drew m=some 314 from by
  obtain⟨v,hv,_⟩:=m1.at_
  exact hv.ty)
 clear hW1 d0 c3 z3 x1' pW bW m1
 have d1:=b1.cell 1
 have c0:=p1.cell 0
 simp at d1 c0
 have hgl1:=p1.lt
 have hbl1:=b1.lt
 clear hgl hbl
 go_cut [] from 12 (λw2=>Oc.aQ w2 B m (bK (M.oB c.ah o.uid))/\FrX B [312] [m] W1.drew w2)
 case first =>
  go_region_law (go_simp;go_at_call 169;refine HP.mono ?_;rintro e w2 ⟨rfl,q1,q2⟩)
  all_goals
   go_wp2_with fail
   go_meet
   exact⟨q1,q2⟩
 case rest =>
  obtain⟨q1,q2⟩:=hcut
  obtain⟨w2,hw2⟩:∃ w2,w2=wc:=⟨_,rfl⟩
  rw[<-hw2] at q1 q2 ⊢
  clear hw2
  have q2':FrX B Ts [] W1 w2:=((FrX.aA ((Fr.refl [] W1).drew)).trans ((q2.mono (Ts:=Ts) (T:=[m]) (by simp) (λ_ h=>h)).jY (λx hx=>.inr (.inr ⟨314,by simp,by simp at hx;subst hx;exact HMT⟩))))
  have p3:Holds w2 g 257 #[.pointer (some ⟨m,0,none⟩),.pointer (some ⟨r,0,none⟩),.int .i64 c.aD,.int .i64 (c.bytes - (tx.size:Int)),.int .i64 c.az,.int .i64 c.aG]:=p1.drew.frx q2 (by decide) (by simpa using hgm)
  have b3:Holds w2 w.heap.size 43 #[.bool true,.string o.uid,.string o.au,.int .i64 o.ck,.int .i64 o.cv]:=b1.drew.frx q2 (by decide) (by
   have:=tne b1.drew.ty HMT (by decide)
   simpa using this)
  have r3:Rg.bC w2 B r c.aj c.log:=(r1.fr0 ((Fr.refl [] W1).drew)).frx (Us:=[312,314]) ((q2.mono (T:=[m]) (by simp) (λ_ h=>h)).jY (λx hx=>.inr (.inr ⟨314,by simp,by simp at hx;subst hx;exact HMT⟩))) (by decide) (by decide)
  clear d1 c0 hgl1 hbl1
  have HM3:=hid q1
  have d1:=b3.cell 1
  have c1:=p3.cell 1
  simp at d1 c1
  have hgl:=p3.lt
  have hbl:=b3.lt
  clear q1
  have hs3:=q2'.size
  have HQ:=hid (λ(U:World) (f:Fr [] w2 U)=>(Rg.nE U B r c.aj token o.uid c.log (r3.fr0 f) (by have:=f.size;omega) hr hlm1 hlog hlog2).mono (λe w' ⟨he,a,b,S,c1,c2,c3⟩=>(⟨he,a,(FrX.aA f).trans b,S,f,c1,c2 w2 r3 f,c3⟩:e=Ending.returned (.tuple #[.agg #[.int .i64 (Rg.ox c.aj c.log),.string (Rg.rT c.aj c.log)],.bool (!decide ((c.log.length:Int)<c.aj))])/\Rg.bC w' B r c.aj (Rg.gE c.aj c.log (token,o.uid))/\FrX B Rg.Ts [] w2 w'/\∃ S,Fr [] w2 U/\Fr S U w'/\(∀ x∈S,x<w2.heap.size)/\∀ v k,w'.cell? ⟨r,1,none⟩=some v->ay v=some k->k∈S∨U.heap.size<=k)))
  have HRL:=hid (show r<w2.heap.size from by
   obtain⟨_,_,k,_⟩:=r3
   exact k.lt)
  clear r3
  obtain⟨ot,hot⟩:∃ ot,Rg.ox c.aj c.log=ot:=⟨_,rfl⟩
  obtain⟨ou,hou⟩:∃ ou,Rg.rT c.aj c.log=ou:=⟨_,rfl⟩
  obtain⟨gn,hgn⟩:∃ gn,(!decide ((c.log.length:Int)<c.aj))=gn:=⟨_,rfl⟩
  obtain⟨nl,hnl⟩:∃ nl,Rg.gE c.aj c.log (token,o.uid)=nl:=⟨_,rfl⟩
  rw[hot,hou,hgn,hnl] at HQ
  have HZ:=hid (And.intro hot (And.intro hgn hnl))
  clear hot hou hgn hnl
  go_wp2_with fail
  go_cut [10,11] from 12 (λs10 s11 w4=>(∃ b,s10 = .pointer (some ⟨b,0,none⟩)/\w2.heap.size<=b/\Holds w4 b 262 #[.int .i64 ot,.string ou])/\s11 = .bool gn/\Rg.bC w4 B r c.aj nl/\FrX B Rg.Ts [] w2 w4)
  case first =>
   go_region_law (go_simp;go_at_call 171;refine(HQ _ (by first|exact rZ.drew|exact(rZ.alloc _).drew)).mono ?_;rintro e w4 ⟨rfl,q4,x4,S4,fU,f4,s4,o4⟩;have O4:=hid o4;clear o4;try (have bx4:=(Holds.new w2 262 #[.int .i64 0,.string ⟨#[]⟩]).drew.fr f4 (λhx=>Nat.lt_irrefl _ (s4 _ hx));have bz0:=bx4.frozen 0;have bz1:=bx4.frozen 1;have by0:=bx4.cell 0;have by1:=bx4.cell 1;have bl4:=bx4.lt;simp at by0 by1))
   all_goals
    go_wp2_with fail
    go_meet
    first
    | exact⟨⟨_,rfl,x4.size,Holds.new _ _ _⟩,rfl,q4.fr0 (rZ.alloc _),x4.alloc _⟩
    | (have hrb:r≠w2.heap.size:=(by have:=HRL.out;omega);have hob:∀ v k,w4.cell? ⟨r,1,none⟩=some v->ay v=some k->k≠w2.heap.size:=(λv k h1 h2=>by rcases O4 v k h1 h2 with h|h;(have:=s4 k h;omega);(simp at h;omega));exact⟨⟨_,rfl,Nat.le_refl _,by simpa using (bx4.set 0 (.int .i64 ot)).set 1 (.string ou)⟩,rfl,(q4.far hrb hob _).far hrb (λv k h1 h2=>hob v k (by rw[<-h1];exact(World.cell?_of_block (Below.heap_setCell w4 _ _ r (by simp;exact hrb))).symm) h2) _,(x4.aw (Nat.le_refl _) _).aw (Nat.le_refl _) _⟩)
  case rest =>
   obtain⟨⟨b,rfl,hbW,hb4⟩,rfl,q4,x4⟩:=hcut
   clear HQ HP HM HR H0 HG
   have x4g:FrX B [318,262] [] w2 wc:=x4
   have p4:=p3.frx x4g (by decide) (by simp)
   clear d1 c1
   have x6:∀ (V:World) (i:Nat) (v:Value),cB V g=some 257->FrX B [257] [] V (V.setCell ⟨g,i,none⟩ v):=λV i v hV=>FrX.aB ((Fr.refl [g] V).setCell (by simp) _) (by simpa using hg) (λx hx=>⟨257,by simp,by simp at hx;subst hx;exact hV⟩)
   have HX6:=hid x6
   have HP4:=hid (And.intro p4 (And.intro q4 x4))
   have z4:=p4.frozen 4
   have z5:=p4.frozen 5
   have c4:=p4.cell 4
   have c5:=p4.cell 5
   have e0:=hb4.cell 0
   simp at c4 c5 e0
   have hgl4:=p4.lt
   have hbl4:=hb4.lt
   clear x6 p4 q4 x4 hb4
   cases gn
   ·go_wp2_with fail
    go_ret
    have hh:hzn c=c.aG:=by
     have:=HZ.2.1
     simp at this
     unfold hzn
     rw[if_pos this]
    have x5:=HX6.out wc 4 (.int .i64 token) HP4.1.ty
    refine⟨rfl,⟨m,r,hm,hr,by rw[hh];simpa using HP4.1.set 4 (.int .i64 token),?_,by rw[HZ.2.2];exact HP4.2.1.frx x5 (by decide) (by decide)⟩,?_⟩
    ·exact(HM3.frx x4g (by decide) (by decide) (by simp)).frx x5 (by decide) (by decide) (by simp)
    exact((((FrX.aA fW).trans x1).trans q2').trans (HP4.2.2.mono (by simp) (λ_ h=>h))).trans (x5.mono (by simp) (λ_ h=>h))
   go_wp2_with fail
   go_region
   go_wp2_with fail
   go_ret
   have hh:hzn c=max c.aG ot:=by
    have:=HZ.2.1
    simp at this
    unfold hzn
    rw[if_neg (by omega),HZ.1]
   have x51:=HX6.out wc 5 (.int .i64 (max c.aG ot)) HP4.1.ty
   have p51:=HP4.1.set 5 (.int .i64 (max c.aG ot))
   have x5:=(x51.trans (HX6 _ 4 (.int .i64 token) p51.ty)).trans (FrX.aA rZ.drew)
   refine⟨rfl,⟨m,r,hm,hr,by rw[hh];simpa using (p51.set 4 (.int .i64 token)).drew,?_,by rw[HZ.2.2];exact HP4.2.1.frx x5 (by decide) (by decide)⟩,?_⟩
   ·exact(HM3.frx x4g (by decide) (by decide) (by simp)).frx x5 (by decide) (by decide) (by simp)
   exact((((FrX.aA fW).trans x1).trans q2').trans (HP4.2.2.mono (by simp) (λ_ h=>h))).trans (x5.mono (by simp) (λ_ h=>h))
theorem xG (c:M.Col)(t:Int)(u:ByteArray):M.eE c t u=(Rg.gE c.aj c.log (t,u),hzn c):=by
 unfold M.eE Rg.gE hzn Rg.ox
 split
 ·rfl
 rfl
theorem px (w:World)(B g:Nat)(c:M.Col)(o:M.Op)(token:Int)(h:bX w B g c)(hB:B<=w.heap.size)(hg:B<=g)(hm:M.cM c o token=true) :
  Calls prog 118 #[.pointer (some ⟨g,0,none⟩),.agg #[.bool o.del,.string o.uid,.string o.au,.int .i64 o.ck,.int .i64 o.cv],.int .i64 token] w λe w'=>(∃ b,e = .returned (.bool b))/\bX w' B g (c.apply o token)/\FrX B Ts [] w w':=by
 unfold M.cM at hm
 simp only[Bool.and_eq_true,decide_eq_true_eq] at hm
 obtain⟨⟨h1,h2,h3,h4,h5,h6,h7,h8⟩,hm⟩:=hm
 have hpe:=xG c token o.uid
 cases hd:o.del with
 | true =>
  rw[hd] at hm
  simp only[if_true] at hm
  cases hc:M.bR c.ah o.uid with
  | none=>rw[hc] at hm;cases hm
  | some e =>
   rw[hc] at hm
   have hm:=of_decide_eq_true hm
   have he:c.apply o token={ c with ah:=M.oB c.ah o.uid,bytes:=c.bytes - (e.text.size:Int),log:=Rg.gE c.aj c.log (token,o.uid),aG:=hzn c,az:=token }:=by
    rw[M.ff c o token h1 (λ_=>by rw[hc];rfl) (λe=>by rw[hd] at e;cases e),hpe]
    simp[hc,hd]
   rw[he,<-hd]
   exact(zm w B g c o token e h hB hg hd hc h1 h2 h3 h4 hm h7).mono λ_ _ ⟨a,b,c⟩=>⟨⟨_,a⟩,b,c⟩
 | false =>
  rw[hd] at hm
  simp only[Bool.false_eq_true,if_false] at hm
  cases hc:M.bR c.ah o.uid with
  | some e =>
   rw[hc] at hm
   have hm:=of_decide_eq_true hm
   have he:c.apply o token={ c with ah:=M.gQ c.ah ⟨o.uid,token,o.au⟩,bytes:=c.bytes - (e.text.size:Int)+(o.au.size:Int),log:=Rg.gE c.aj c.log (token,o.uid),aG:=hzn c,az:=token }:=by
    rw[M.ff c o token h1 (λe=>by rw[hd] at e;cases e) (λ_ e=>by rw[hc] at e;cases e),hpe]
    simp[hc,hd]
   rw[he,<-hd]
   exact(zk w B g c o token e h hB hg hd hc h1 h2 h3 h4 hm h7 h8).mono λ_ _ ⟨a,b,c⟩=>⟨⟨_,a⟩,b,c⟩
  | none =>
   rw[hc] at hm
   simp only[Bool.and_eq_true,decide_eq_true_eq,List.all_eq_true] at hm
   obtain⟨g2,g3⟩:=hm
   have hup:∀ x∈c.ah,kl x.uid<kl o.uid:=λx hx=>of_decide_eq_true (g2 x hx)
   have hput:M.gQ c.ah ⟨o.uid,token,o.au⟩=c.ah++[⟨o.uid,token,o.au⟩]:=by
    unfold M.gQ
    have a0:(c.ah.any λx=>x.uid==o.uid)=false:=by
     rw[<-Bool.not_eq_true,List.any_eq_true]
     rintro ⟨x,hx,he⟩
     rw[fY] at he
     have:=hup x hx
     rw[of_decide_eq_true he] at this
     exact bG _ this
    have a1:(c.ah.filter λx=>M.lt x.uid o.uid)=c.ah:=List.filter_eq_self.2 g2
    have a2:(c.ah.filter λx=>M.lt o.uid x.uid)=[]:=by
     rw[List.filter_eq_nil_iff]
     intro x hx he
     simp only[M.lt,decide_eq_true_eq] at he
     exact bG _ (iH he (hup x hx))
    simp only[a0,a1,a2,Bool.false_eq_true,if_false,List.append_nil]
   have he:c.apply o token={ c with ah:=c.ah++[⟨o.uid,token,o.au⟩],bytes:=c.bytes+(o.au.size:Int),log:=Rg.gE c.aj c.log (token,o.uid),aG:=hzn c,az:=token }:=by
    rw[M.ff c o token h1 (λe=>by rw[hd] at e;cases e) (λ_ _=>g3),hpe]
    simp[hc,hd,hput]
   rw[he,<-hd]
   exact(zl w B g c o token h hB hg hd hc hup h1 g3 h2 h3 h4 h5 h6 h7 h8).mono λ_ _ ⟨a,b,c⟩=>⟨⟨_,a⟩,b,c⟩
end Co
