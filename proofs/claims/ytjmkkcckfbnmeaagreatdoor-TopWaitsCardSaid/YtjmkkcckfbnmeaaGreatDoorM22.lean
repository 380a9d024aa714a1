/- Texts ColA, ColB. -/
import Derived.Test.YtjmkkcckfbnmeaaGreatDoorM02
import Derived.Test.YtjmkkcckfbnmeaaGreatDoorM17
import Derived.Deep.RegionLaw
import Derived.IntWalk
import Derived.Deep.CutRange
set_option maxRecDepth 100000
set_option maxHeartbeats 8000000
set_option linter.all false
open Go.Lib (hid)
namespace Go.Proofs.YtjmkkcckfbnmeaaGreatDoor.Co
open Go.RowKit
theorem tne {w:World}{a b:Nat}{t u:TypeId}(ha:tyOf w a=some t)(hb:tyOf w b=some u)(h:t≠u):a≠b:=fun e=>by
 rw[e,hb] at ha
 cases ha
 exact h rfl
theorem apply_put (w:World)(B g:Nat)(c:M.Col)(o:M.Op)(token:Int)(h:ColAt w B g c)(hB:B≤w.heap.size)(hg:B≤g)(hd:o.del=false)(hno:M.getC c.cards o.uid=none)(hup:∀ x∈c.cards,kl x.uid<kl o.uid)
  (ht:c.latest≤token) (hlm:(c.cards.length:Int)<c.most) (hlog:(c.log.length:Int)<c.logMost) (hlog2:c.log.length≤90) (hcl:c.cards.length<1000) (hb0:0≤c.bytes) (hb1:c.bytes≤1000000000) (hsz:o.card.size≤100000) :
  Calls Tryz.prog 114 #[.pointer (some ⟨g,0,none⟩),.agg #[.bool o.del,.string o.uid,.string o.card,.int .i64 o.ck,.int .i64 o.cv],.int .i64 token] w fun e w'=>e = .returned (.bool true) ∧
   ColAt w' B g { c with cards:=c.cards++[⟨o.uid,token,o.card⟩],bytes:=c.bytes+(o.card.size:Int),log:=c.log++[(token,o.uid)],latest:=token }∧FrX B Ts [] w w':=by
 have f0:Fr [] w (w.alloc (.cells #[.bool o.del,.string o.uid,.string o.card,.int .i64 o.ck,.int .i64 o.cv] 49)):=(Fr.refl _ _).alloc _
 have b0:=Holds.new w 49 #[.bool o.del,.string o.uid,.string o.card,.int .i64 o.ck,.int .i64 o.cv]
 have HG:=hid (get_any _ B g c o.uid (h.fr0 f0))
 rw[hno,hd] at HG
 rw[hd] at f0 b0 ⊢
 have HU:=hid hup
 have H0:=hid h
 have e0:(vOf none:Int)=0:=rfl
 have e1:(tOf none)=ByteArray.empty:=rfl
 rw[e0,e1] at HG
 clear hup hno hd e0 e1
 have hnt:¬ token<c.latest:=by omega
 go_enter Tryz.func114,Tryz.ntmps114
 go_wp2_with fail
 refine HG.out.mono ?_
 rintro e w1 ⟨rfl,f1⟩
 have HL:=hid (fun x=>len_any (w1.drewN x) B g c (h.fr0 ((f0.trans f1).drewN x)))
 obtain⟨m,r,hm,hr,p0,mp0,rp0⟩:=h.fr0 (f0.trans f1)
 have b1:=b0.fr f1 (by simp)
 have d0:=b1.cell 0
 have d1:=b1.cell 1
 have d2:=b1.cell 2
 have c0:=p0.cell 0
 have c1:=p0.cell 1
 have c2:=p0.cell 2
 have c3:=p0.cell 3
 have c4:=p0.cell 4
 simp at d0 d1 d2 c0 c1 c2 c3 c4
 clear h
 have hgl:=p0.lt
 have hbl:=b1.lt
 have hlm':¬ c.most≤(c.cards.length:Int):=by omega
 go_wp2_with fail
 go_quiet ((go_at_call 169;exact quiet_same (HL.out _)))
 obtain⟨W,hW⟩:∃ W,W=w1.drewN nq:=⟨_,rfl⟩
 have fW:Fr [] w W:=by rw[hW];exact(f0.trans f1).drewN _
 have bW:Holds W w.heap.size 49 #[.bool false,.string o.uid,.string o.card,.int .i64 o.ck,.int .i64 o.cv]:=by rw[hW];exact b1.drewN _
 have pW:Holds W g 256 #[.pointer (some ⟨m,0,none⟩),.pointer (some ⟨r,0,none⟩),.int .i64 c.most,.int .i64 c.bytes,.int .i64 c.latest,.int .i64 c.horizon]:=by rw[hW];exact p0.drewN _
 have mW:Oc.MapAt W B m (ents c.cards):=by rw[hW];exact mp0.fr0 ((Fr.refl _ _).drewN _)
 have rW:Rg.RingAt W B r c.logMost c.log:=by rw[hW];exact rp0.fr0 ((Fr.refl _ _).drewN _)
 rw[←hW]
 clear hW mp0 rp0 p0 b1 b0 d0 d1 d2 c0 c1 c2 c3 c4 HL hgl hbl
 have HM:=hid mW
 have HR:=hid rW
 have d0:=bW.cell 0
 have c3:=pW.cell 3
 have z3:=pW.frozen 3
 simp at d0 c3 z3
 have hgl:=pW.lt
 have hbl:=bW.lt
 have hgb:g≠w.heap.size:=tne pW.ty bW.ty (by decide)
 have hbg:w.heap.size≠g:=hgb.symm
 clear mW rW
 go_wp2_with fail
 obtain⟨W1,hW1⟩:∃ W1,W1=W.setCell ⟨g,3,none⟩ (.int .i64 c.bytes):=⟨_,rfl⟩
 have x1:FrX B Ts [] W W1:=by
  rw[hW1]
  exact FrX.of_frT ((Fr.refl [g] W).setCell (by simp) _) (by simpa using hg) (fun x hx=>⟨256,by simp,by simp at hx;subst hx;exact pW.ty⟩)
 have x1':FrX B [256] [] W W1:=by
  rw[hW1]
  exact FrX.of_frT ((Fr.refl [g] W).setCell (by simp) _) (by simpa using hg) (fun x hx=>⟨256,by simp,by simp at hx;subst hx;exact pW.ty⟩)
 have p1:Holds W1 g 256 #[.pointer (some ⟨m,0,none⟩),.pointer (some ⟨r,0,none⟩),.int .i64 c.most,.int .i64 c.bytes,.int .i64 c.latest,.int .i64 c.horizon]:=by rw[hW1];simpa using pW.set 3 (.int .i64 c.bytes)
 have m1:Oc.MapAt W1.drew B m (ents c.cards):=(HM.out.frx x1' (by decide) (by decide) (by simp)).fr0 (Fr.refl _ _).drew
 have r1:Rg.RingAt W1 B r c.logMost c.log:=HR.out.frx x1' (by decide) (by decide)
 have b1:Holds W1 w.heap.size 49 #[.bool false,.string o.uid,.string o.card,.int .i64 o.ck,.int .i64 o.cv]:=bW.frx x1' (by decide) (by simp)
 rw[←hW1]
 have hs1:w.heap.size≤W1.heap.size:=Nat.le_trans fW.size x1.size
 have HP:=hid (Oc.put_end W1.drew B m (ents c.cards) o.uid token o.card m1 (fun x hx=>by
  obtain⟨y,hy,rfl⟩:=List.mem_map.1 hx
  exact HU.out y hy) (by simpa[ents] using hcl) (by simp;omega) hm)
 have hgm:g≠m:=by
  obtain⟨v,hv,_⟩:=HM.out.at_
  exact tne pW.ty hv.ty (by decide)
 have HMT:=hid (show tyOf W1.drew m=some 313 from by
  obtain⟨v,hv,_⟩:=m1.at_
  exact hv.ty)
 clear hW1 d0 c3 z3 x1' pW bW m1
 have d1:=b1.cell 1
 have d2:=b1.cell 2
 have c0:=p1.cell 0
 simp at d1 d2 c0
 have hgl1:=p1.lt
 have hbl1:=b1.lt
 clear hgl hbl
 go_cut [] from 12 (fun w2=>Oc.MapAt w2 B m (ents c.cards++[(o.uid,token,o.card)])∧FrX B [311] [m] W1.drew w2)
 case first =>
  go_region_law (go_simp;go_at_call 171;refine HP.out.mono ?_;rintro e w2 ⟨rfl,q1,q2⟩)
  all_goals
   go_wp2_with fail
   go_meet
   case rel=>exact⟨q1,q2⟩
 case rest =>
  obtain⟨q1,q2⟩:=hcut
  obtain⟨w2,hw2⟩:∃ w2,w2=wc:=⟨_,rfl⟩
  rw[←hw2] at q1 q2 ⊢
  clear hw2
  have q2':FrX B Ts [] W1 w2:=((FrX.of_fr0 ((Fr.refl [] W1).drew)).trans ((q2.mono (Ts:=Ts) (T:=[m]) (by simp) (fun _ h=>h)).shed (fun x hx=>.inr (.inr ⟨313,by simp,by simp at hx;subst hx;exact HMT.out⟩))))
  have p2:Holds w2 g 256 #[.pointer (some ⟨m,0,none⟩),.pointer (some ⟨r,0,none⟩),.int .i64 c.most,.int .i64 c.bytes,.int .i64 c.latest,.int .i64 c.horizon]:=p1.drew.frx q2 (by decide) (by simpa using hgm)
  have b2:Holds w2 w.heap.size 49 #[.bool false,.string o.uid,.string o.card,.int .i64 o.ck,.int .i64 o.cv]:=b1.drew.frx q2 (by decide) (by
   have:=tne b1.drew.ty HMT.out (by decide)
   simpa using this)
  have r2:Rg.RingAt w2 B r c.logMost c.log:=(r1.fr0 ((Fr.refl [] W1).drew)).frx (Us:=[311,313]) ((q2.mono (T:=[m]) (by simp) (fun _ h=>h)).shed (fun x hx=>.inr (.inr ⟨313,by simp,by simp at hx;subst hx;exact HMT.out⟩))) (by decide) (by decide)
  clear d1 d2 c0
  have c3:=p2.cell 3
  have z3:=p2.frozen 3
  have d2:=b2.cell 2
  simp at c3 z3 d2
  have hgl2:=p2.lt
  have hbl2:=b2.lt
  have hbw:IntKind.i64.wrap (c.bytes+(o.card.size:Int))=c.bytes+(o.card.size:Int):=IntWalk.i64_in _ (by omega)
  clear hgl1 hbl1
  go_wp2_with fail
  go_region
  obtain⟨W3,hW3⟩:∃ W3,W3=(w2.setCell ⟨g,3,none⟩ (.int .i64 (c.bytes+(o.card.size:Int)))).drew:=⟨_,rfl⟩
  have x3:FrX B [256] [] w2 W3:=by
   rw[hW3]
   exact(FrX.of_frT ((Fr.refl [g] w2).setCell (by simp) _) (by simpa using hg) (fun x hx=>⟨256,by simp,by simp at hx;subst hx;exact p2.ty⟩)).trans (FrX.of_fr0 (Fr.refl _ _).drew)
  have p3:Holds W3 g 256 #[.pointer (some ⟨m,0,none⟩),.pointer (some ⟨r,0,none⟩),.int .i64 c.most,.int .i64 (c.bytes+(o.card.size:Int)),.int .i64 c.latest,.int .i64 c.horizon]:=by rw[hW3];simpa using (p2.set 3 (.int .i64 (c.bytes+(o.card.size:Int)))).drew
  have m3:Oc.MapAt W3 B m (ents c.cards++[(o.uid,token,o.card)]):=q1.frx x3 (by decide) (by decide) (by simp)
  have r3:Rg.RingAt W3 B r c.logMost c.log:=r2.frx x3 (by decide) (by decide)
  have b3:Holds W3 w.heap.size 49 #[.bool false,.string o.uid,.string o.card,.int .i64 o.ck,.int .i64 o.cv]:=b2.frx x3 (by decide) (by simp)
  have q3:FrX B Ts [] W1 W3:=q2'.trans (x3.mono (by simp) (fun _ h=>h))
  rw[←hW3]
  clear hW3 p2 b2 r2 c3 z3 d2 hgl2 hbl2 x3 q2' q1 hbw
  have HM3:=hid m3
  have d1:=b3.cell 1
  have c1:=p3.cell 1
  simp at d1 c1
  have hgl:=p3.lt
  have hbl:=b3.lt
  clear m3
  have hs3:=q3.size
  have HQ:=hid (fun (U:World) (f:Fr [] W3 U)=>(Rg.push_any U B r c.logMost token o.uid c.log (r3.fr0 f) (by have:=f.size;omega) hr hlog hlog2).mono (fun e w' ⟨he,a,b,S,c1,c2,c3⟩=>(⟨he,a,(FrX.of_fr0 f).trans b,S,f,c1,c2 W3 r3 f,c3⟩:e=Ending.returned (.tuple #[.agg #[.int .i64 0,.string ByteArray.empty],.bool false])∧Rg.RingAt w' B r c.logMost (c.log++[(token,o.uid)])∧FrX B Rg.Ts [] W3 w'∧∃ S,Fr [] W3 U∧Fr S U w'∧(∀ x∈S,x<W3.heap.size)∧∀ v k,w'.cell? ⟨r,1,none⟩=some v→ownOf v=some k→k∈S∨U.heap.size≤k)))
  have HRL:=hid (show r<W3.heap.size from by
   obtain⟨_,_,k,_⟩:=r3
   exact k.lt)
  clear r3
  go_wp2_with fail
  go_cut [10,11] from 12 (fun s10 s11 w4=>(∃ b,s10 = .pointer (some ⟨b,0,none⟩))∧s11 = .bool false∧Rg.RingAt w4 B r c.logMost (c.log++[(token,o.uid)])∧FrX B Rg.Ts [] W3 w4)
  case first =>
   go_region_law (go_simp;go_at_call 172;refine(HQ.out _ (by first|exact(Fr.refl _ _).drew|exact((Fr.refl _ _).alloc _).drew)).mono ?_;rintro e w4 ⟨rfl,q4,x4,S4,fU,f4,s4,o4⟩;have O4:=hid o4;clear o4;try (have bx4:=(Holds.new W3 261 #[.int .i64 0,.string ⟨#[]⟩]).drew.fr f4 (fun hx=>Nat.lt_irrefl _ (s4 _ hx));have bz0:=bx4.frozen 0;have bz1:=bx4.frozen 1;have by0:=bx4.cell 0;have by1:=bx4.cell 1;have bl4:=bx4.lt;simp at by0 by1))
   all_goals
    go_wp2_with fail
    go_meet
    case rel =>
     refine⟨⟨_,rfl⟩,rfl,?_,?_⟩
     ·first
       | exact q4.fr0 ((Fr.refl _ _).alloc _)
       | (have hrb:r≠W3.heap.size:=(by have:=HRL.out;omega);have hob:∀ v k,w4.cell? ⟨r,1,none⟩=some v→ownOf v=some k→k≠W3.heap.size:=(fun v k h1 h2=>by rcases O4.out v k h1 h2 with h|h;(have:=s4 k h;omega);(simp at h;omega));exact(q4.far hrb hob _).far hrb (fun v k h1 h2=>hob v k (by rw[←h1];exact(World.cell?_of_block (Below.heap_setCell w4 _ _ r (by simp;exact hrb))).symm) h2) _)
     ·first
       | exact x4.alloc _
       | exact(x4.setNew (Nat.le_refl _) _).setNew (Nat.le_refl _) _
  case rest =>
   obtain⟨⟨b,rfl⟩,rfl,q4,x4⟩:=hcut
   clear HQ HP HM HR HU H0 HG
   have x4g:FrX B [317,261] [] W3 wc:=x4
   have p4:=p3.frx x4g (by decide) (by simp)
   have b4:=b3.frx x4g (by decide) (by simp)
   clear d1 c1
   have z4:=p4.frozen 4
   have c4:=p4.cell 4
   simp at c4
   have hgl4:=p4.lt
   go_wp2_with fail
   go_ret
   have x5:FrX B [256] [] wc (wc.setCell ⟨g,4,none⟩ (.int .i64 token)):=FrX.of_frT ((Fr.refl [g] wc).setCell (by simp) _) (by simpa using hg) (fun x hx=>⟨256,by simp,by simp at hx;subst hx;exact p4.ty⟩)
   have he:ents (c.cards++[⟨o.uid,token,o.card⟩])=ents c.cards++[(o.uid,token,o.card)]:=by simp[ents,ent]
   refine⟨rfl,⟨m,r,hm,hr,by simpa using p4.set 4 (.int .i64 token),?_,q4.frx x5 (by decide) (by decide)⟩,?_⟩
   ·show Oc.MapAt _ B m (ents (c.cards++[⟨o.uid,token,o.card⟩]))
    rw[he]
    exact(HM3.out.frx x4g (by decide) (by decide) (by simp)).frx x5 (by decide) (by decide) (by simp)
   ·exact((((FrX.of_fr0 fW).trans x1).trans q3).trans (x4.mono (by simp) (fun _ h=>h))).trans (x5.mono (by simp) (fun _ h=>h))
end Go.Proofs.YtjmkkcckfbnmeaaGreatDoor.Co
namespace Go.Proofs.YtjmkkcckfbnmeaaGreatDoor.Co
open Go.RowKit
theorem drop_del {l:List M.Cd}{u:ByteArray}{c:M.Cd}(hs:Srt (Oc.keys (ents l)))(h:M.getC l u=some c):Oc.dropK (ents l) (idx (Oc.keys (ents l)) u)=ents (M.delC l u):=by
 obtain⟨hu,hx⟩:=getC_at hs h
 obtain⟨i,hi⟩:∃ i,idx (Oc.keys (ents l)) u=i:=⟨_,rfl⟩
 rw[hi] at hx ⊢
 have hil:i<l.length:=by
  have:=(List.getElem?_eq_some_iff.1 hx).1
  simpa[ents] using this
 have hli:l[i]=c∨l[i].uid=u:=by
  right
  have:(ents l)[i]? = some (ent l[i]):=by simp[ents,List.getElem?_eq_getElem hil]
  rw[hx] at this
  simp only[Option.some.injEq,ent,Prod.mk.injEq] at this
  rw[←this.1,hu]
 have hui:l[i].uid=u:=by
  rcases hli with h|h
  ·rw[h,hu]
  ·exact h
 have hkey:∀ (j:Nat) (y:M.Cd),l[j]? = some y→(Oc.keys (ents l))[j]? = some y.uid:=fun j y hy=>by
  simp[Oc.keys,ents,ent,hy]
 have hne:∀ (j:Nat) (y:M.Cd),l[j]? = some y→j≠i→y.uid≠u:=fun j y hy hj e=>by
  have k1:=hkey j y hy
  have k2:=hkey i l[i] (List.getElem?_eq_getElem hil)
  rw[hui] at k2
  rw[e] at k1
  rcases Nat.lt_or_gt_of_ne hj with h'|h'
  ·exact kl_irrefl _ (srt_lt hs k1 k2 h')
  ·exact kl_irrefl _ (srt_lt hs k2 k1 h')
 have hsplit:l=l.take i++l[i]::l.drop (i+1):=by
  rw[←List.drop_eq_getElem_cons hil,List.take_append_drop]
 have e1:M.delC l u=l.take i++l.drop (i+1):=by
  unfold M.delC
  conv=>lhs;rw[hsplit]
  rw[List.filter_append,List.filter_cons]
  have a1:(l.take i).filter (fun c=>!(c.uid==u))=l.take i:=by
   rw[List.filter_eq_self]
   intro y hy
   obtain⟨j,hj,rfl⟩:=List.mem_iff_getElem.1 hy
   simp only[List.length_take] at hj
   have:=hne j l[j] (List.getElem?_eq_getElem (by omega)) (by omega)
   simp[beq_dec,this]
  have a2:(l.drop (i+1)).filter (fun c=>!(c.uid==u))=l.drop (i+1):=by
   rw[List.filter_eq_self]
   intro y hy
   obtain⟨j,hj,rfl⟩:=List.mem_iff_getElem.1 hy
   simp only[List.length_drop] at hj
   have:=hne (i+1+j) l[i+1+j] (List.getElem?_eq_getElem (by omega)) (by omega)
   simp[beq_dec,this]
  rw[a1,a2]
  simp[beq_dec,hui]
 rw[e1]
 simp[Oc.dropK,ents,List.map_take,List.map_drop]
theorem apply_del (w:World)(B g:Nat)(c:M.Col)(o:M.Op)(token:Int)(e0':M.Cd)(h:ColAt w B g c)(hB:B≤w.heap.size)(hg:B≤g)(hd:o.del=true)(hyes:M.getC c.cards o.uid=some e0')
  (ht:c.latest≤token) (hlog:(c.log.length:Int)<c.logMost) (hlog2:c.log.length≤90) (hb0:(e0'.text.size:Int)≤c.bytes) (hb1:c.bytes≤1000000000) :
  Calls Tryz.prog 114 #[.pointer (some ⟨g,0,none⟩),.agg #[.bool o.del,.string o.uid,.string o.card,.int .i64 o.ck,.int .i64 o.cv],.int .i64 token] w fun e w'=>e = .returned (.bool true) ∧
   ColAt w' B g { c with cards:=M.delC c.cards o.uid,bytes:=c.bytes - (e0'.text.size:Int),log:=c.log++[(token,o.uid)],latest:=token }∧FrX B Ts [] w w':=by
 have f0:Fr [] w (w.alloc (.cells #[.bool o.del,.string o.uid,.string o.card,.int .i64 o.ck,.int .i64 o.cv] 49)):=(Fr.refl _ _).alloc _
 have b0:=Holds.new w 49 #[.bool o.del,.string o.uid,.string o.card,.int .i64 o.ck,.int .i64 o.cv]
 have HG:=hid (get_any _ B g c o.uid (h.fr0 f0))
 have hK:Oc.hasK (ents c.cards) o.uid=true:=by rw[hasK_ents,hyes];rfl
 have HK:=hid hK
 have HDD:=hid (fun hs=>drop_del (l:=c.cards) hs hyes)
 rw[hyes,hd] at HG
 rw[hd] at f0 b0 ⊢
 have H0:=hid h
 have e0:(vOf (some e0'):Int)=e0'.version:=rfl
 have e1:(tOf (some e0'))=e0'.text:=rfl
 have e2:(some e0').isSome=true:=rfl
 rw[e0,e1,e2] at HG
 obtain⟨tx,htx⟩:∃ tx,e0'.text=tx:=⟨_,rfl⟩
 obtain⟨vx,hvx⟩:∃ vx,e0'.version=vx:=⟨_,rfl⟩
 rw[htx] at HG hb0 ⊢
 rw[hvx] at HG
 clear hyes hd e0 e1 e2 hK htx hvx
 have hnt:¬ token<c.latest:=by omega
 go_enter Tryz.func114,Tryz.ntmps114
 go_wp2_with fail
 refine HG.out.mono ?_
 rintro e w1 ⟨rfl,f1⟩
 have HL:=hid (fun x=>len_any (w1.drewN x) B g c (h.fr0 ((f0.trans f1).drewN x)))
 obtain⟨m,r,hm,hr,p0,mp0,rp0⟩:=h.fr0 (f0.trans f1)
 have b1:=b0.fr f1 (by simp)
 have d0:=b1.cell 0
 have d1:=b1.cell 1
 have d2:=b1.cell 2
 have c0:=p0.cell 0
 have c1:=p0.cell 1
 have c2:=p0.cell 2
 have c3:=p0.cell 3
 have c4:=p0.cell 4
 simp at d0 d1 d2 c0 c1 c2 c3 c4
 clear h
 have hgl:=p0.lt
 have hbl:=b1.lt
 go_wp2_with fail
 have hnb:decide (token<c.latest)=false:=decide_eq_false (by omega)
 go_quiet ((go_at_call 169;exact quiet_same (HL.out _)))
 obtain⟨W,hW⟩:∃ W,W=w1.drewN nq:=⟨_,rfl⟩
 have fW:Fr [] w W:=by rw[hW];exact(f0.trans f1).drewN _
 have bW:Holds W w.heap.size 49 #[.bool true,.string o.uid,.string o.card,.int .i64 o.ck,.int .i64 o.cv]:=by rw[hW];exact b1.drewN _
 have pW:Holds W g 256 #[.pointer (some ⟨m,0,none⟩),.pointer (some ⟨r,0,none⟩),.int .i64 c.most,.int .i64 c.bytes,.int .i64 c.latest,.int .i64 c.horizon]:=by rw[hW];exact p0.drewN _
 have mW:Oc.MapAt W B m (ents c.cards):=by rw[hW];exact mp0.fr0 ((Fr.refl _ _).drewN _)
 have rW:Rg.RingAt W B r c.logMost c.log:=by rw[hW];exact rp0.fr0 ((Fr.refl _ _).drewN _)
 rw[←hW]
 clear hW mp0 rp0 p0 b1 b0 d0 d1 d2 c0 c1 c2 c3 c4 HL hgl hbl hnb
 have HM:=hid mW
 have HR:=hid rW
 have d0:=bW.cell 0
 have c3:=pW.cell 3
 have z3:=pW.frozen 3
 simp at d0 c3 z3
 have hgl:=pW.lt
 have hbl:=bW.lt
 have hgb:g≠w.heap.size:=tne pW.ty bW.ty (by decide)
 have hbg:w.heap.size≠g:=hgb.symm
 have hbw:IntKind.i64.wrap (c.bytes - (tx.size:Int))=c.bytes - (tx.size:Int):=IntWalk.i64_in _ (by omega)
 clear mW rW
 go_wp2_with fail
 obtain⟨W1,hW1⟩:∃ W1,W1=W.setCell ⟨g,3,none⟩ (.int .i64 (c.bytes - (tx.size:Int))):=⟨_,rfl⟩
 have x1:FrX B Ts [] W W1:=by
  rw[hW1]
  exact FrX.of_frT ((Fr.refl [g] W).setCell (by simp) _) (by simpa using hg) (fun x hx=>⟨256,by simp,by simp at hx;subst hx;exact pW.ty⟩)
 have x1':FrX B [256] [] W W1:=by
  rw[hW1]
  exact FrX.of_frT ((Fr.refl [g] W).setCell (by simp) _) (by simpa using hg) (fun x hx=>⟨256,by simp,by simp at hx;subst hx;exact pW.ty⟩)
 have p1:Holds W1 g 256 #[.pointer (some ⟨m,0,none⟩),.pointer (some ⟨r,0,none⟩),.int .i64 c.most,.int .i64 (c.bytes - (tx.size:Int)),.int .i64 c.latest,.int .i64 c.horizon]:=by rw[hW1];simpa using pW.set 3 (.int .i64 (c.bytes - (tx.size:Int)))
 have m1:Oc.MapAt W1.drew B m (ents c.cards):=(HM.out.frx x1' (by decide) (by decide) (by simp)).fr0 (Fr.refl _ _).drew
 have r1:Rg.RingAt W1 B r c.logMost c.log:=HR.out.frx x1' (by decide) (by decide)
 have b1:Holds W1 w.heap.size 49 #[.bool true,.string o.uid,.string o.card,.int .i64 o.ck,.int .i64 o.cv]:=bW.frx x1' (by decide) (by simp)
 rw[←hW1]
 have hs1:w.heap.size≤W1.heap.size:=Nat.le_trans fW.size x1.size
 have HP:=hid (Oc.del_yes W1.drew B m (ents c.cards) o.uid m1 HK.out (by simp;omega) hm)
 rw[HDD.out m1.srt] at HP
 have hgm:g≠m:=by
  obtain⟨v,hv,_⟩:=HM.out.at_
  exact tne pW.ty hv.ty (by decide)
 have HMT:=hid (show tyOf W1.drew m=some 313 from by
  obtain⟨v,hv,_⟩:=m1.at_
  exact hv.ty)
 clear hW1 d0 c3 z3 x1' pW bW m1
 have d1:=b1.cell 1
 have c0:=p1.cell 0
 simp at d1 c0
 have hgl1:=p1.lt
 have hbl1:=b1.lt
 clear hgl hbl
 go_cut [] from 12 (fun w2=>Oc.MapAt w2 B m (ents (M.delC c.cards o.uid))∧FrX B [311] [m] W1.drew w2)
 case first =>
  go_region_law (go_simp;go_at_call 170;refine HP.out.mono ?_;rintro e w2 ⟨rfl,q1,q2⟩)
  all_goals
   go_wp2_with fail
   go_meet
   case rel=>exact⟨q1,q2⟩
 case rest =>
  obtain⟨q1,q2⟩:=hcut
  obtain⟨w2,hw2⟩:∃ w2,w2=wc:=⟨_,rfl⟩
  rw[←hw2] at q1 q2 ⊢
  clear hw2
  have q2':FrX B Ts [] W1 w2:=((FrX.of_fr0 ((Fr.refl [] W1).drew)).trans ((q2.mono (Ts:=Ts) (T:=[m]) (by simp) (fun _ h=>h)).shed (fun x hx=>.inr (.inr ⟨313,by simp,by simp at hx;subst hx;exact HMT.out⟩))))
  have p3:Holds w2 g 256 #[.pointer (some ⟨m,0,none⟩),.pointer (some ⟨r,0,none⟩),.int .i64 c.most,.int .i64 (c.bytes - (tx.size:Int)),.int .i64 c.latest,.int .i64 c.horizon]:=p1.drew.frx q2 (by decide) (by simpa using hgm)
  have b3:Holds w2 w.heap.size 49 #[.bool true,.string o.uid,.string o.card,.int .i64 o.ck,.int .i64 o.cv]:=b1.drew.frx q2 (by decide) (by
   have:=tne b1.drew.ty HMT.out (by decide)
   simpa using this)
  have r3:Rg.RingAt w2 B r c.logMost c.log:=(r1.fr0 ((Fr.refl [] W1).drew)).frx (Us:=[311,313]) ((q2.mono (T:=[m]) (by simp) (fun _ h=>h)).shed (fun x hx=>.inr (.inr ⟨313,by simp,by simp at hx;subst hx;exact HMT.out⟩))) (by decide) (by decide)
  clear d1 c0 hgl1 hbl1
  have HM3:=hid q1
  have d1:=b3.cell 1
  have c1:=p3.cell 1
  simp at d1 c1
  have hgl:=p3.lt
  have hbl:=b3.lt
  clear q1
  have hs3:=q2'.size
  have HQ:=hid (fun (U:World) (f:Fr [] w2 U)=>(Rg.push_any U B r c.logMost token o.uid c.log (r3.fr0 f) (by have:=f.size;omega) hr hlog hlog2).mono (fun e w' ⟨he,a,b,S,c1,c2,c3⟩=>(⟨he,a,(FrX.of_fr0 f).trans b,S,f,c1,c2 w2 r3 f,c3⟩:e=Ending.returned (.tuple #[.agg #[.int .i64 0,.string ByteArray.empty],.bool false])∧Rg.RingAt w' B r c.logMost (c.log++[(token,o.uid)])∧FrX B Rg.Ts [] w2 w'∧∃ S,Fr [] w2 U∧Fr S U w'∧(∀ x∈S,x<w2.heap.size)∧∀ v k,w'.cell? ⟨r,1,none⟩=some v→ownOf v=some k→k∈S∨U.heap.size≤k)))
  have HRL:=hid (show r<w2.heap.size from by
   obtain⟨_,_,k,_⟩:=r3
   exact k.lt)
  clear r3
  go_wp2_with fail
  go_cut [10,11] from 12 (fun s10 s11 w4=>(∃ b,s10 = .pointer (some ⟨b,0,none⟩))∧s11 = .bool false∧Rg.RingAt w4 B r c.logMost (c.log++[(token,o.uid)])∧FrX B Rg.Ts [] w2 w4)
  case first =>
   go_region_law (go_simp;go_at_call 172;refine(HQ.out _ (by first|exact(Fr.refl _ _).drew|exact((Fr.refl _ _).alloc _).drew)).mono ?_;rintro e w4 ⟨rfl,q4,x4,S4,fU,f4,s4,o4⟩;have O4:=hid o4;clear o4;try (have bx4:=(Holds.new w2 261 #[.int .i64 0,.string ⟨#[]⟩]).drew.fr f4 (fun hx=>Nat.lt_irrefl _ (s4 _ hx));have bz0:=bx4.frozen 0;have bz1:=bx4.frozen 1;have by0:=bx4.cell 0;have by1:=bx4.cell 1;have bl4:=bx4.lt;simp at by0 by1))
   all_goals
    go_wp2_with fail
    go_meet
    case rel =>
     refine⟨⟨_,rfl⟩,rfl,?_,?_⟩
     ·first
       | exact q4.fr0 ((Fr.refl _ _).alloc _)
       | (have hrb:r≠w2.heap.size:=(by have:=HRL.out;omega);have hob:∀ v k,w4.cell? ⟨r,1,none⟩=some v→ownOf v=some k→k≠w2.heap.size:=(fun v k h1 h2=>by rcases O4.out v k h1 h2 with h|h;(have:=s4 k h;omega);(simp at h;omega));exact(q4.far hrb hob _).far hrb (fun v k h1 h2=>hob v k (by rw[←h1];exact(World.cell?_of_block (Below.heap_setCell w4 _ _ r (by simp;exact hrb))).symm) h2) _)
     ·first
       | exact x4.alloc _
       | exact(x4.setNew (Nat.le_refl _) _).setNew (Nat.le_refl _) _
  case rest =>
   obtain⟨⟨b,rfl⟩,rfl,q4,x4⟩:=hcut
   clear HQ HP HM HR H0 HG
   have x4g:FrX B [317,261] [] w2 wc:=x4
   have p4:=p3.frx x4g (by decide) (by simp)
   have b4:=b3.frx x4g (by decide) (by simp)
   clear d1 c1
   have z4:=p4.frozen 4
   have c4:=p4.cell 4
   simp at c4
   have hgl4:=p4.lt
   go_wp2_with fail
   go_ret
   have x5:FrX B [256] [] wc (wc.setCell ⟨g,4,none⟩ (.int .i64 token)):=FrX.of_frT ((Fr.refl [g] wc).setCell (by simp) _) (by simpa using hg) (fun x hx=>⟨256,by simp,by simp at hx;subst hx;exact p4.ty⟩)
   refine⟨rfl,⟨m,r,hm,hr,by simpa using p4.set 4 (.int .i64 token),(HM3.out.frx x4g (by decide) (by decide) (by simp)).frx x5 (by decide) (by decide) (by simp),q4.frx x5 (by decide) (by decide)⟩,?_⟩
   exact((((FrX.of_fr0 fW).trans x1).trans q2').trans (x4.mono (by simp) (fun _ h=>h))).trans (x5.mono (by simp) (fun _ h=>h))
theorem apply_may (w:World)(B g:Nat)(c:M.Col)(o:M.Op)(token:Int)(h:ColAt w B g c)(hB:B≤w.heap.size)(hg:B≤g)(hm:M.mayApply c o token=true) :
  Calls Tryz.prog 114 #[.pointer (some ⟨g,0,none⟩),.agg #[.bool o.del,.string o.uid,.string o.card,.int .i64 o.ck,.int .i64 o.cv],.int .i64 token] w fun e w'=>(∃ b,e = .returned (.bool b))∧ColAt w' B g (c.apply o token)∧FrX B Ts [] w w':=by
 unfold M.mayApply at hm
 simp only[Bool.and_eq_true,decide_eq_true_eq] at hm
 obtain⟨⟨h1,h2,h3,h4,h5,h6,h7⟩,hm⟩:=hm
 cases hd:o.del with
 | true =>
  rw[hd] at hm
  simp only[if_true] at hm
  cases hc:M.getC c.cards o.uid with
  | none=>rw[hc] at hm;cases hm
  | some e =>
   rw[hc] at hm
   have hm:=of_decide_eq_true hm
   have he:c.apply o token={ c with cards:=M.delC c.cards o.uid,bytes:=c.bytes - (e.text.size:Int),log:=c.log++[(token,o.uid)],latest:=token }:=by
    unfold M.Col.apply
    have:¬ token<c.latest:=by omega
    simp[hc,hd,this,h2]
   rw[he,←hd]
   exact(apply_del w B g c o token e h hB hg hd hc h1 h2 h3 hm h6).mono fun _ _ ⟨a,b,c⟩=>⟨⟨_,a⟩,b,c⟩
 | false =>
  rw[hd] at hm
  simp only[Bool.false_eq_true,if_false,Bool.and_eq_true,decide_eq_true_eq,List.all_eq_true] at hm
  obtain⟨⟨g1,g2⟩,g3⟩:=hm
  have hc:M.getC c.cards o.uid=none:=by simpa using g1
  have hup:∀ x∈c.cards,kl x.uid<kl o.uid:=fun x hx=>by
   have:=g2 x hx
   exact of_decide_eq_true this
  have hput:M.putC c.cards ⟨o.uid,token,o.card⟩=c.cards++[⟨o.uid,token,o.card⟩]:=by
   unfold M.putC
   have a0:(c.cards.any fun x=>x.uid==o.uid)=false:=by
    rw[←Bool.not_eq_true,List.any_eq_true]
    rintro ⟨x,hx,he⟩
    rw[beq_dec] at he
    have:=hup x hx
    rw[of_decide_eq_true he] at this
    exact kl_irrefl _ this
   have a1:(c.cards.filter fun x=>M.lt x.uid o.uid)=c.cards:=List.filter_eq_self.2 g2
   have a2:(c.cards.filter fun x=>M.lt o.uid x.uid)=[]:=by
    rw[List.filter_eq_nil_iff]
    intro x hx he
    simp only[M.lt,decide_eq_true_eq] at he
    exact kl_irrefl _ (kl_trans he (hup x hx))
   simp only[a0,a1,a2,Bool.false_eq_true,if_false,List.append_nil]
  have he:c.apply o token={ c with cards:=c.cards++[⟨o.uid,token,o.card⟩],bytes:=c.bytes+(o.card.size:Int),log:=c.log++[(token,o.uid)],latest:=token }:=by
   unfold M.Col.apply
   have:¬ token<c.latest:=by omega
   have g3':¬ c.most≤(c.cards.length:Int):=by omega
   simp[hc,hd,this,h2,hput,g3']
  rw[he,←hd]
  exact(apply_put w B g c o token h hB hg hd hc hup h1 g3 h2 h3 h4 h5 h6 h7).mono fun _ _ ⟨a,b,c⟩=>⟨⟨_,a⟩,b,c⟩
end Go.Proofs.YtjmkkcckfbnmeaaGreatDoor.Co
