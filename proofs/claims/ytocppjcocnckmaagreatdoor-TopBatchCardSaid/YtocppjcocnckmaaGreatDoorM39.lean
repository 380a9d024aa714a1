/- Walks. -/
import Derived.Test.YtocppjcocnckmaaGreatDoorM25
import Derived.Test.YtocppjcocnckmaaGreatDoorM38
set_option maxRecDepth 100000
set_option maxHeartbeats 8000000
set_option linter.all false
open Go.Lib (hid)
namespace Go.Proofs.YtocppjcocnckmaaGreatDoor
open Go.Proofs.Tryz
namespace Rq
open Go.RowKit Fm Pk
theorem dJ {s:ByteArray}(h:M.gB s=true):1<=s.size/\s.size<=16:=by
 simp only[M.gB,Bool.and_eq_true,decide_eq_true_eq] at h
 exact h.1
theorem dY {s:ByteArray}(h:j6 s):1<=s.size/\s.size<=80:=by
 simp only[j6,M.jf,M.kq,List.any_cons,List.any_nil,Bool.or_eq_true,decide_eq_true_eq,Bool.or_false] at h
 rcases h with(h|h|h|h|h)|h<;>(rw[h];decide +kernel)
theorem je {k v:Int}(h:M.aY k v=true)(hv:v<=247):0<=k/\k<=247/\0<=v:=by
 unfold M.aY at h
 split at h
 ·have:v=0:=by simpa using h
  omega
 split at h
 ·have:=of_decide_eq_true h
  omega
 cases h
theorem QRd.app {w:World}{x r:Nat}{a b:List UInt8}(h:QRd w x r a)(e:a=b):QRd w x r b:=e ▸ h
theorem ER {w w':World}{B x r n:Nat}{rest:List UInt8}{v:Value}{xs:List Value}(hq:QRd w x r rest)(h:Own w B 43 5 v n xs)(hf:Fr [r,x] w w'):Own w' B 43 5 v n xs :=
 h.fr hf λg hg hm=>by
  have h1:=(h.ty hg).1
  simp only[List.mem_cons,List.not_mem_nil,or_false] at hm
  rcases hm with rfl|rfl
  ·rw[cu.rlt hq.rd] at h1
   exact absurd (Option.some.inj h1) (by decide)
  rw[hq.box.ty] at h1
  exact absurd (Option.some.inj h1) (by decide)
theorem Own.down {w:World}{B B':Nat}{e sz n:Nat}{v:Value}{xs:List Value}(h:Own w B e sz v n xs)(hB:B'<=B):Own w B' e sz v n xs:=by
 rcases h with h|⟨g,c,hg,h1,h2⟩
 ·exact .inl h
 exact .inr ⟨g,c,Nat.le_trans hB hg,h1,h2⟩
theorem QRd.frT {w w':World}{x r:Nat}{rest:List UInt8}{S:List Nat}(h:QRd w x r rest)(hf:Fr S w w')(hS:∀ y,y∈S->cB w y=some 43):QRd w' x r rest:=by
 obtain⟨hb,l,k,g,c,n,h1,a1,a2,a3,a4,hr⟩:=h
 have hn:∀ {g t:Nat},cB w g=some t->t≠43->g∉S:=λhg ht hm=>by
  rw[hS _ hm] at hg
  exact ht (Option.some.inj hg).symm
 exact⟨hb.fr hf (hn hb.ty (by decide)),l,k,g,c,n,h1.fr hf (hn h1.ty (by decide)),a1,a2,a3,a4,hr.fr hf (hn hr.ty (by decide))⟩
theorem ya {w wr W w10:World}{x r k n:Nat}{rest rest':List UInt8}{v v5:Value}{own5:Option Nat}{l:List M.Op}{o:M.Op}{cs:Array Value}{t:Nat}(_hq:QRd wr x r rest')(ho:Own W w.heap.size 43 5 v n (flat Lp.cs l))(hQ:QRd W x r rest)(hf:Fr [r,x] w W)
  (hs:Sl w10 43 5 v5 (n+1) (flat Lp.cs l++(Lp.cs o).toArray.toList) own5) (h5:Fr (ay v).toList (W.alloc (.cells cs t)) w10) (ho5:own5=ay v∨∃ g,own5=some g/\(W.alloc (.cells cs t)).heap.size<=g) (hm:∃ g,own5=some g) (_hk:l.length=k) :
  Own w10 w.heap.size 43 5 v5 (n+1) (flat Lp.cs (l++[o]))/\QRd w10 x r rest/\Fr [r,x] w w10:=by
 have hb:∀ y,y∈(ay v).toList->cB W y=some 43/\w.heap.size<=y:=λy hy=>ho.ty (by simpa using hy)
 have hlt:∀ y,y∈(ay v).toList->y<W.heap.size:=λy hy=>by
  rcases ho with⟨rfl,_⟩|⟨g,c,_,rfl,hr⟩
  ·cases hy
  simp[ay] at hy
  subst hy
  exact hr.lt
 have ha:Fr [] W (W.alloc (.cells cs t)):=rZ.alloc _
 have ho':=Own.fr0 ho ha
 obtain⟨oo,-⟩:=bn (B:=w.heap.size) (Nat.le_trans hf.size ha.size) (λg hg=>(ho'.ty hg).2) hs ho5 hm
 refine⟨?_,(hQ.fr ha).frT h5 (λy hy=>by rw[mV (ha.block y (hlt y hy) (by simp))];exact(hb y hy).1),(hf.alloc _).step h5 (λy hy=>.inr (hb y hy).2)⟩
 rw[aP,bS]
 simpa using oo
theorem Dh (w:World)(B x r:Nat)(l:List M.Op)(h:QRd w x r (nb l.length::l.flatMap En.opB))(hB:B<=w.heap.size)(hxr:B<=x/\B<=r)(hop:∀ o,o∈l->kv o)(hl:l.length<=8) :
  Calls prog 140 #[.pointer (some ⟨x,0,none⟩)] w λe w'=>∃ v,e = .returned v/\Ev.bD w' B v l/\QRd w' x r []/\Fr [r,x] w w':=by
 obtain⟨i5,hi,hz0,hz1,hz2⟩:=info_parts Lp.dU
 have e1:=cd (n:=(l.length:Int)) (by omega) (by omega)
 have HN:=hid (bP w x r _ _ h (by omega))
 rw[e1] at HN
 have HP:=hid hop
 have hxl:=h.box.lt
 have hrl:r<w.heap.size:=by
  obtain⟨l,k,g,c,n,hb,_⟩:=h.rd
  exact hb.lt
 clear h hop
 go_enter func140,ntmps140
 go_wp2_with fail
 refine HN.mono ?_
 rintro e w2 ⟨rfl,q2,f2⟩
 have c1:=q2.box.cell 1
 have z1:=q2.box.frozen 1
 have d1:decide ((l.length:Int) > 16)=false:=decide_eq_false (by omega)
 have q3:=(show QRd (w2.setCell ⟨x,1,none⟩ (.bool false)) x r (l.flatMap En.opB) from ⟨by simpa using q2.box.set 1 (.bool false),cu.far q2.rd q2.box (by decide) (by decide) _ _⟩)
 have f3:Fr [r,x] w (w2.setCell ⟨x,1,none⟩ (.bool false)):=f2.setCell (by simp) _
 have Q3:=hid q3
 clear q2 q3
 go_wp2_with fail
 go_loopw [3,5] (λo i wr=>∃ k:Nat,i = .int .i64 k/\k<=l.length/\Ev.bD wr w.heap.size o (l.take k)/\QRd wr x r ((l.drop k).flatMap En.opB)/\Fr [r,x] w wr) (λ_ i _=>l.length - (intOf i).toNat)
 case atStart=>exact⟨0,rfl,Nat.zero_le _,Own.nil _ _ _ _,Q3,f3⟩
 obtain⟨k,rfl,hk,ho,hq,fr⟩:=hrel
 clear c1 z1 f3 Q3
 have c0:=hq.box.cell 0
 have c1:=hq.box.cell 1
 have z1:=hq.box.frozen 1
 have HO:=hid ho
 have HE:=hid (im wr r _ hq.rd)
 have hws:=fr.size
 by_cases hlt:k<l.length
 ·have hk1:(k:Int)<(l.length:Int):=by omega
  have hk2:decide ((k:Int)<(l.length:Int))=true:=decide_eq_true hk1
  have hx:l[k]? = some l[k]:=List.getElem?_eq_getElem hlt
  obtain⟨o,hx'⟩:∃ o,l[k]=o:=⟨_,rfl⟩
  rw[hx'] at hx
  have HD:=hid (show l.drop k=o::l.drop (k+1) by rw[<-hx'];exact List.drop_eq_getElem_cons hlt)
  have HT:=hid (show l.take (k+1)=l.take k++[o] by rw[List.take_succ,hx];rfl)
  have okx:=HP.out o (List.mem_of_getElem? hx)
  obtain⟨hu1,hu2⟩:=dJ okx.uid
  obtain⟨hc0,hc1,hc2⟩:=je okx.cond okx.cv
  have hcv:=okx.cv
  have hbit:0<=En.bit o.del/\En.bit o.del<=1:=by cases o.del<;>simp[En.bit]
  have hcd:=okx.au
  have emk:=cd hbit.1 (by omega:En.bit o.del<=255)
  have hq1:QRd wr x r (nb (En.bit o.del)::(txt o.uid++((if o.del then [] else txt o.au)++nb o.ck::nb o.cv::(l.drop (k+1)).flatMap En.opB))):=hq.app (by rw[HD];simp[En.opB,En.iM])
  have HM:=hid (bP wr x r _ _ hq1 (by omega))
  rw[emk] at HM
  have d2:decide (En.bit o.del > 1)=false:=decide_eq_false (by omega)
  have hne:x≠r:=hq.ne
  have HQ:=hid hq
  clear hx hx' okx hq1 hq ho
  go_wp2_with fail
  refine HE.mono ?_
  rintro e w' ⟨rfl,rfl⟩
  go_wp2_with fail
  refine HM.mono ?_
  rintro e w3 ⟨rfl,q3,f3⟩
  have a1:=q3.box.cell 1
  have y1:=q3.box.frozen 1
  have q4:=hid (show QRd (w3.setCell ⟨x,1,none⟩ (.bool false)) x r (txt o.uid++((if o.del then [] else txt o.au)++nb o.ck::nb o.cv::(l.drop (k+1)).flatMap En.opB)) from ⟨by simpa using q3.box.set 1 (.bool false),cu.far q3.rd q3.box (by decide) (by decide) _ _⟩)
  have f4:Fr [r,x] wr (w3.setCell ⟨x,1,none⟩ (.bool false)):=f3.setCell (by simp) _
  clear c0 c1 z1 q3
  go_wp2_with fail
  refine(aN _ x r o.uid _ q4.out (by omega) (by omega)).mono ?_
  rintro e w5 ⟨rfl,q5,f5⟩
  have F5:=hid (f4.trans (f5.mono (T:=[r,x]) (by simp)))
  have Q5:=hid q5
  clear q4 q5 a1 y1 f4
  have hlx:x<w5.heap.size:=Nat.lt_of_lt_of_le hxl (Nat.le_trans hws F5.size)
  have hlr:r<w5.heap.size:=Nat.lt_of_lt_of_le hrl (Nat.le_trans hws F5.size)
  cases hd:o.del
  case' true =>
   have hbt:En.bit true=1:=rfl
   rw[hd] at hcd
   simp only[if_true] at hcd
   have HCD:=hid hcd
   clear hcd
   rw[hbt]
   go_wp2_with fail
   have b7:=hid (Holds.new w5 43 #[.bool true,.string o.uid,.string em,.int .i64 0,.int .i64 0])
   have Q7:=hid ((Q5.app (by rw[hd];rfl):QRd w5 x r (nb o.ck::nb o.cv::(l.drop (k+1)).flatMap En.opB)).fr (rZ.alloc (.cells #[.bool true,.string o.uid,.string em,.int .i64 0,.int .i64 0] 43)))
   have F7:=hid (F5.trans ((Fr.refl [r,x] w5).alloc (.cells #[.bool true,.string o.uid,.string em,.int .i64 0,.int .i64 0] 43)))
   have HOP:=hid (show (#[.bool true,.string o.uid,.string em,.int .i64 o.ck,.int .i64 o.cv]:Array Value)=(Lp.cs o).toArray by rw[Lp.cs,hd,HCD])
  case' false =>
   have hbt:En.bit false=0:=rfl
   rw[hd] at hcd
   simp only[Bool.false_eq_true,if_false] at hcd
   obtain⟨hk1',hk2'⟩:=dY hcd
   clear hcd
   rw[hbt]
   have Q6:=hid ((Q5.app (by rw[hd];simp):QRd w5 x r (txt o.au++(nb o.ck::nb o.cv::(l.drop (k+1)).flatMap En.opB))).fr (rZ.alloc (.cells #[.bool false,.string o.uid,.string em,.int .i64 0,.int .i64 0] 43)))
   go_wp2_with fail
   refine(aN _ x r o.au _ Q6.out (by omega) (by omega)).mono ?_
   rintro e w6 ⟨rfl,q6,f6⟩
   have b6:=(Holds.new w5 43 #[.bool false,.string o.uid,.string em,.int .i64 0,.int .i64 0]).fr f6 (by simp;omega)
   have F6:=hid ((F5.trans ((Fr.refl [r,x] w5).alloc (.cells #[.bool false,.string o.uid,.string em,.int .i64 0,.int .i64 0] 43))).trans (f6.mono (T:=[r,x]) (by simp)))
   have c2:=b6.cell 2
   have z2:=b6.frozen 2
   have B6:=hid b6
   have QQ:=hid q6
   simp at c2
   clear b6 q6 Q6
   go_wp2_with fail
   have b7:=hid (show Holds (w6.setCell ⟨w5.heap.size,2,none⟩ (.string o.au)) w5.heap.size 43 #[.bool false,.string o.uid,.string o.au,.int .i64 0,.int .i64 0] by simpa using B6.set 2 (.string o.au))
   have Q7:=hid (QQ.far B6 (by decide) (by decide) (by decide) 2 (.string o.au))
   have F7:=hid (Ev.Fr.aw (p:=⟨w5.heap.size,2,none⟩) F6 F5.size (.string o.au))
   have HOP:=hid (show (#[.bool false,.string o.uid,.string o.au,.int .i64 o.ck,.int .i64 o.cv]:Array Value)=(Lp.cs o).toArray by rw[Lp.cs,hd])
   clear c2 z2
  all_goals
   refine(iL _ x r o.ck o.cv _ Q7 hc0 hc1 hc2 hcv).mono ?_
   rintro e w8 ⟨rfl,q8,f8⟩
   have b8:=b7.fr f8 (by simp;omega)
   have F8:=hid (F7.trans f8)
   have a3:=b8.cell 3
   have a0:=b8.cell 0
   have a1:=b8.cell 1
   have a2:=b8.cell 2
   have a4:=b8.cell 4
   have y3:=b8.frozen 3
   have y4:=b8.frozen 4
   simp at a0 a1 a2 a3 a4
   have bl8:=b8.lt
   have b9:=(b8.set 3 (.int .i64 o.ck)).set 4 (.int .i64 o.cv)
   simp at b9
   rw[HOP] at b9
   have F9:=hid (Ev.Fr.aw (p:=⟨w5.heap.size,4,none⟩) (Ev.Fr.aw (p:=⟨w5.heap.size,3,none⟩) F8 F5.size (.int .i64 o.ck)) F5.size (.int .i64 o.cv))
   have Q9:=hid ((q8.far b8 (by decide) (by decide) (by decide) 3 (.int .i64 o.ck)).far (b8.set 3 _) (by decide) (by decide) (by decide) 4 (.int .i64 o.cv))
   have O9:=ER HQ HO F9
   have B9:=hid b9
   clear b8 b9 q8
   have hln:(l.take k).length=k:=by simp;omega
   go_wp2_with (at_builtin;(refine af rfl (.tmp 68) (.tmp 70) 35 rfl i5 _ 56 underlying35 hi hz0 hz1 hz2 rfl (by decide) _ _ rfl (Own.fr0 O9 (rZ.alloc _)).sl _ 1 1 _ rfl (by rfl) (Cells.bO (aE (by simp))) (by intro u hu;rw[HOP] at hu;exact Lp.cQ u (by simpa using hu)) (by unfold maxLen;omega) (by omega) ?_;intro v5 w10 own5 hs5 hf5 ho5 hm5))
   rw[HOP] at hf5 hs5 ho5
   obtain⟨oo,Q10,F10⟩:=ya HQ.out O9 Q9.out (fr.trans F9.out) hs5 hf5 ho5 (hm5 (by omega)) hln
   rw[<-HT] at oo
   have HOO:=hid oo
   have HQ10:=hid Q10
   clear hs5 hf5 ho5 hm5 oo Q10 O9
   go_wp2_with fail
   go_roundw
   case rel =>
    have e:(l.take (k+1)).length=(l.take k).length+1:=by simp only[List.length_take];omega
    exact⟨k+1,by go_num,by omega,by unfold Ev.bD;rw[e];exact HOO,HQ10,F10⟩
   simp[intOf];omega
 obtain rfl:k=l.length:=by omega
 have hk2:decide ((l.length:Int)<(l.length:Int))=false:=decide_eq_false (by omega)
 have HQ:=hid hq
 clear hq ho
 go_wp2_with fail
 go_ret
 exact⟨_,rfl,Own.down (by simpa using HO.out) hB,by simpa using HQ.out,fr⟩
open Go.RowKit Fm Pk
theorem np : 0 < (M.bs "ann").size /\ (M.bs "ann").size <= 247 := by decide +kernel
theorem bN:0<M.home.size/\M.home.size<=247:=by decide +kernel
theorem AR {o:M.Op}(h:kv o):(En.opB o).length<=110:=by
 have h1:=dJ h.uid
 have h2:(if o.del then ([]:List UInt8) else txt o.au).length<=81:=by
  cases hd:o.del with
  | true=>simp
  | false =>
   have:=h.au
   rw[hd] at this
   have:=dY this
   simp[txt]
   omega
 simp only[En.opB,En.iM,List.length_cons,List.length_append,List.length_nil]
 simp only[txt,List.length_cons] at h2 ⊢
 simp at h2 ⊢
 omega
theorem kG {l:List M.Op}(h:∀ o,o∈l->kv o):(l.flatMap En.opB).length<=110*l.length:=by
 induction l with
 | nil=>simp
 | cons o l ih =>
  have h1:=AR (h o (by simp))
  have h2:=ih λx hx=>h x (by simp[hx])
  simp only[List.flatMap_cons,List.length_append,List.length_cons]
  omega
structure Dc (w W:World)(gh gq x r:Nat)(fl cs:List Value)(rest:List UInt8):Prop where
 fr:Fr [] w W
 res:Holds W w.heap.size 37 (rqv 0 em em em em 0 0 (.slice none 0 0) 0 0 0).toArray
 hb:Holds W gh 220 fl.toArray
 qb:Holds W gq 37 cs.toArray
 rd:QRd W x r rest
 l1:w.heap.size<gq
 l2:w.heap.size<=r
 l3:w.heap.size<=x
section
variable {w W W':World} {gh gq x r:Nat} {fl cs:List Value} {rest rest':List UInt8}
theorem Dc.call (h:Dc w W gh gq x r fl cs rest)(hq:QRd W' x r rest')(hf:Fr [r,x] W W'):Dc w W' gh gq x r fl cs rest':=by
 have hn:∀ {g t:Nat} {c:Array Value},Holds W g t c->t≠284->t≠226->g∉[r,x]:=λhg h1 h2 hm=>by
  simp only[List.mem_cons,List.not_mem_nil,or_false] at hm
  rcases hm with rfl|rfl
  ·have:=cu.rlt h.rd.rd
   rw[hg.ty] at this
   exact h1 (Option.some.inj this)
  have:=h.rd.box.ty
  rw[hg.ty] at this
  exact h2 (Option.some.inj this)
 exact⟨h.fr.step hf (λy hy=>.inr (by
  simp only[List.mem_cons,List.not_mem_nil,or_false] at hy
  rcases hy with rfl|rfl
  ·exact h.l2
  exact h.l3)),h.res.fr hf (hn h.res (by decide) (by decide)),h.hb.fr hf (hn h.hb (by decide) (by decide)),h.qb.fr hf (hn h.qb (by decide) (by decide)),hq,h.l1,h.l2,h.l3⟩
theorem Dc.set (h:Dc w W gh gq x r fl cs rest)(i:Nat)(u:Value):Dc w (W.setCell ⟨gq,i,none⟩ u) gh gq x r fl (cs.set i u) rest :=
 ⟨Ev.Fr.aw h.fr (Nat.le_of_lt h.l1) u,h.res.far (Nat.ne_of_lt h.l1) _,h.hb.far (h.hb.ne h.qb (by decide)) _,by simpa using h.qb.set i u,h.rd.far h.qb (by decide) (by decide) (by decide) i u,h.l1,h.l2,h.l3⟩
theorem Dc.fr0 (h:Dc w W gh gq x r fl cs rest)(hf:Fr [] W W'):Dc w W' gh gq x r fl cs rest:=h.call (h.rd.fr hf) (hf.mono (by simp))
theorem Dc.ne1 (h:Dc w W gh gq x r fl cs rest):gh≠gq:=h.hb.ne h.qb (by decide)
theorem Dc.ne2 (h:Dc w W gh gq x r fl cs rest):x≠gq:=h.rd.box.ne h.qb (by decide)
theorem Dc.begin {w w1 w2:World}{r:Nat}{c0 fl cs:List Value}(h0:Holds w1 w.heap.size 37 c0.toArray)(hc0:c0=rqv 0 em em em em 0 0 (.slice none 0 0) 0 0 0)(f1:Fr [] w w1)(hr:cu w2 r rest)(hrl:(w1.alloc (.cells fl.toArray 220)).heap.size<=r)(f2:Fr [] (w1.alloc (.cells fl.toArray 220)) w2) :
  Dc w ((w2.alloc (.cells #[.pointer (some ⟨r,0,none⟩),.bool false] 226)).alloc (.cells cs.toArray 37)) w1.heap.size (w2.heap.size+1) w2.heap.size r fl cs rest:=by
 subst hc0
 have s1:=f1.size
 have s2:=f2.size
 have s0:=h0.lt
 simp only[World.size_alloc] at s2 hrl
 exact⟨((((f1.alloc _).trans f2).alloc _).alloc _),((((h0.alloc _).fr f2 (by simp)).alloc _).alloc _),((((Holds.new w1 _ _).fr f2 (by simp)).alloc _).alloc _),aE (by simp),⟨(Holds.new w2 _ _).alloc _,hr.fr ((rZ.alloc _).alloc _)⟩,by omega,by omega,by omega⟩
end
def pO (W:World)(g:Nat)(k:Int)(t c u d:ByteArray)(ck cv:Int)(v:Value)(tk ms tc:Int):World:=(((((((((((W.setCell ⟨g,0,none⟩ (.int .i64 k)).setCell ⟨g,1,none⟩ (.string t)).setCell ⟨g,2,none⟩ (.string c)).setCell ⟨g,3,none⟩ (.string u)).setCell ⟨g,4,none⟩ (.string d)).setCell ⟨g,5,none⟩ (.int .i64 ck)).setCell ⟨g,6,none⟩ (.int .i64 cv)).setCell ⟨g,7,none⟩ v).setCell ⟨g,8,none⟩ (.int .i64 tk)).setCell ⟨g,9,none⟩ (.int .i64 ms)).setCell ⟨g,10,none⟩ (.int .i64 tc))
theorem kb (W:World)(tmps:Array Value)(g:Nat)(k:Int)(t c u d:ByteArray)(ck cv:Int)(v:Value)(tk ms tc:Int)(hp:Holds W g 37 (rqv k t c u d ck cv v tk ms tc).toArray)(h4:tmps[4]?.getD undef = .pointer (some ⟨g,0,none⟩))(h5:tmps[5]?.getD undef = .int .i64 0) :
  (results f105 tmps).run prog W = .ok (.tuple #[.agg (rqv k t c u d ck cv v tk ms tc).toArray,.int .i64 0]) W:=by
 have hr:f105.results=#[.cell 4 37,.tmp 5]:=rfl
 obtain⟨q0,q1,q2,q3,q4,q5,q6,q7,q8,q9,q10⟩:=hp.dW
 simp at q0 q1 q2 q3 q4 q5 q6 q7 q8 q9 q10
 simp[results,h4,h5,go_sem,q0,q1,q2,q3,q4,q5,q6,q7,q8,q9,q10]
theorem jb {w W:World}{B gh gq x r:Nat}{fl cs:List Value}{rest:List UInt8}{tmps:Array Value}{k:Int}{t c u d:ByteArray}{ck cv:Int}{v:Value}{tk ms tc:Int}{l:List M.Op}(h:Dc w W gh gq x r fl cs rest)(hB:B<=w.heap.size)(ho:Ev.bD W B v l)
  (h4:tmps[4]?.getD undef = .pointer (some ⟨w.heap.size,0,none⟩)) (h5:tmps[5]?.getD undef = .int .i64 0) :
  bodyPost prog f105 (λe w'=>∃ vo,e = .returned (.tuple #[.agg (rqv k t c u d ck cv vo tk ms tc).toArray,.int .i64 0])/\Ev.bD w' B vo l/\Fr [] w w') Exit.ret ⟨tmps,[]⟩ (pO W w.heap.size k t c u d ck cv v tk ms tc):=by
 have hb:Holds (pO W w.heap.size k t c u d ck cv v tk ms tc) w.heap.size 37 (rqv k t c u d ck cv v tk ms tc).toArray:=by
  have:=(((((((((((h.res.set 0 (.int .i64 k)).set 1 (.string t)).set 2 (.string c)).set 3 (.string u)).set 4 (.string d)).set 5 (.int .i64 ck)).set 6 (.int .i64 cv)).set 7 v).set 8 (.int .i64 tk)).set 9 (.int .i64 ms)).set 10 (.int .i64 tc))
  simpa[pO] using this
 have hf:Fr [w.heap.size] W (pO W w.heap.size k t c u d ck cv v tk ms tc):=(((((((((((((Fr.refl [w.heap.size] W).setCell (p:=⟨w.heap.size,0,none⟩) (by simp) _).setCell (p:=⟨w.heap.size,1,none⟩) (by simp) _).setCell (p:=⟨w.heap.size,2,none⟩) (by simp) _).setCell (p:=⟨w.heap.size,3,none⟩) (by simp) _).setCell (p:=⟨w.heap.size,4,none⟩) (by simp) _).setCell (p:=⟨w.heap.size,5,none⟩) (by simp) _).setCell (p:=⟨w.heap.size,6,none⟩) (by simp) _).setCell (p:=⟨w.heap.size,7,none⟩) (by simp) _).setCell (p:=⟨w.heap.size,8,none⟩) (by simp) _).setCell (p:=⟨w.heap.size,9,none⟩) (by simp) _).setCell (p:=⟨w.heap.size,10,none⟩) (by simp) _))
 refine bodyPost_ret (kb _ _ w.heap.size k t c u d ck cv v tk ms tc hb h4 h5) rfl ⟨v,rfl,?_,h.fr.step hf (λy hy=>.inr (by simp at hy;omega))⟩
 exact ho.bf (FrX.aB (Ts:=[37]) hf (by simpa using hB) (λy hy=>⟨37,by simp,by simp at hy;subst hy;exact h.res.ty⟩)) (by decide)
theorem GK (w : World) (B : Nat) (v : Value)  (hb : BIn w v (txt (M.bs "ann") ++ [])) (hG : Sh.Gl w) (hB : B <= w.heap.size) :
  Calls prog 105 #[.int .i64 1, v] w λe w' => ∃ vo, e = .returned (.tuple #[.agg (rqv 1 (M.bs "ann") em em em 0 0 vo 0 0 0).toArray, .int .i64 0]) /\ Ev.bD w' B vo [] /\ Fr [] w w' := by
 have hs : Sh 1 (M.bs "ann") em em em 0 0 0 0 0 0 := .eh
 have HI:=hid (λW=>cz W 1 (bd hs).1 (bd hs).2)
 have HL:=hid (λW=>de W 1 (bd hs).1 (bd hs).2)
 have HSz := hid (show ((txt (M.bs "ann") ++ []) : List UInt8).length <= 100000 by have := np; simp[txt]; omega)
 have HR:=hid (λW (f:Fr [] w W)=>eS W v _ (hb.fr f) (HSz.out))
 simp only[flC,mG,Int.reduceEq,if_true,if_false,List.map] at HL
 have HS:=hid hs
 have HG:=hid hG
 clear hs hb hG
 go_enter func105,ntmps105
 go_wp2_with fail
 refine(HI _).mono ?_
 rintro e w0 ⟨rfl,rfl⟩
 go_wp2_with fail
 refine uu (HL _) λw1 f1=>?_
 have b1:=hid ((Holds.new w 37 (rqv 0 em em em em 0 0 (.slice none 0 0) 0 0 0).toArray).fr f1 (by simp))
 have F1:=hid (((Fr.refl [] w).alloc _).trans f1)
 clear f1
 go_wp2_with fail
 refine(HR _ (F1.alloc _)).mono ?_
 rintro e w2 ⟨r,rfl,rd2,hr2,f2⟩
 have D:=hid (Dc.begin (cs:=rqv 1 em em em em 0 0 (.slice none 0 0) 0 0 0) b1 rfl F1 rd2 hr2 f2)
 obtain⟨W3,hW3⟩:∃ W3,W3=(w2.alloc (.cells #[.pointer (some ⟨r,0,none⟩),.bool false] 226)).alloc (.cells (rqv 1 em em em em 0 0 (.slice none 0 0) 0 0 0).toArray 37):=⟨_,rfl⟩
 rw[<-hW3] at D
 have hb2:=hid ((Holds.new w1 220 _).fr f2 (by simp))
 have hx3:=D.ne2
 have hg3:=D.ne1
 clear rd2 hr2 f2
 have a0h0:=hb2.cell 0
 have hlt2:=hb2.lt
 simp at a0h0
 go_wp2_with fail
 rw[<-hW3]
 clear a0h0 hlt2
 refine (aN _ w2.heap.size r (M.bs "ann") _ D.rd np.2 np.1).mono ?_
 rintro e v0 ⟨rfl,q0,f0⟩
 have C0:=hid (D.call q0 (f0.mono (by simp)))
 clear q0 f0
 have b0h1:=C0.hb.cell 1
 have b0h2:=C0.hb.cell 2
 have b0h3:=C0.hb.cell 3
 have b0h4:=C0.hb.cell 4
 have b0h5:=C0.hb.cell 5
 have b0h6:=C0.hb.cell 6
 have b0h7:=C0.hb.cell 7
 have b0h8:=C0.hb.cell 8
 have b0y1:=C0.qb.cell 1
 have b0z1:=C0.qb.frozen 1
 have b0lt:=C0.qb.lt
 have b0x0:=C0.rd.box.cell 0
 have b0x1:=C0.rd.box.cell 1
 simp at b0h1 b0h2 b0h3 b0h4 b0h5 b0h6 b0h7 b0h8 b0y1 b0x0 b0x1
 go_wp2_with fail
 obtain ⟨X0, hX0⟩ : ∃ X, X = (v0.setCell ⟨w2.heap.size + 1, 1, none⟩ (.string (M.bs "ann"))) := ⟨_, rfl⟩
 have D0 := hid (C0.set 1 (.string (M.bs "ann")))
 rw[<-hX0] at D0 ⊢
 clear b0h1 b0h2 b0h3 b0h4 b0h5 b0h6 b0h7 b0h8 b0y1 b0z1 b0lt hX0 b0x0 b0x1
 have HErr:=hid (im X0 r [] D0.out.rd.rd)
 have HLeft:=hid (eV X0 r D0.out.rd.rd)
 have HCk := hid (λW (f : Fr [] X0 W) => dX W B 0 0 1 (M.bs "ann") em em em 0 0 0 0 0 none [] HS (Own.nil _ _ _ _) rfl (by simp) (HG.fr0 ((D0.out.fr).trans f)))
 simp only[rqv] at HCk
 refine HErr.mono ?_
 rintro e s1 ⟨rfl,rfl⟩
 have x0:=D0.out.rd.box.cell 0
 go_wp2_with fail
 refine HLeft.mono ?_
 rintro e s2 ⟨rfl,n2,hs2⟩
 have fs2:Fr [] X0 s2:=by rw[hs2];exact rZ.drewN _
 have E2:=hid (D0.out.fr0 fs2)
 obtain⟨y0,y1,y2,y3,y4,y5,y6,y7,y8,y9,y10⟩:=E2.qb.dW
 simp at y0 y1 y2 y3 y4 y5 y6 y7 y8 y9 y10
 have HCk2:=hid (HCk.out s2 fs2)
 clear hs2 x0
 go_wp2_with fail
 refine uu HCk2 λs3 f3=>?_
 have E3:=hid (E2.fr0 f3)
 clear f3 y0 y1 y2 y3 y4 y5 y6 y7 y8 y9 y10
 obtain⟨y0,y1,y2,y3,y4,y5,y6,y7,y8,y9,y10⟩:=E3.qb.dW
 obtain⟨r0,r1,r2,r3,r4,r5,r6,r7,r8,r9,r10⟩:=E3.res.dW
 obtain⟨g0,g1,g2,g3,g4,g5,g6,g7,g8,g9,g10⟩:=E3.res.uL
 have hrl:=E3.res.lt
 simp at y0 r0 g0 y1 r1 g1 y2 r2 g2 y3 r3 g3 y4 r4 g4 y5 r5 g5 y6 r6 g6 y7 r7 g7 y8 r8 g8 y9 r9 g9 y10 r10 g10
 go_wp2_with fail
 exact jb E3 hB (Own.nil _ _ _ _:Ev.bD _ B _ []) rfl rfl
theorem GJ (w:World)(B:Nat)(v:Value)  (hb:BIn w v (txt M.home++[]))(hG:Sh.Gl w)(hB:B<=w.heap.size) :
  Calls prog 105 #[.int .i64 2,v] w λe w'=>∃ vo,e = .returned (.tuple #[.agg (rqv 2 em M.home em em 0 0 vo 0 0 0).toArray,.int .i64 0])/\Ev.bD w' B vo []/\Fr [] w w':=by
 have hs:Sh 2 em M.home em em 0 0 0 0 0 0:=.create
 have HI:=hid (λW=>cz W 2 (bd hs).1 (bd hs).2)
 have HL:=hid (λW=>de W 2 (bd hs).1 (bd hs).2)
 have HSz:=hid (show ((txt M.home++[]):List UInt8).length<=100000 by have:=bN;simp[txt];omega)
 have HR:=hid (λW (f:Fr [] w W)=>eS W v _ (hb.fr f) (HSz.out))
 simp only[flC,mG,Int.reduceEq,if_true,if_false,List.map] at HL
 have HS:=hid hs
 have HG:=hid hG
 clear hs hb hG
 go_enter func105,ntmps105
 go_wp2_with fail
 refine(HI _).mono ?_
 rintro e w0 ⟨rfl,rfl⟩
 go_wp2_with fail
 refine uu (HL _) λw1 f1=>?_
 have b1:=hid ((Holds.new w 37 (rqv 0 em em em em 0 0 (.slice none 0 0) 0 0 0).toArray).fr f1 (by simp))
 have F1:=hid (((Fr.refl [] w).alloc _).trans f1)
 clear f1
 go_wp2_with fail
 refine(HR _ (F1.alloc _)).mono ?_
 rintro e w2 ⟨r,rfl,rd2,hr2,f2⟩
 have D:=hid (Dc.begin (cs:=rqv 2 em em em em 0 0 (.slice none 0 0) 0 0 0) b1 rfl F1 rd2 hr2 f2)
 obtain⟨W3,hW3⟩:∃ W3,W3=(w2.alloc (.cells #[.pointer (some ⟨r,0,none⟩),.bool false] 226)).alloc (.cells (rqv 2 em em em em 0 0 (.slice none 0 0) 0 0 0).toArray 37):=⟨_,rfl⟩
 rw[<-hW3] at D
 have hb2:=hid ((Holds.new w1 220 _).fr f2 (by simp))
 have hx3:=D.ne2
 have hg3:=D.ne1
 clear rd2 hr2 f2
 have a0h0:=hb2.cell 0
 have a0h1:=hb2.cell 1
 have hlt2:=hb2.lt
 simp at a0h0 a0h1
 go_wp2_with fail
 rw[<-hW3]
 clear a0h0 a0h1 hlt2
 refine(aN _ w2.heap.size r M.home _ D.rd bN.2 bN.1).mono ?_
 rintro e v0 ⟨rfl,q0,f0⟩
 have C0:=hid (D.call q0 (f0.mono (by simp)))
 clear q0 f0
 have b0h2:=C0.hb.cell 2
 have b0h3:=C0.hb.cell 3
 have b0h4:=C0.hb.cell 4
 have b0h5:=C0.hb.cell 5
 have b0h6:=C0.hb.cell 6
 have b0h7:=C0.hb.cell 7
 have b0h8:=C0.hb.cell 8
 have b0y2:=C0.qb.cell 2
 have b0z2:=C0.qb.frozen 2
 have b0lt:=C0.qb.lt
 have b0x0:=C0.rd.box.cell 0
 have b0x1:=C0.rd.box.cell 1
 simp at b0h2 b0h3 b0h4 b0h5 b0h6 b0h7 b0h8 b0y2 b0x0 b0x1
 go_wp2_with fail
 obtain⟨X0,hX0⟩:∃ X,X=(v0.setCell ⟨w2.heap.size+1,2,none⟩ (.string M.home)):=⟨_,rfl⟩
 have D0:=hid (C0.set 2 (.string M.home))
 rw[<-hX0] at D0 ⊢
 clear b0h2 b0h3 b0h4 b0h5 b0h6 b0h7 b0h8 b0y2 b0z2 b0lt hX0 b0x0 b0x1
 have HErr:=hid (im X0 r [] D0.out.rd.rd)
 have HLeft:=hid (eV X0 r D0.out.rd.rd)
 have HCk:=hid (λW (f:Fr [] X0 W)=>dX W B 0 0 2 em M.home em em 0 0 0 0 0 none [] HS (Own.nil _ _ _ _) rfl (by simp) (HG.fr0 ((D0.out.fr).trans f)))
 simp only[rqv] at HCk
 refine HErr.mono ?_
 rintro e s1 ⟨rfl,rfl⟩
 have x0:=D0.out.rd.box.cell 0
 go_wp2_with fail
 refine HLeft.mono ?_
 rintro e s2 ⟨rfl,n2,hs2⟩
 have fs2:Fr [] X0 s2:=by rw[hs2];exact rZ.drewN _
 have E2:=hid (D0.out.fr0 fs2)
 obtain⟨y0,y1,y2,y3,y4,y5,y6,y7,y8,y9,y10⟩:=E2.qb.dW
 simp at y0 y1 y2 y3 y4 y5 y6 y7 y8 y9 y10
 have HCk2:=hid (HCk.out s2 fs2)
 clear hs2 x0
 go_wp2_with fail
 refine uu HCk2 λs3 f3=>?_
 have E3:=hid (E2.fr0 f3)
 clear f3 y0 y1 y2 y3 y4 y5 y6 y7 y8 y9 y10
 obtain⟨y0,y1,y2,y3,y4,y5,y6,y7,y8,y9,y10⟩:=E3.qb.dW
 obtain⟨r0,r1,r2,r3,r4,r5,r6,r7,r8,r9,r10⟩:=E3.res.dW
 obtain⟨g0,g1,g2,g3,g4,g5,g6,g7,g8,g9,g10⟩:=E3.res.uL
 have hrl:=E3.res.lt
 simp at y0 r0 g0 y1 r1 g1 y2 r2 g2 y3 r3 g3 y4 r4 g4 y5 r5 g5 y6 r6 g6 y7 r7 g7 y8 r8 g8 y9 r9 g9 y10 r10 g10
 go_wp2_with fail
 exact jb E3 hB (Own.nil _ _ _ _:Ev.bD _ B _ []) rfl rfl
theorem GI (w:World)(B:Nat)(v:Value)(u c:ByteArray)(ck cv:Int)(hu:M.gB u=true)(hz:u.size<=4)(hc:j6 c)(hk:M.aY ck cv=true)(hv:cv<=247)(hb:BIn w v (txt M.home++(txt u++(txt c++(nb ck::nb cv::[])))))(hG:Sh.Gl w)(hB:B<=w.heap.size) :
  Calls prog 105 #[.int .i64 4,v] w λe w'=>∃ vo,e = .returned (.tuple #[.agg (rqv 4 em M.home u c ck cv vo 0 0 0).toArray,.int .i64 0])/\Ev.bD w' B vo []/\Fr [] w w':=by
 have hs:Sh 4 em M.home u c ck cv 0 0 0 0:=.put _ _ _ _ hu hz hc hk hv
 have HI:=hid (λW=>cz W 4 (bd hs).1 (bd hs).2)
 have HL:=hid (λW=>de W 4 (bd hs).1 (bd hs).2)
 have HSz:=hid (show ((txt M.home++(txt u++(txt c++(nb ck::nb cv::[])))):List UInt8).length<=100000 by have:=bN;have:=dJ hu;have:=dY hc;simp[txt];omega)
 have HR:=hid (λW (f:Fr [] w W)=>eS W v _ (hb.fr f) (HSz.out))
 simp only[flC,mG,Int.reduceEq,if_true,if_false,List.map] at HL
 have HS:=hid hs
 have hu':=dJ hu
 have hc':=dY hc
 obtain⟨k0,k1,k2⟩:=je hk hv
 have HU:=hid (And.intro hu (And.intro hc (And.intro hk hv)))
 clear hu hc hk
 have HG:=hid hG
 clear hs hb hG
 go_enter func105,ntmps105
 go_wp2_with fail
 refine(HI _).mono ?_
 rintro e w0 ⟨rfl,rfl⟩
 go_wp2_with fail
 refine uu (HL _) λw1 f1=>?_
 have b1:=hid ((Holds.new w 37 (rqv 0 em em em em 0 0 (.slice none 0 0) 0 0 0).toArray).fr f1 (by simp))
 have F1:=hid (((Fr.refl [] w).alloc _).trans f1)
 clear f1
 go_wp2_with fail
 refine(HR _ (F1.alloc _)).mono ?_
 rintro e w2 ⟨r,rfl,rd2,hr2,f2⟩
 have D:=hid (Dc.begin (cs:=rqv 4 em em em em 0 0 (.slice none 0 0) 0 0 0) b1 rfl F1 rd2 hr2 f2)
 obtain⟨W3,hW3⟩:∃ W3,W3=(w2.alloc (.cells #[.pointer (some ⟨r,0,none⟩),.bool false] 226)).alloc (.cells (rqv 4 em em em em 0 0 (.slice none 0 0) 0 0 0).toArray 37):=⟨_,rfl⟩
 rw[<-hW3] at D
 have hb2:=hid ((Holds.new w1 220 _).fr f2 (by simp))
 have hx3:=D.ne2
 have hg3:=D.ne1
 clear rd2 hr2 f2
 have a0h0:=hb2.cell 0
 have a0h1:=hb2.cell 1
 have hlt2:=hb2.lt
 simp at a0h0 a0h1
 go_wp2_with fail
 rw[<-hW3]
 clear a0h0 a0h1 hlt2
 refine(aN _ w2.heap.size r M.home _ D.rd bN.2 bN.1).mono ?_
 rintro e v0 ⟨rfl,q0,f0⟩
 have C0:=hid (D.call q0 (f0.mono (by simp)))
 clear q0 f0
 have b0h2:=C0.hb.cell 2
 have b0y2:=C0.qb.cell 2
 have b0z2:=C0.qb.frozen 2
 have b0lt:=C0.qb.lt
 simp at b0h2 b0y2
 go_wp2_with fail
 obtain⟨X0,hX0⟩:∃ X,X=(v0.setCell ⟨w2.heap.size+1,2,none⟩ (.string M.home)):=⟨_,rfl⟩
 have D0:=hid (C0.set 2 (.string M.home))
 rw[<-hX0] at D0 ⊢
 clear b0h2 b0y2 b0z2 b0lt hX0
 refine(aN _ w2.heap.size r u _ D0.out.rd (by omega) (by omega)).mono ?_
 rintro e v1 ⟨rfl,q1,f1⟩
 have C1:=hid (D0.out.call q1 (f1.mono (by simp)))
 clear q1 f1
 have b1h3:=C1.hb.cell 3
 have b1y3:=C1.qb.cell 3
 have b1z3:=C1.qb.frozen 3
 have b1lt:=C1.qb.lt
 simp at b1h3 b1y3
 go_wp2_with fail
 obtain⟨X1,hX1⟩:∃ X,X=(v1.setCell ⟨w2.heap.size+1,3,none⟩ (.string u)):=⟨_,rfl⟩
 have D1:=hid (C1.set 3 (.string u))
 rw[<-hX1] at D1 ⊢
 clear b1h3 b1y3 b1z3 b1lt hX1
 refine(aN _ w2.heap.size r c _ D1.rd (by omega) (by omega)).mono ?_
 rintro e v2 ⟨rfl,q2,f2⟩
 have C2:=hid (D1.call q2 (f2.mono (by simp)))
 clear q2 f2
 have b2h4:=C2.hb.cell 4
 have b2y4:=C2.qb.cell 4
 have b2z4:=C2.qb.frozen 4
 have b2lt:=C2.qb.lt
 simp at b2h4 b2y4
 go_wp2_with fail
 obtain⟨X2,hX2⟩:∃ X,X=(v2.setCell ⟨w2.heap.size+1,4,none⟩ (.string c)):=⟨_,rfl⟩
 have D2:=hid (C2.set 4 (.string c))
 rw[<-hX2] at D2 ⊢
 clear b2h4 b2y4 b2z4 b2lt hX2
 refine(iL _ w2.heap.size r ck cv _ D2.rd k0 k1 k2 hv).mono ?_
 rintro e v3 ⟨rfl,q3,f3⟩
 have C3:=hid (D2.call q3 f3)
 clear q3 f3
 have b3h5:=C3.hb.cell 5
 have b3h6:=C3.hb.cell 6
 have b3h7:=C3.hb.cell 7
 have b3h8:=C3.hb.cell 8
 have b3y5:=C3.qb.cell 5
 have b3y6:=C3.qb.cell 6
 have b3z5:=C3.qb.frozen 5
 have b3z6:=C3.qb.frozen 6
 have b3lt:=C3.qb.lt
 have b3x0:=C3.rd.box.cell 0
 have b3x1:=C3.rd.box.cell 1
 simp at b3h5 b3h6 b3h7 b3h8 b3y5 b3y6 b3x0 b3x1
 go_wp2_with fail
 obtain⟨X3,hX3⟩:∃ X,X=((v3.setCell ⟨w2.heap.size+1,5,none⟩ (.int .i64 ck)).setCell ⟨w2.heap.size+1,6,none⟩ (.int .i64 cv)):=⟨_,rfl⟩
 have D3:=hid ((C3.set 5 (.int .i64 ck)).set 6 (.int .i64 cv))
 rw[<-hX3] at D3 ⊢
 clear b3h5 b3h6 b3h7 b3h8 b3y5 b3z5 b3y6 b3z6 b3lt hX3 b3x0 b3x1
 have HErr:=hid (im X3 r [] D3.rd.rd)
 have HLeft:=hid (eV X3 r D3.rd.rd)
 have HCk:=hid (λW (f:Fr [] X3 W)=>dX W B 0 0 4 em M.home u c ck cv 0 0 0 none [] HS (Own.nil _ _ _ _) rfl (by simp) (HG.fr0 ((D3.fr).trans f)))
 simp only[rqv] at HCk
 refine HErr.mono ?_
 rintro e s1 ⟨rfl,rfl⟩
 have x0:=D3.rd.box.cell 0
 go_wp2_with fail
 refine HLeft.mono ?_
 rintro e s2 ⟨rfl,n2,hs2⟩
 have fs2:Fr [] X3 s2:=by rw[hs2];exact rZ.drewN _
 have E2:=hid (D3.fr0 fs2)
 obtain⟨y0,y1,y2,y3,y4,y5,y6,y7,y8,y9,y10⟩:=E2.qb.dW
 simp at y0 y1 y2 y3 y4 y5 y6 y7 y8 y9 y10
 have HCk2:=hid (HCk.out s2 fs2)
 clear hs2 x0
 go_wp2_with fail
 refine uu HCk2 λs3 f3=>?_
 have E3:=hid (E2.fr0 f3)
 clear f3 y0 y1 y2 y3 y4 y5 y6 y7 y8 y9 y10
 obtain⟨y0,y1,y2,y3,y4,y5,y6,y7,y8,y9,y10⟩:=E3.qb.dW
 obtain⟨r0,r1,r2,r3,r4,r5,r6,r7,r8,r9,r10⟩:=E3.res.dW
 obtain⟨g0,g1,g2,g3,g4,g5,g6,g7,g8,g9,g10⟩:=E3.res.uL
 have hrl:=E3.res.lt
 simp at y0 r0 g0 y1 r1 g1 y2 r2 g2 y3 r3 g3 y4 r4 g4 y5 r5 g5 y6 r6 g6 y7 r7 g7 y8 r8 g8 y9 r9 g9 y10 r10 g10
 go_wp2_with fail
 exact jb E3 hB (Own.nil _ _ _ _:Ev.bD _ B _ []) rfl rfl
theorem GH (w:World)(B:Nat)(v:Value)(u:ByteArray)(hu:M.gB u=true)(hb:BIn w v (txt M.home++(txt u++[])))(hG:Sh.Gl w)(hB:B<=w.heap.size) :
  Calls prog 105 #[.int .i64 6,v] w λe w'=>∃ vo,e = .returned (.tuple #[.agg (rqv 6 em M.home u em 0 0 vo 0 0 0).toArray,.int .i64 0])/\Ev.bD w' B vo []/\Fr [] w w':=by
 have hs:Sh 6 em M.home u em 0 0 0 0 0 0:=.get _ hu
 have HI:=hid (λW=>cz W 6 (bd hs).1 (bd hs).2)
 have HL:=hid (λW=>de W 6 (bd hs).1 (bd hs).2)
 have HSz:=hid (show ((txt M.home++(txt u++[])):List UInt8).length<=100000 by have:=bN;have:=dJ hu;simp[txt];omega)
 have HR:=hid (λW (f:Fr [] w W)=>eS W v _ (hb.fr f) (HSz.out))
 simp only[flC,mG,Int.reduceEq,if_true,if_false,List.map] at HL
 have HS:=hid hs
 have hu':=dJ hu
 clear hu
 have HG:=hid hG
 clear hs hb hG
 go_enter func105,ntmps105
 go_wp2_with fail
 refine(HI _).mono ?_
 rintro e w0 ⟨rfl,rfl⟩
 go_wp2_with fail
 refine uu (HL _) λw1 f1=>?_
 have b1:=hid ((Holds.new w 37 (rqv 0 em em em em 0 0 (.slice none 0 0) 0 0 0).toArray).fr f1 (by simp))
 have F1:=hid (((Fr.refl [] w).alloc _).trans f1)
 clear f1
 go_wp2_with fail
 refine(HR _ (F1.alloc _)).mono ?_
 rintro e w2 ⟨r,rfl,rd2,hr2,f2⟩
 have D:=hid (Dc.begin (cs:=rqv 6 em em em em 0 0 (.slice none 0 0) 0 0 0) b1 rfl F1 rd2 hr2 f2)
 obtain⟨W3,hW3⟩:∃ W3,W3=(w2.alloc (.cells #[.pointer (some ⟨r,0,none⟩),.bool false] 226)).alloc (.cells (rqv 6 em em em em 0 0 (.slice none 0 0) 0 0 0).toArray 37):=⟨_,rfl⟩
 rw[<-hW3] at D
 have hb2:=hid ((Holds.new w1 220 _).fr f2 (by simp))
 have hx3:=D.ne2
 have hg3:=D.ne1
 clear rd2 hr2 f2
 have a0h0:=hb2.cell 0
 have a0h1:=hb2.cell 1
 have hlt2:=hb2.lt
 simp at a0h0 a0h1
 go_wp2_with fail
 rw[<-hW3]
 clear a0h0 a0h1 hlt2
 refine(aN _ w2.heap.size r M.home _ D.rd bN.2 bN.1).mono ?_
 rintro e v0 ⟨rfl,q0,f0⟩
 have C0:=hid (D.call q0 (f0.mono (by simp)))
 clear q0 f0
 have b0h2:=C0.hb.cell 2
 have b0y2:=C0.qb.cell 2
 have b0z2:=C0.qb.frozen 2
 have b0lt:=C0.qb.lt
 simp at b0h2 b0y2
 go_wp2_with fail
 obtain⟨X0,hX0⟩:∃ X,X=(v0.setCell ⟨w2.heap.size+1,2,none⟩ (.string M.home)):=⟨_,rfl⟩
 have D0:=hid (C0.set 2 (.string M.home))
 rw[<-hX0] at D0 ⊢
 clear b0h2 b0y2 b0z2 b0lt hX0
 refine(aN _ w2.heap.size r u _ D0.out.rd (by omega) (by omega)).mono ?_
 rintro e v1 ⟨rfl,q1,f1⟩
 have C1:=hid (D0.out.call q1 (f1.mono (by simp)))
 clear q1 f1
 have b1h3:=C1.hb.cell 3
 have b1h4:=C1.hb.cell 4
 have b1h5:=C1.hb.cell 5
 have b1h6:=C1.hb.cell 6
 have b1h7:=C1.hb.cell 7
 have b1h8:=C1.hb.cell 8
 have b1y3:=C1.qb.cell 3
 have b1z3:=C1.qb.frozen 3
 have b1lt:=C1.qb.lt
 have b1x0:=C1.rd.box.cell 0
 have b1x1:=C1.rd.box.cell 1
 simp at b1h3 b1h4 b1h5 b1h6 b1h7 b1h8 b1y3 b1x0 b1x1
 go_wp2_with fail
 obtain⟨X1,hX1⟩:∃ X,X=(v1.setCell ⟨w2.heap.size+1,3,none⟩ (.string u)):=⟨_,rfl⟩
 have D1:=hid (C1.set 3 (.string u))
 rw[<-hX1] at D1 ⊢
 clear b1h3 b1h4 b1h5 b1h6 b1h7 b1h8 b1y3 b1z3 b1lt hX1 b1x0 b1x1
 have HErr:=hid (im X1 r [] D1.rd.rd)
 have HLeft:=hid (eV X1 r D1.rd.rd)
 have HCk:=hid (λW (f:Fr [] X1 W)=>dX W B 0 0 6 em M.home u em 0 0 0 0 0 none [] HS (Own.nil _ _ _ _) rfl (by simp) (HG.fr0 ((D1.fr).trans f)))
 simp only[rqv] at HCk
 refine HErr.mono ?_
 rintro e s1 ⟨rfl,rfl⟩
 have x0:=D1.rd.box.cell 0
 go_wp2_with fail
 refine HLeft.mono ?_
 rintro e s2 ⟨rfl,n2,hs2⟩
 have fs2:Fr [] X1 s2:=by rw[hs2];exact rZ.drewN _
 have E2:=hid (D1.fr0 fs2)
 obtain⟨y0,y1,y2,y3,y4,y5,y6,y7,y8,y9,y10⟩:=E2.qb.dW
 simp at y0 y1 y2 y3 y4 y5 y6 y7 y8 y9 y10
 have HCk2:=hid (HCk.out s2 fs2)
 clear hs2 x0
 go_wp2_with fail
 refine uu HCk2 λs3 f3=>?_
 have E3:=hid (E2.fr0 f3)
 clear f3 y0 y1 y2 y3 y4 y5 y6 y7 y8 y9 y10
 obtain⟨y0,y1,y2,y3,y4,y5,y6,y7,y8,y9,y10⟩:=E3.qb.dW
 obtain⟨r0,r1,r2,r3,r4,r5,r6,r7,r8,r9,r10⟩:=E3.res.dW
 obtain⟨g0,g1,g2,g3,g4,g5,g6,g7,g8,g9,g10⟩:=E3.res.uL
 have hrl:=E3.res.lt
 simp at y0 r0 g0 y1 r1 g1 y2 r2 g2 y3 r3 g3 y4 r4 g4 y5 r5 g5 y6 r6 g6 y7 r7 g7 y8 r8 g8 y9 r9 g9 y10 r10 g10
 go_wp2_with fail
 exact jb E3 hB (Own.nil _ _ _ _:Ev.bD _ B _ []) rfl rfl
theorem GG (w:World)(B:Nat)(v:Value)(l:List M.Op)(h1:1<=l.length)(h2:l.length<=2)(hop:∀ o,o∈l->kv o)(hb:BIn w v (txt M.home++(nb l.length::l.flatMap En.opB)))(hG:Sh.Gl w)(hB:B<=w.heap.size) :
  Calls prog 105 #[.int .i64 7,v] w λe w'=>∃ vo,e = .returned (.tuple #[.agg (rqv 7 em M.home em em 0 0 vo 0 0 0).toArray,.int .i64 0])/\Ev.bD w' B vo l/\Fr [] w w':=by
 have hs:Sh 7 em M.home em em 0 0 l.length 0 0 0:=.batch _ h1 h2
 have HI:=hid (λW=>cz W 7 (bd hs).1 (bd hs).2)
 have HL:=hid (λW=>de W 7 (bd hs).1 (bd hs).2)
 have HSz:=hid (show ((txt M.home++(nb l.length::l.flatMap En.opB)):List UInt8).length<=100000 by have:=bN;have:=kG hop;have e:(txt M.home).length=M.home.size+1:=(by simp[txt]);rw[List.length_append,List.length_cons,e];omega)
 have HR:=hid (λW (f:Fr [] w W)=>eS W v _ (hb.fr f) (HSz.out))
 simp only[flC,mG,Int.reduceEq,if_true,if_false,List.map] at HL
 have HS:=hid hs
 have HO:=hid hop
 clear hop
 have HG:=hid hG
 clear hs hb hG
 go_enter func105,ntmps105
 go_wp2_with fail
 refine(HI _).mono ?_
 rintro e w0 ⟨rfl,rfl⟩
 go_wp2_with fail
 refine uu (HL _) λw1 f1=>?_
 have b1:=hid ((Holds.new w 37 (rqv 0 em em em em 0 0 (.slice none 0 0) 0 0 0).toArray).fr f1 (by simp))
 have F1:=hid (((Fr.refl [] w).alloc _).trans f1)
 clear f1
 go_wp2_with fail
 refine(HR _ (F1.alloc _)).mono ?_
 rintro e w2 ⟨r,rfl,rd2,hr2,f2⟩
 have D:=hid (Dc.begin (cs:=rqv 7 em em em em 0 0 (.slice none 0 0) 0 0 0) b1 rfl F1 rd2 hr2 f2)
 obtain⟨W3,hW3⟩:∃ W3,W3=(w2.alloc (.cells #[.pointer (some ⟨r,0,none⟩),.bool false] 226)).alloc (.cells (rqv 7 em em em em 0 0 (.slice none 0 0) 0 0 0).toArray 37):=⟨_,rfl⟩
 rw[<-hW3] at D
 have hb2:=hid ((Holds.new w1 220 _).fr f2 (by simp))
 have hx3:=D.ne2
 have hg3:=D.ne1
 clear rd2 hr2 f2
 have a0h0:=hb2.cell 0
 have a0h1:=hb2.cell 1
 have hlt2:=hb2.lt
 simp at a0h0 a0h1
 go_wp2_with fail
 rw[<-hW3]
 clear a0h0 a0h1 hlt2
 refine(aN _ w2.heap.size r M.home _ D.rd bN.2 bN.1).mono ?_
 rintro e v0 ⟨rfl,q0,f0⟩
 have C0:=hid (D.call q0 (f0.mono (by simp)))
 clear q0 f0
 have b0h2:=C0.hb.cell 2
 have b0h3:=C0.hb.cell 3
 have b0h4:=C0.hb.cell 4
 have b0h5:=C0.hb.cell 5
 have b0y2:=C0.qb.cell 2
 have b0z2:=C0.qb.frozen 2
 have b0lt:=C0.qb.lt
 simp at b0h2 b0h3 b0h4 b0h5 b0y2
 go_wp2_with fail
 obtain⟨X0,hX0⟩:∃ X,X=(v0.setCell ⟨w2.heap.size+1,2,none⟩ (.string M.home)):=⟨_,rfl⟩
 have D0:=hid (C0.set 2 (.string M.home))
 rw[<-hX0] at D0 ⊢
 clear b0h2 b0h3 b0h4 b0h5 b0y2 b0z2 b0lt hX0
 refine(Dh _ B w2.heap.size r l D0.out.rd (Nat.le_trans hB D0.out.fr.size) ⟨Nat.le_trans hB D0.out.l3,Nat.le_trans hB D0.out.l2⟩ HO.out (by omega)).mono ?_
 rintro e v1 ⟨vo,rfl,ho,q1,f1⟩
 obtain⟨oa,oc,rfl⟩:=Own.form ho
 have HOps:=hid ho
 clear ho
 have C1:=hid (D0.out.call q1 f1)
 clear q1 f1
 have b1h6:=C1.hb.cell 6
 have b1h7:=C1.hb.cell 7
 have b1h8:=C1.hb.cell 8
 have b1y7:=C1.qb.cell 7
 have b1z7:=C1.qb.frozen 7
 have b1lt:=C1.qb.lt
 have b1x0:=C1.rd.box.cell 0
 have b1x1:=C1.rd.box.cell 1
 simp at b1h6 b1h7 b1h8 b1y7 b1x0 b1x1
 go_wp2_with fail
 obtain⟨X1,hX1⟩:∃ X,X=(v1.setCell ⟨w2.heap.size+1,7,none⟩ (.slice oa l.length oc)):=⟨_,rfl⟩
 have D1:=hid (C1.set 7 (.slice oa l.length oc))
 rw[<-hX1] at D1 ⊢
 have HO7:=hid (show Ev.bD X1 B (.slice oa l.length oc) l by rw[hX1];exact HOps.bf (FrX.aB (Ts:=[37]) ((Fr.refl [w2.heap.size+1] _).setCell (by simp) _) (by have:=C1.l1;simp;omega) (λy hy=>⟨37,by simp,by simp at hy;subst hy;exact C1.qb.ty⟩)) (by decide))
 clear b1h6 b1h7 b1h8 b1y7 b1z7 b1lt hX1 b1x0 b1x1
 have HErr:=hid (im X1 r [] D1.rd.rd)
 have HLeft:=hid (eV X1 r D1.rd.rd)
 have HCk:=hid (λW (f:Fr [] X1 W)=>dX W B l.length oc 7 em M.home em em 0 0 0 0 0 oa l HS (Own.fr0 HO7 f) rfl HO (HG.fr0 ((D1.fr).trans f)))
 simp only[rqv] at HCk
 refine HErr.mono ?_
 rintro e s1 ⟨rfl,rfl⟩
 have x0:=D1.rd.box.cell 0
 go_wp2_with fail
 refine HLeft.mono ?_
 rintro e s2 ⟨rfl,n2,hs2⟩
 have fs2:Fr [] X1 s2:=by rw[hs2];exact rZ.drewN _
 have E2:=hid (D1.fr0 fs2)
 obtain⟨y0,y1,y2,y3,y4,y5,y6,y7,y8,y9,y10⟩:=E2.qb.dW
 simp at y0 y1 y2 y3 y4 y5 y6 y7 y8 y9 y10
 have HCk2:=hid (HCk.out s2 fs2)
 have HO8:=hid (Own.fr0 HO7 fs2)
 clear hs2 x0
 go_wp2_with fail
 refine uu HCk2 λs3 f3=>?_
 have E3:=hid (E2.fr0 f3)
 have HO9:=hid (Own.fr0 HO8 f3)
 clear f3 y0 y1 y2 y3 y4 y5 y6 y7 y8 y9 y10
 obtain⟨y0,y1,y2,y3,y4,y5,y6,y7,y8,y9,y10⟩:=E3.qb.dW
 obtain⟨r0,r1,r2,r3,r4,r5,r6,r7,r8,r9,r10⟩:=E3.res.dW
 obtain⟨g0,g1,g2,g3,g4,g5,g6,g7,g8,g9,g10⟩:=E3.res.uL
 have hrl:=E3.res.lt
 simp at y0 r0 g0 y1 r1 g1 y2 r2 g2 y3 r3 g3 y4 r4 g4 y5 r5 g5 y6 r6 g6 y7 r7 g7 y8 r8 g8 y9 r9 g9 y10 r10 g10
 go_wp2_with fail
 exact jb E3 hB HO9 rfl rfl
theorem GF (w:World)(B:Nat)(v:Value)(tk ms:Int)(h1:0<=tk)(h2:tk<=1099511627791)(h3:1<=ms)(h4:ms<=247)(hb:BIn w v (txt M.home++(ed tk++(nb ms::[]))))(hG:Sh.Gl w)(hB:B<=w.heap.size) :
  Calls prog 105 #[.int .i64 8,v] w λe w'=>∃ vo,e = .returned (.tuple #[.agg (rqv 8 em M.home em em 0 0 vo tk ms 0).toArray,.int .i64 0])/\Ev.bD w' B vo []/\Fr [] w w':=by
 have hs:Sh 8 em M.home em em 0 0 0 tk ms 0:=.delta _ _ h1 h2 h3 h4
 have HI:=hid (λW=>cz W 8 (bd hs).1 (bd hs).2)
 have HL:=hid (λW=>de W 8 (bd hs).1 (bd hs).2)
 have HSz:=hid (show ((txt M.home++(ed tk++(nb ms::[]))):List UInt8).length<=100000 by have:=bN;have:=cH tk;simp[txt];omega)
 have HR:=hid (λW (f:Fr [] w W)=>eS W v _ (hb.fr f) (HSz.out))
 simp only[flC,mG,Int.reduceEq,if_true,if_false,List.map] at HL
 have HS:=hid hs
 have HG:=hid hG
 clear hs hb hG
 go_enter func105,ntmps105
 go_wp2_with fail
 refine(HI _).mono ?_
 rintro e w0 ⟨rfl,rfl⟩
 go_wp2_with fail
 refine uu (HL _) λw1 f1=>?_
 have b1:=hid ((Holds.new w 37 (rqv 0 em em em em 0 0 (.slice none 0 0) 0 0 0).toArray).fr f1 (by simp))
 have F1:=hid (((Fr.refl [] w).alloc _).trans f1)
 clear f1
 go_wp2_with fail
 refine(HR _ (F1.alloc _)).mono ?_
 rintro e w2 ⟨r,rfl,rd2,hr2,f2⟩
 have D:=hid (Dc.begin (cs:=rqv 8 em em em em 0 0 (.slice none 0 0) 0 0 0) b1 rfl F1 rd2 hr2 f2)
 obtain⟨W3,hW3⟩:∃ W3,W3=(w2.alloc (.cells #[.pointer (some ⟨r,0,none⟩),.bool false] 226)).alloc (.cells (rqv 8 em em em em 0 0 (.slice none 0 0) 0 0 0).toArray 37):=⟨_,rfl⟩
 rw[<-hW3] at D
 have hb2:=hid ((Holds.new w1 220 _).fr f2 (by simp))
 have hx3:=D.ne2
 have hg3:=D.ne1
 clear rd2 hr2 f2
 have a0h0:=hb2.cell 0
 have a0h1:=hb2.cell 1
 have hlt2:=hb2.lt
 simp at a0h0 a0h1
 go_wp2_with fail
 rw[<-hW3]
 clear a0h0 a0h1 hlt2
 refine(aN _ w2.heap.size r M.home _ D.rd bN.2 bN.1).mono ?_
 rintro e v0 ⟨rfl,q0,f0⟩
 have C0:=hid (D.call q0 (f0.mono (by simp)))
 clear q0 f0
 have b0h2:=C0.hb.cell 2
 have b0h3:=C0.hb.cell 3
 have b0h4:=C0.hb.cell 4
 have b0h5:=C0.hb.cell 5
 have b0h6:=C0.hb.cell 6
 have b0y2:=C0.qb.cell 2
 have b0z2:=C0.qb.frozen 2
 have b0lt:=C0.qb.lt
 have b0x0:=C0.rd.box.cell 0
 have b0x1:=C0.rd.box.cell 1
 simp at b0h2 b0h3 b0h4 b0h5 b0h6 b0y2 b0x0 b0x1
 go_wp2_with fail
 obtain⟨X0,hX0⟩:∃ X,X=(v0.setCell ⟨w2.heap.size+1,2,none⟩ (.string M.home)):=⟨_,rfl⟩
 have D0:=hid (C0.set 2 (.string M.home))
 rw[<-hX0] at D0 ⊢
 clear b0h2 b0h3 b0h4 b0h5 b0h6 b0y2 b0z2 b0lt hX0 b0x0 b0x1
 have HP:=hid (oR _ w2.heap.size r tk _ D0.out.rd h1 (by omega))
 refine HP.mono ?_
 rintro e v1 ⟨rfl,q1,f1⟩
 have C1:=hid (D0.out.call q1 (f1.mono (by simp)))
 clear q1 f1
 have b1h7:=C1.hb.cell 7
 have b1y8:=C1.qb.cell 8
 have b1z8:=C1.qb.frozen 8
 have b1lt:=C1.qb.lt
 simp at b1h7 b1y8
 go_wp2_with fail
 obtain⟨X1,hX1⟩:∃ X,X=(v1.setCell ⟨w2.heap.size+1,8,none⟩ (.int .i64 tk)):=⟨_,rfl⟩
 have D1:=hid (C1.set 8 (.int .i64 tk))
 rw[<-hX1] at D1 ⊢
 clear b1h7 b1y8 b1z8 b1lt hX1
 have HP:=hid (bP _ w2.heap.size r (nb ms) _ D1.rd (by have:=cd (n:=ms) (by omega) (by omega);omega))
 rw[cd (n:=ms) (by omega) (by omega)] at HP
 refine HP.mono ?_
 rintro e v2 ⟨rfl,q2,f2⟩
 have C2:=hid (D1.call q2 f2)
 clear q2 f2
 have b2h8:=C2.hb.cell 8
 have b2y9:=C2.qb.cell 9
 have b2z9:=C2.qb.frozen 9
 have b2lt:=C2.qb.lt
 have b2x0:=C2.rd.box.cell 0
 have b2x1:=C2.rd.box.cell 1
 simp at b2h8 b2y9 b2x0 b2x1
 go_wp2_with fail
 obtain⟨X2,hX2⟩:∃ X,X=(v2.setCell ⟨w2.heap.size+1,9,none⟩ (.int .i64 ms)):=⟨_,rfl⟩
 have D2:=hid (C2.set 9 (.int .i64 ms))
 rw[<-hX2] at D2 ⊢
 clear b2h8 b2y9 b2z9 b2lt hX2 b2x0 b2x1
 have HErr:=hid (im X2 r [] D2.rd.rd)
 have HLeft:=hid (eV X2 r D2.rd.rd)
 have HCk:=hid (λW (f:Fr [] X2 W)=>dX W B 0 0 8 em M.home em em 0 0 tk ms 0 none [] HS (Own.nil _ _ _ _) rfl (by simp) (HG.fr0 ((D2.fr).trans f)))
 simp only[rqv] at HCk
 refine HErr.mono ?_
 rintro e s1 ⟨rfl,rfl⟩
 have x0:=D2.rd.box.cell 0
 go_wp2_with fail
 refine HLeft.mono ?_
 rintro e s2 ⟨rfl,n2,hs2⟩
 have fs2:Fr [] X2 s2:=by rw[hs2];exact rZ.drewN _
 have E2:=hid (D2.fr0 fs2)
 obtain⟨y0,y1,y2,y3,y4,y5,y6,y7,y8,y9,y10⟩:=E2.qb.dW
 simp at y0 y1 y2 y3 y4 y5 y6 y7 y8 y9 y10
 have HCk2:=hid (HCk.out s2 fs2)
 clear hs2 x0
 go_wp2_with fail
 refine uu HCk2 λs3 f3=>?_
 have E3:=hid (E2.fr0 f3)
 clear f3 y0 y1 y2 y3 y4 y5 y6 y7 y8 y9 y10
 obtain⟨y0,y1,y2,y3,y4,y5,y6,y7,y8,y9,y10⟩:=E3.qb.dW
 obtain⟨r0,r1,r2,r3,r4,r5,r6,r7,r8,r9,r10⟩:=E3.res.dW
 obtain⟨g0,g1,g2,g3,g4,g5,g6,g7,g8,g9,g10⟩:=E3.res.uL
 have hrl:=E3.res.lt
 simp at y0 r0 g0 y1 r1 g1 y2 r2 g2 y3 r3 g3 y4 r4 g4 y5 r5 g5 y6 r6 g6 y7 r7 g7 y8 r8 g8 y9 r9 g9 y10 r10 g10
 go_wp2_with fail
 exact jb E3 hB (Own.nil _ _ _ _:Ev.bD _ B _ []) rfl rfl
theorem GD (w:World)(B:Nat)(v:Value)(tk tc:Int)(h1:0<=tk)(h2:tk<=247)(h3:0<=tc)(h4:tc<=247)(hb:BIn w v (txt M.home++(ed tk++(nb tc::[]))))(hG:Sh.Gl w)(hB:B<=w.heap.size) :
  Calls prog 105 #[.int .i64 9,v] w λe w'=>∃ vo,e = .returned (.tuple #[.agg (rqv 9 em M.home em em 0 0 vo tk 0 tc).toArray,.int .i64 0])/\Ev.bD w' B vo []/\Fr [] w w':=by
 have hs:Sh 9 em M.home em em 0 0 0 tk 0 tc:=.wait _ _ h1 h2 h3 h4
 have HI:=hid (λW=>cz W 9 (bd hs).1 (bd hs).2)
 have HL:=hid (λW=>de W 9 (bd hs).1 (bd hs).2)
 have HSz:=hid (show ((txt M.home++(ed tk++(nb tc::[]))):List UInt8).length<=100000 by have:=bN;have:=cH tk;simp[txt];omega)
 have HR:=hid (λW (f:Fr [] w W)=>eS W v _ (hb.fr f) (HSz.out))
 simp only[flC,mG,Int.reduceEq,if_true,if_false,List.map] at HL
 have HS:=hid hs
 have HG:=hid hG
 clear hs hb hG
 go_enter func105,ntmps105
 go_wp2_with fail
 refine(HI _).mono ?_
 rintro e w0 ⟨rfl,rfl⟩
 go_wp2_with fail
 refine uu (HL _) λw1 f1=>?_
 have b1:=hid ((Holds.new w 37 (rqv 0 em em em em 0 0 (.slice none 0 0) 0 0 0).toArray).fr f1 (by simp))
 have F1:=hid (((Fr.refl [] w).alloc _).trans f1)
 clear f1
 go_wp2_with fail
 refine(HR _ (F1.alloc _)).mono ?_
 rintro e w2 ⟨r,rfl,rd2,hr2,f2⟩
 have D:=hid (Dc.begin (cs:=rqv 9 em em em em 0 0 (.slice none 0 0) 0 0 0) b1 rfl F1 rd2 hr2 f2)
 obtain⟨W3,hW3⟩:∃ W3,W3=(w2.alloc (.cells #[.pointer (some ⟨r,0,none⟩),.bool false] 226)).alloc (.cells (rqv 9 em em em em 0 0 (.slice none 0 0) 0 0 0).toArray 37):=⟨_,rfl⟩
 rw[<-hW3] at D
 have hb2:=hid ((Holds.new w1 220 _).fr f2 (by simp))
 have hx3:=D.ne2
 have hg3:=D.ne1
 clear rd2 hr2 f2
 have a0h0:=hb2.cell 0
 have a0h1:=hb2.cell 1
 have hlt2:=hb2.lt
 simp at a0h0 a0h1
 go_wp2_with fail
 rw[<-hW3]
 clear a0h0 a0h1 hlt2
 refine(aN _ w2.heap.size r M.home _ D.rd bN.2 bN.1).mono ?_
 rintro e v0 ⟨rfl,q0,f0⟩
 have C0:=hid (D.call q0 (f0.mono (by simp)))
 clear q0 f0
 have b0h2:=C0.hb.cell 2
 have b0h3:=C0.hb.cell 3
 have b0h4:=C0.hb.cell 4
 have b0h5:=C0.hb.cell 5
 have b0h6:=C0.hb.cell 6
 have b0y2:=C0.qb.cell 2
 have b0z2:=C0.qb.frozen 2
 have b0lt:=C0.qb.lt
 have b0x0:=C0.rd.box.cell 0
 have b0x1:=C0.rd.box.cell 1
 simp at b0h2 b0h3 b0h4 b0h5 b0h6 b0y2 b0x0 b0x1
 go_wp2_with fail
 obtain⟨X0,hX0⟩:∃ X,X=(v0.setCell ⟨w2.heap.size+1,2,none⟩ (.string M.home)):=⟨_,rfl⟩
 have D0:=hid (C0.set 2 (.string M.home))
 rw[<-hX0] at D0 ⊢
 clear b0h2 b0h3 b0h4 b0h5 b0h6 b0y2 b0z2 b0lt hX0 b0x0 b0x1
 have HP:=hid (oR _ w2.heap.size r tk _ D0.out.rd h1 (by omega))
 refine HP.mono ?_
 rintro e v1 ⟨rfl,q1,f1⟩
 have C1:=hid (D0.out.call q1 (f1.mono (by simp)))
 clear q1 f1
 have b1h7:=C1.hb.cell 7
 have b1h8:=C1.hb.cell 8
 have b1y8:=C1.qb.cell 8
 have b1z8:=C1.qb.frozen 8
 have b1lt:=C1.qb.lt
 simp at b1h7 b1h8 b1y8
 go_wp2_with fail
 obtain⟨X1,hX1⟩:∃ X,X=(v1.setCell ⟨w2.heap.size+1,8,none⟩ (.int .i64 tk)):=⟨_,rfl⟩
 have D1:=hid (C1.set 8 (.int .i64 tk))
 rw[<-hX1] at D1 ⊢
 clear b1h7 b1h8 b1y8 b1z8 b1lt hX1
 have HP:=hid (bP _ w2.heap.size r (nb tc) _ D1.rd (by have:=cd (n:=tc) (by omega) (by omega);omega))
 rw[cd (n:=tc) (by omega) (by omega)] at HP
 refine HP.mono ?_
 rintro e v2 ⟨rfl,q2,f2⟩
 have C2:=hid (D1.call q2 f2)
 clear q2 f2
 have b2y10:=C2.qb.cell 10
 have b2z10:=C2.qb.frozen 10
 have b2lt:=C2.qb.lt
 have b2x0:=C2.rd.box.cell 0
 have b2x1:=C2.rd.box.cell 1
 simp at b2y10 b2x0 b2x1
 go_wp2_with fail
 obtain⟨X2,hX2⟩:∃ X,X=(v2.setCell ⟨w2.heap.size+1,10,none⟩ (.int .i64 tc)):=⟨_,rfl⟩
 have D2:=hid (C2.set 10 (.int .i64 tc))
 rw[<-hX2] at D2 ⊢
 clear b2y10 b2z10 b2lt hX2 b2x0 b2x1
 have HErr:=hid (im X2 r [] D2.rd.rd)
 have HLeft:=hid (eV X2 r D2.rd.rd)
 have HCk:=hid (λW (f:Fr [] X2 W)=>dX W B 0 0 9 em M.home em em 0 0 tk 0 tc none [] HS (Own.nil _ _ _ _) rfl (by simp) (HG.fr0 ((D2.fr).trans f)))
 simp only[rqv] at HCk
 refine HErr.mono ?_
 rintro e s1 ⟨rfl,rfl⟩
 have x0:=D2.rd.box.cell 0
 go_wp2_with fail
 refine HLeft.mono ?_
 rintro e s2 ⟨rfl,n2,hs2⟩
 have fs2:Fr [] X2 s2:=by rw[hs2];exact rZ.drewN _
 have E2:=hid (D2.fr0 fs2)
 obtain⟨y0,y1,y2,y3,y4,y5,y6,y7,y8,y9,y10⟩:=E2.qb.dW
 simp at y0 y1 y2 y3 y4 y5 y6 y7 y8 y9 y10
 have HCk2:=hid (HCk.out s2 fs2)
 clear hs2 x0
 go_wp2_with fail
 refine uu HCk2 λs3 f3=>?_
 have E3:=hid (E2.fr0 f3)
 clear f3 y0 y1 y2 y3 y4 y5 y6 y7 y8 y9 y10
 obtain⟨y0,y1,y2,y3,y4,y5,y6,y7,y8,y9,y10⟩:=E3.qb.dW
 obtain⟨r0,r1,r2,r3,r4,r5,r6,r7,r8,r9,r10⟩:=E3.res.dW
 obtain⟨g0,g1,g2,g3,g4,g5,g6,g7,g8,g9,g10⟩:=E3.res.uL
 have hrl:=E3.res.lt
 simp at y0 r0 g0 y1 r1 g1 y2 r2 g2 y3 r3 g3 y4 r4 g4 y5 r5 g5 y6 r6 g6 y7 r7 g7 y8 r8 g8 y9 r9 g9 y10 r10 g10
 go_wp2_with fail
 exact jb E3 hB (Own.nil _ _ _ _:Ev.bD _ B _ []) rfl rfl
end Rq
namespace Se
open Go.RowKit Fm Pk
theorem jx {q:M.Req}(h:M.bF q=true):(En.dm q).length<=240:=by
 obtain⟨hs,ho⟩:=Rq.iy h
 have ha : (M.bs "ann").size = 3 := by decide +kernel
 have hh:M.home.size=4:=by decide +kernel
 have hops:=Rq.kG ho
 have hann : (txt (M.bs "ann")).length = (M.bs "ann").size + 1 := by simp[txt]
 have hhom:(txt M.home).length=M.home.size+1:=by simp[txt]
 have ht:∀ s:ByteArray,(txt s).length=s.size+1:=λs=>by simp[txt]
 unfold En.dm
 generalize q.kind=k at *
 generalize q.aR=a at *
 generalize q.col=b at *
 generalize q.uid=c at *
 generalize q.au=d at *
 generalize q.ck=e at *
 generalize q.cv=f at *
 generalize hol:q.ops.length=g at *
 generalize q.token=i at *
 generalize q.aD=j at *
 generalize q.bj=l at *
 cases hs with
 | eh=>simp only[if_true,ht];omega
 | create=>simp[ht];omega
 | put _ _ _ _ hu hz hc hk hv=>have h1:=Rq.dJ hu;have h2:=Rq.dY hc;simp[ht,En.iM];omega
 | get _ hu=>have h1:=Rq.dJ hu;simp[ht];omega
 | batch _ h1 h2 =>
  simp only[Int.reduceEq,or_self,if_false,if_true,List.length_append,List.length_cons,ht]
  omega
 | delta _ _ h1 h2 h3 h4=>have hn:=cH i;simp[ht];omega
 | wait _ _ h1 h2 h3 h4=>have hn:=cH i;simp[ht];omega
theorem Ar {q:M.Req}(h:M.bF q=true):(En.bU q).length<=246:=by
 have:=jx h
 unfold En.bU
 rw[En.dS,En.aK]
 omega
theorem mX {l:List M.Req}(h:∀ q,q∈l->M.bF q=true):(l.flatMap En.bU).length<=246*l.length:=by
 induction l with
 | nil=>simp
 | cons q l ih =>
  have h1:=Ar (h q (by simp))
  have h2:=ih λx hx=>h x (by simp[hx])
  simp only[List.flatMap_cons,List.length_append,List.length_cons]
  omega
theorem jc (W:World)(s:ByteArray)(cap:Nat)(m:Nat × Nat):dQ (W.alloc (.cells (bytesRow s cap) 5 m)) (W.heap.size+1) (some ⟨W.heap.size,0,none⟩) s.data.toList:=λ_=>⟨W.heap.size,0,rfl,by omega,λk u hu=>by
 have hh:(W.alloc (.cells (bytesRow s cap) 5 m)).heap[W.heap.size]? = some (.cells (bytesRow s cap) 5 m):=heap_alloc_new W _
 have hk:=(List.getElem?_eq_some_iff.1 hu).1
 have hs:k<s.data.size:=by simpa using hk
 have e:s.data[k]=u:=by have:=(List.getElem?_eq_some_iff.1 hu).2;simpa using this
 rw[Nat.zero_add]
 simp only[World.cell?,hh]
 rw[bytesRow_at s cap k hs,e]
 rfl⟩
theorem rn (W:World)(tmps:Array Value)(g:Nat)(a k s n e:Value)(hp:Holds W g 161 #[k,s])(h2:tmps[2]?.getD undef=a)(h3:tmps[3]?.getD undef = .pointer (some ⟨g,0,none⟩))(h4:tmps[4]?.getD undef=n)(h5:tmps[5]?.getD undef=e) :
  (results f102 tmps).run prog W = .ok (.tuple #[a,.agg #[k,s],n,e]) W:=by
 have hr:f102.results=#[.tmp 2,.cell 3 161,.tmp 4,.tmp 5]:=rfl
 have q0:=hp.cell 0
 have q1:=hp.cell 1
 simp at q0 q1
 simp[results,h2,h3,h4,h5,go_sem,q0,q1]
abbrev eO (w:World)(se pi:Nat)(t:ByteArray)(seq:Int):Prop:=Holds w se 184 #[.pointer (some ⟨pi,0,none⟩),.string t,.int .i64 seq,.bool false]
theorem Ds (w:World)(se pi:Nat)(t s:ByteArray)(seq room:Int)(h:eO w se pi t seq)(hp:Pi.bw w pi room s false)(hl:s.size<=100000)(hn:gF s.data.toList=(0,ByteArray.empty,0,14)) :
  cA 102 #[.pointer (some ⟨se,0,none⟩)] w (.tuple #[.int .i64 0,.agg #[.int .i64 0,.string ⟨#[]⟩],.int .i64 0,.int .i64 0]):=by
 have c0:=h.cell 0
 have c3:=h.cell 3
 simp at c0 c3
 have f0:Fr [] w (w.alloc (.cells #[.int .i64 0,.string ⟨#[]⟩] 161)):=rZ.alloc _
 have HL:=hid (Pi.iG _ pi room s false (Holds.fr hp f0 (by simp)))
 have HP:=hid hp
 have kc:=λ(W:World)=>run_bytes_of_string (P:=prog) W 9 69 5 s underlying9 underlying69 underlying5
 have hsl:=h.lt
 have hpl:=Holds.lt hp
 have HN:=hid hn
 have HS:=hid h
 clear h hp f0 hn
 go_enter func102,ntmps102
 go_wp2_with fail
 refine HL.mono ?_
 rintro e w1 ⟨rfl,rfl⟩
 go_wp2_with fail
 generalize hcap:grownCap (w.alloc (.cells #[.int .i64 0,.string ⟨#[]⟩] 161)) s.size 0 5=cap
 have hge:s.size<=cap:=by rw[<-hcap];exact grownCap_ge _ _ _ _
 obtain⟨W1,hW1⟩:∃ W1,W1=((w.alloc (.cells #[.int .i64 0,.string ⟨#[]⟩] 161)).alloc (.cells (bytesRow s cap) 5 ((bytesRow s cap).size,(bytesRow s cap).size+1))).drew:=⟨_,rfl⟩
 have hby:dQ W1 W1.heap.size (some ⟨w.heap.size+1,0,none⟩) s.data.toList:=by
  have h0:=(jc (w.alloc (.cells #[.int .i64 0,.string ⟨#[]⟩] 161)) s cap ((bytesRow s cap).size,(bytesRow s cap).size+1)).fr ((Fr.refl [] _).drew) (by simp) (by simp)
  rw[<-hW1] at h0
  have hsz:W1.heap.size=w.heap.size+1+1:=by
   rw[hW1]
   show (World.alloc _ _).heap.size=_
   simp
  rw[hsz]
  simpa using h0
 have hnx:=kJ W1 _ cap s.data.toList hby (by simpa using hl) (by simpa using hge)
 rw[HN] at hnx
 simp only[lo] at hnx
 have f1:Fr [] w W1:=by rw[hW1];exact((rZ.alloc _).alloc _).drew
 have b1:Holds W1 w.heap.size 161 #[.int .i64 0,.string ⟨#[]⟩]:=by rw[hW1];exact((Holds.new w _ _).alloc _).drew
 rw[<-hW1]
 have HNX:=hid hnx
 clear hnx hW1 hby hcap hge c0 c3
 refine uu HNX λw2 f2=>?_
 have F2:=hid (f1.trans f2)
 have b2:=b1.fr f2 (by simp)
 have q0:=b2.cell 0
 have q1:=b2.cell 1
 have z0:=b2.frozen 0
 have z1:=b2.frozen 1
 have bl:=b2.lt
 simp at q0 q1
 have hs2:=HS.fr F2 (by simp)
 have c0:=hs2.cell 0
 simp at c0
 have B2:=hid b2
 have HP2:=hid (Holds.fr HP F2 (by simp))
 clear f1 f2 b1 b2 hs2
 have x2:Fr [] w ((w2.setCell ⟨w.heap.size,0,none⟩ (.int .i64 0)).setCell ⟨w.heap.size,1,none⟩ (.string ByteArray.empty)):=Ev.Fr.aw (p:=⟨w.heap.size,1,none⟩) (Ev.Fr.aw (p:=⟨w.heap.size,0,none⟩) F2 (Nat.le_refl _) _) (Nat.le_refl _) _
 have HCl:=hid (Pi.vj _ pi room s false (Holds.fr HP x2 (by simp)))
 have X2:=hid x2
 clear x2
 go_wp2_with fail
 refine HCl.mono ?_
 rintro e w3 ⟨rfl,rfl⟩
 go_wp2_with fail
 have B4:=((((B2.set 0 (.int .i64 0)).set 1 (.string ByteArray.empty)).set 0 (.int .i64 0)).set 1 (.string ⟨#[]⟩))
 simp at B4
 exact bodyPost_ret (rn _ _ w.heap.size _ _ _ _ _ B4 rfl rfl rfl rfl) rfl ⟨rfl,Ev.Fr.aw (p:=⟨w.heap.size,1,none⟩) (Ev.Fr.aw (p:=⟨w.heap.size,0,none⟩) X2 (Nat.le_refl _) _) (Nat.le_refl _) _⟩
theorem sj (w:World)(se pi:Nat)(t s b:ByteArray)(k n seq room:Int)(h:eO w se pi t seq)(hp:Pi.bw w pi room s false)(hl:s.size<=100000)(hn:gF s.data.toList=(k,b,n,0)) :
  cA 102 #[.pointer (some ⟨se,0,none⟩)] w (.tuple #[.int .i64 1,.agg #[.int .i64 k,.string b],.int .i64 n,.int .i64 0]):=by
 have c0:=h.cell 0
 have c3:=h.cell 3
 simp at c0 c3
 have f0:Fr [] w (w.alloc (.cells #[.int .i64 0,.string ⟨#[]⟩] 161)):=rZ.alloc _
 have HL:=hid (Pi.iG _ pi room s false (Holds.fr hp f0 (by simp)))
 have HP:=hid hp
 have kc:=λ(W:World)=>run_bytes_of_string (P:=prog) W 9 69 5 s underlying9 underlying69 underlying5
 have hsl:=h.lt
 have hpl:=Holds.lt hp
 have HN:=hid hn
 have HS:=hid h
 clear h hp f0 hn
 go_enter func102,ntmps102
 go_wp2_with fail
 refine HL.mono ?_
 rintro e w1 ⟨rfl,rfl⟩
 go_wp2_with fail
 generalize hcap:grownCap (w.alloc (.cells #[.int .i64 0,.string ⟨#[]⟩] 161)) s.size 0 5=cap
 have hge:s.size<=cap:=by rw[<-hcap];exact grownCap_ge _ _ _ _
 obtain⟨W1,hW1⟩:∃ W1,W1=((w.alloc (.cells #[.int .i64 0,.string ⟨#[]⟩] 161)).alloc (.cells (bytesRow s cap) 5 ((bytesRow s cap).size,(bytesRow s cap).size+1))).drew:=⟨_,rfl⟩
 have hby:dQ W1 W1.heap.size (some ⟨w.heap.size+1,0,none⟩) s.data.toList:=by
  have h0:=(jc (w.alloc (.cells #[.int .i64 0,.string ⟨#[]⟩] 161)) s cap ((bytesRow s cap).size,(bytesRow s cap).size+1)).fr ((Fr.refl [] _).drew) (by simp) (by simp)
  rw[<-hW1] at h0
  have hsz:W1.heap.size=w.heap.size+1+1:=by
   rw[hW1]
   show (World.alloc _ _).heap.size=_
   simp
  rw[hsz]
  simpa using h0
 have hnx:=kJ W1 _ cap s.data.toList hby (by simpa using hl) (by simpa using hge)
 rw[HN] at hnx
 simp only[lo] at hnx
 have f1:Fr [] w W1:=by rw[hW1];exact((rZ.alloc _).alloc _).drew
 have b1:Holds W1 w.heap.size 161 #[.int .i64 0,.string ⟨#[]⟩]:=by rw[hW1];exact((Holds.new w _ _).alloc _).drew
 rw[<-hW1]
 have HNX:=hid hnx
 clear hnx hW1 hby hcap hge c0 c3
 refine uu HNX λw2 f2=>?_
 have F2:=hid (f1.trans f2)
 have b2:=b1.fr f2 (by simp)
 have q0:=b2.cell 0
 have q1:=b2.cell 1
 have z0:=b2.frozen 0
 have z1:=b2.frozen 1
 have bl:=b2.lt
 simp at q0 q1
 have hs2:=HS.fr F2 (by simp)
 have c0:=hs2.cell 0
 simp at c0
 have B2:=hid b2
 have HP2:=hid (Holds.fr HP F2 (by simp))
 clear f1 f2 b1 b2 hs2
 have x2:Fr [] w ((w2.setCell ⟨w.heap.size,0,none⟩ (.int .i64 k)).setCell ⟨w.heap.size,1,none⟩ (.string b)):=Ev.Fr.aw (p:=⟨w.heap.size,1,none⟩) (Ev.Fr.aw (p:=⟨w.heap.size,0,none⟩) F2 (Nat.le_refl _) _) (Nat.le_refl _) _
 have b3:Holds ((w2.setCell ⟨w.heap.size,0,none⟩ (.int .i64 k)).setCell ⟨w.heap.size,1,none⟩ (.string b)) w.heap.size 161 #[.int .i64 k,.string b]:=by simpa using ((B2.set 0 (.int .i64 k)).set 1 (.string b))
 go_wp2_with fail
 generalize (w2.setCell ⟨w.heap.size,0,none⟩ (.int .i64 k)).setCell ⟨w.heap.size,1,none⟩ (.string b)=W3 at *
 have e0:=b3.cell 0
 have e1:=b3.cell 1
 have y0:=b3.frozen 0
 have y1:=b3.frozen 1
 have l3:=b3.lt
 simp at e0 e1
 have B3:=hid b3
 have X3:=hid x2
 clear b3 x2
 go_region
 go_wp2_with fail
 have B4:=hid (((B3.set 0 (.int .i64 k)).set 1 (.string b)).drew)
 simp at B4
 exact bodyPost_ret (rn _ _ w.heap.size _ _ _ _ _ B4.out rfl rfl rfl rfl) rfl ⟨rfl,(Ev.Fr.aw (p:=⟨w.heap.size,1,none⟩) (Ev.Fr.aw (p:=⟨w.heap.size,0,none⟩) X3 (Nat.le_refl _) _) (Nat.le_refl _) _).drew⟩
theorem oW {q:M.Req}{l:List M.Req}(h:M.bF q=true):gF (En.bytesOf ((q::l).flatMap En.bU)).data.toList=(q.kind,En.bytesOf (En.dm q),((En.bytesOf (En.dm q)).size:Int)+6,0):=by
 have hk:=Rq.bd (Rq.iy h).1
 have hb:=jx h
 rw[En.cX]
 simp only[List.flatMap_cons]
 exact En.back q.kind (En.bytesOf (En.dm q)) _ (by omega) (by omega) (by rw[En.aK];omega)
theorem xu (w:World)(se pi:Nat)(t:ByteArray)(seq room:Int)(l:List M.Req)(h:eO w se pi t seq)(hp:Pi.bw w pi room (En.bytesOf (l.flatMap En.bU)) false)(hq:∀ q,q∈l->M.bF q=true)(hl:l.length<=100) :
  cA 75 #[.pointer (some ⟨se,0,none⟩)] w (.bool (!l.isEmpty)):=by
 have hsz:(En.bytesOf (l.flatMap En.bU)).size<=100000:=by
  have:=mX hq
  rw[En.aK]
  omega
 cases l with
 | nil =>
  have HL:=hid (Ds w se pi t _ seq room h hp hsz rfl)
  clear h hp hq hl hsz
  go_enter func75,ntmps75
  go_wp2_with fail
  refine uu HL λw1 f1=>?_
  go_wp2_with fail
  go_ret
  exact⟨rfl,f1.alloc _⟩
 | cons q l =>
  have HL:=hid (sj w se pi t _ _ _ _ seq room h hp hsz (oW (hq q (by simp))))
  clear h hp hq hl hsz
  go_enter func75,ntmps75
  go_wp2_with fail
  refine uu HL λw1 f1=>?_
  go_wp2_with fail
  go_ret
  exact⟨rfl,f1.alloc _⟩
theorem mY (w:World)(se pi:Nat)(t:ByteArray)(seq:Int)(h:eO w se pi t seq):Calls prog 81 #[.pointer (some ⟨se,0,none⟩)] w λe w'=>e = .returned (.string t)/\w=w':=by
 have c1:=h.cell 1
 simp at c1
 clear h
 go_enter func81,ntmps81
 go_wp2_with fail
 go_ret
 exact⟨rfl,rfl⟩
theorem BI (w:World)(se pi:Nat)(t a b:ByteArray)(seq room:Int)(h:eO w se pi t seq)(hp:Pi.bw w pi room a false)(h0:0<=room)(h1:room<=100000)(hs:((a++b).size:Int)<=room) :
  Calls prog 71 #[.pointer (some ⟨se,0,none⟩),.string b] w λe w'=>e = .returned (.bool true)/\Pi.bw w' pi room (a++b) false/\Fr [pi] w w':=by
 have c0:=h.cell 0
 simp at c0
 have hsz:(a++b).size=a.size+b.size:=by simp[ByteArray.size_append]
 have HP:=hid (Pi.vU w pi room a false b hp h0 (by omega) (by omega) (by simp[Pi.fits];omega))
 clear h hp hsz hs
 go_enter func71,ntmps71
 go_wp2_with fail
 refine HP.mono ?_
 rintro e w1 ⟨rfl,p1,f1⟩
 go_wp2_with fail
 go_ret
 exact⟨rfl,p1,f1⟩
theorem bZ (w:World)(room:Int)(h0:0<=room):Calls prog 69 #[.int .i64 room] w λe w'=>∃ se pi,e = .returned (.pointer (some ⟨se,0,none⟩))/\w.heap.size<=se/\w.heap.size<=pi/\pi<se/\eO w' se pi ⟨#[]⟩ 0/\Pi.bw w' pi room ⟨#[]⟩ false/\Fr [] w w':=by
 have HP:=hid (Pi.bZ room w)
 rw[Int.max_eq_left h0] at HP
 go_enter func69,ntmps69
 go_wp2_with fail
 refine HP.mono ?_
 rintro e w1 ⟨pi,rfl,hpi,hp,f1⟩
 have HPI:=hid hp
 clear hp
 go_wp2_with fail
 go_ret
 exact⟨_,pi,rfl,f1.size,hpi,Holds.lt HPI,Holds.new _ _ _,Holds.alloc HPI _,f1.alloc _⟩
end Se
namespace Rq
open Go.RowKit Fm Pk
theorem uX (w:World)(B:Nat)(v:Value)(q:M.Req)(hq:M.bF q=true)(hb:BIn w v (En.dm q))(hG:Sh.Gl w)(hB:B<=w.heap.size) :
  Calls prog 105 #[.int .i64 q.kind,v] w λe w'=>∃ vo,e = .returned (.tuple #[.agg (Ev.rqc q vo).toArray,.int .i64 0])/\Ev.bD w' B vo q.ops/\Fr [] w w':=by
 unfold M.bF at hq
 split at hq
 ·have e:=of_decide_eq_true hq
  subst e
  exact GK w B v (by simpa[En.dm] using hb) hG hB
 split at hq
 ·have e:=of_decide_eq_true hq
  subst e
  exact GJ w B v (by simpa[En.dm] using hb) hG hB
 split at hq
 ·simp only[Bool.and_eq_true,decide_eq_true_eq] at hq
  obtain⟨e,ho⟩:=hq
  have o:=mo ho
  have o1:=o.uid
  have o0:=o.u4
  have o2:=o.au
  have o3:=o.cond
  have o4:=o.cv
  simp only[Bool.false_eq_true,if_false] at o0 o1 o2 o3 o4
  clear o ho
  generalize q.uid=a1 at *
  generalize q.au=a2 at *
  generalize q.ck=a3 at *
  generalize q.cv=a4 at *
  subst e
  exact GI w B v a1 a2 a3 a4 o1 o0 o2 o3 o4 (by simpa[En.dm,En.iM] using hb) hG hB
 split at hq
 ·simp only[Bool.and_eq_true,decide_eq_true_eq] at hq
  obtain⟨e,hu⟩:=hq
  generalize q.uid=a1 at *
  subst e
  exact GH w B v a1 hu (by simpa[En.dm] using hb) hG hB
 split at hq
 ·simp only[Bool.and_eq_true,decide_eq_true_eq,List.all_eq_true] at hq
  obtain⟨⟨e,h1,h2⟩,ho⟩:=hq
  have ho':∀ o,o∈q.ops->kv o:=λo hm=>mo (ho o hm)
  clear ho
  generalize q.ops=a1 at *
  subst e
  exact GG w B v a1 h1 h2 ho' (by simpa[En.dm] using hb) hG hB
 split at hq
 ·simp only[Bool.and_eq_true,decide_eq_true_eq] at hq
  obtain⟨e,h1,h2,h3,h4⟩:=hq
  generalize q.token=a1 at *
  generalize q.aD=a2 at *
  subst e
  exact GF w B v a1 a2 h1 h2 h3 h4 (by simpa[En.dm] using hb) hG hB
 simp only[Bool.and_eq_true,decide_eq_true_eq] at hq
 obtain⟨e,h1,h2,h3,h4⟩:=hq
 generalize q.token=a1 at *
 generalize q.bj=a2 at *
 subst e
 exact GD w B v a1 a2 h1 h2 h3 h4 (by simpa[En.dm] using hb) hG hB
end Rq
