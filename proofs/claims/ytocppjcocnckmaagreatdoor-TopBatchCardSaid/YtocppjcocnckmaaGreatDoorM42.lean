/- Walks. -/
import Derived.Test.YtocppjcocnckmaaGreatDoorM27
import Derived.Test.YtocppjcocnckmaaGreatDoorM36
set_option maxRecDepth 100000
set_option maxHeartbeats 8000000
set_option linter.all false
open Go.Lib (hid)
namespace Go.Proofs.YtocppjcocnckmaaGreatDoor
open Go.Proofs.Tryz
open Go.RowKit Go.Shelf
section
variable {w w':World} {B g n:Nat} {t e:TypeId} {sz:Nat} {cs:Array Value} {v:Value} {xs:List Value} {row:Option Nat}
theorem gu (h:Holds w g t cs)(hg:w.grownBy w' row)(hr:∀ r,row=some r->∃ o:Obj,w.heap[r]? = some o/\o.isCells=false):Holds w' g t cs :=
 (hg.block g h.lt (λe=>by
  obtain⟨o,ho,hc⟩:=hr g e.symm
  rw[show w.heap[g]? = _ from h] at ho
  cases ho
  cases hc)).trans h
theorem iz {cap:Nat}(h:Row w e sz g n cap xs):∃ o:Obj,w.heap[g]? = some o/\o.isCells=true:=by
 obtain⟨cur,h0,_⟩:=h
 exact⟨_,h0,rfl⟩
theorem iE (h:Own w B e sz v n xs)(hg:w.grownBy w' row)(hr:∀ r,row=some r->∃ o:Obj,w.heap[r]? = some o/\o.isCells=false):Own w' B e sz v n xs:=by
 rcases h with h|⟨g,cap,hb,rfl,hrow⟩
 ·exact .inl h
 refine .inr ⟨g,cap,hb,rfl,?_⟩
 have hl:=hrow.lt
 obtain⟨o,ho,hc⟩:=iz hrow
 obtain⟨cur,h0,r⟩:=hrow
 exact⟨cur,(hg.block g hl (λe=>by
  obtain⟨o',ho',hc'⟩:=hr g e.symm
  rw[ho] at ho'
  cases ho'
  rw[hc] at hc'
  cases hc')).trans h0,r⟩
theorem nO {W:World}{n₁ C:Nat}(h:Kx n₁ C W w)(hg:w.grownBy w' row)(hn:n₁<=W.heap.size)(hr:∀ r,row=some r->n₁<=r):Kx n₁ C W w' :=
 ⟨hg.os.trans h.os,hg.tape.trans h.tape,hg.output.trans h.output,Nat.le_trans h.size hg.size,λk hk hC=>(hg.block k (by have:=h.size;omega) (λe=>by
  have:=hr k e.symm
  omega)).trans (h.block k hk hC)⟩
theorem oU {D:Nat}(h:Own w D e sz v n xs)(hB:B<=D):Own w B e sz v n xs:=by
 rcases h with h|⟨g,cap,hg,h⟩
 ·exact .inl h
 exact .inr ⟨g,cap,Nat.le_trans hB hg,h⟩
theorem jD (h:Holds w g t cs):Cells w (some ⟨g,0,none⟩) cs.toList:=λj u hu=>⟨_,rfl,by rw[dZ,Nat.zero_add,h.cell j];simpa using hu⟩
theorem jq {W W':World}{D:Nat}{S:List Nat}(h:Fr S W W')(hS:∀ k,k∈S->∃ o:Obj,W.heap[k]? = some o/\o.isCells=true):KeepsFrom D W W' :=
 ⟨h.size,λk o _ hk ho=>(h.block k (Array.getElem?_eq_some_iff.1 hk).1 (λhs=>by obtain⟨o',h1,h2⟩:=hS k hs;rw[h1] at hk;cases hk;rw[h2] at ho;cases ho)).trans hk⟩
theorem yu {W W':World}{n₁ C:Nat}{S:List Nat}(h:Fr S W W')(hn:n₁<=W.heap.size)(hS:∀ k,k∈S->k=C∨n₁<=k):Kx n₁ C W W' :=
 ⟨h.os,h.tape,h.output,h.size,λk hk hC=>h.block k (by omega) (λhs=>by rcases hS k hs with h|h<;>omega)⟩
theorem iX {W:World}{n₁ C t e sz k:Nat}{v:Value}{xs:List Value}(hb:Holds W C t #[v])(ho:Own W n₁ e sz v k xs)(hte:t≠e):C∉(ay v).toList:=λhx=>by
 have hg:=(ho.ty (by simpa using hx:ay v=some C)).1
 rw[hb.ty] at hg
 exact hte (Option.some.inj hg)
theorem oe {W W2:World}{D n₁ C t e sz k g2 c2:Nat}{v:Value}{xs ys:List Value}{o:Obj}(hb:Holds W C t #[v])(ho:Own W n₁ e sz v k xs)(hte:t≠e)(hn:n₁<=W.heap.size)(hf:Fr (ay v).toList (W.alloc o) W2)
  (hr:Row W2 e sz g2 (k+1) c2 ys) (ho2:some g2=ay v∨∃ g,some g2=some g/\(W.alloc o).heap.size<=g) :
  KeepsFrom D W (W2.setCell ⟨C,0,none⟩ (.slice (some ⟨g2,0,none⟩) (k+1) c2))/\Kx n₁ C W (W2.setCell ⟨C,0,none⟩ (.slice (some ⟨g2,0,none⟩) (k+1) c2)) /\
  Holds (W2.setCell ⟨C,0,none⟩ (.slice (some ⟨g2,0,none⟩) (k+1) c2)) C t #[.slice (some ⟨g2,0,none⟩) (k+1) c2]/\Own (W2.setCell ⟨C,0,none⟩ (.slice (some ⟨g2,0,none⟩) (k+1) c2)) n₁ e sz (.slice (some ⟨g2,0,none⟩) (k+1) c2) (k+1) ys:=by
 have hnot:=iX hb ho hte
 have hb2:=(hb.alloc o).fr hf hnot
 have fr:Fr (C::(ay v).toList) W (W2.setCell ⟨C,0,none⟩ (.slice (some ⟨g2,0,none⟩) (k+1) c2)):=(((Fr.refl _ W).alloc o).trans (hf.mono λ_ h=>by simp[h])).setCell (by simp) _
 refine⟨jq fr λj hj=>?_,yu fr hn λj hj=>?_,by simpa using hb2.set 0 _,.inr ⟨g2,c2,?_,rfl,hr.far (hr.ne hb2 (λh=>hte h.symm)) _⟩⟩
 ·rcases List.mem_cons.1 hj with rfl|hj
  ·exact⟨_,hb,rfl⟩
  rcases ho with⟨rfl,_⟩|⟨g',cap,_,rfl,hr'⟩
  ·cases hj
  obtain rfl:j=g':=by simpa[ay] using hj
  exact iz hr'
 ·rcases List.mem_cons.1 hj with rfl|hj
  ·exact .inl rfl
  exact .inr (ho.ty (by simpa using hj)).2
 rcases ho2 with h|⟨g,h,hg⟩
 ·exact(ho.ty h.symm).2
 cases h
 simp at hg
 omega
end
namespace Co
open Go.RowKit Go.Shelf
attribute [local go_sem] Oper.semAt_some
theorem Gv (s:ByteArray):s.extract 0 (⟨#[]⟩:ByteArray).size=⟨#[]⟩:=by
 have:(⟨#[]⟩:ByteArray).size=0:=rfl
 rw[this]
 apply ByteArray.ext
 simp
theorem DD (ks:List ByteArray):idx ks ⟨#[]⟩=0:=by
 unfold idx
 cases ks with
 | nil=>rfl
 | cons x l=>simp[kl]
def itm (x:Oc.Ent):M.Item:=⟨x.1,x.2.1,false,x.2.2⟩
def LI (w1:World)(n₁ C:Nat)(pre:List Oc.Ent)(W:World):Prop:=∃ v,Holds W C 53 #[v]/\Ev.aV W n₁ v (pre.map itm)/\Kx n₁ C w1 W
def LA (f:Value->Value->Value->Act)(x:Oc.Ent)(a:Act)(W:World):Prop:=∃ b,a=f (.string x.1) (.agg #[.int .i64 x.2.1,.string x.2.2]) (.pointer (some ⟨b,0,none⟩))/\Holds W b 259 #[.int .i64 x.2.1,.string x.2.2]
theorem Bh (w:World)(B g:Nat)(c:M.Col)(h:bX w B g c)(hl:c.ah.length<=100)(hB:B<=w.heap.size) :
  Calls prog 246 #[.pointer (some ⟨g,0,none⟩)] w λe w'=>∃ v,e = .returned v/\Ev.aV w' B v (M.items c)/\Fr [] w w':=by
 obtain⟨i3,hi,hz0,hz1,hz2⟩:=info_parts Ev.pf
 obtain⟨m,r,hm,hr,h1,h2,h3⟩:=h
 have c0:=h1.cell 0
 simp at c0
 have hgl:=h1.lt
 obtain⟨C,hC⟩:∃ C,w.heap.size=C:=⟨_,rfl⟩
 have HG:=hid (And.intro hgl hC)
 clear h3 h1 hC
 refine(callsIn_wide (n:=8)).1 ?_
 refine callsIn_of_wp_marks func246 rfl trivial ?_ rfl
 simp only[ntmps246,List.size_toArray,List.length_cons,List.length_nil,Nat.reduceAdd,Nat.reduceSub,Array.replicate_succ,Array.replicate_zero,List.push_toArray,List.append_toArray,List.nil_append,List.cons_append]
 refine wpIn_wide.2 ?_
 go_wp2_with fail
 refine uu (Oc.Ed _ m) λw1 hw1=>?_
 simp only[World.size_alloc,HG.2] at hw1 ⊢
 go_wp2_with fail
 have hs1:w1.heap.size=C+1+1+1:=by rw[hw1];simp[HG.2]
 have F1:Fr [] w w1:=by rw[hw1];exact((rZ.alloc _).alloc _).alloc _
 have b0:Holds w1 C 53 #[.slice none 0 0]:=by rw[hw1];exact((aE HG.2).alloc _).alloc _
 have b1:Holds w1 (C+1) 254 #[.pointer (some ⟨m,0,none⟩)]:=by rw[hw1];exact(aE (by simp[HG.2])).alloc _
 have b2:Holds w1 (C+1+1) 9 #[.string ⟨#[]⟩]:=by rw[hw1];exact aE (by simp[HG.2])
 have hM1:=h2.fr0 F1
 have c1:=b1.cell 0
 have c2:=b2.cell 0
 simp at c1 c2
 have hml:m<C:=by
  obtain⟨v,q,_⟩:=h2.at_
  rw[<-HG.2]
  exact q.lt
 have hown:∀ v k,w1.cell? ⟨m,0,none⟩=some v->ay v=some k->k<C+1+1+1/\k≠C:=by
  intro v k hv hk
  obtain⟨v',q,q2⟩:=h2.at_
  have e:=(q.fr F1 (by simp)).cell 0
  rw[hv] at e
  simp at e
  subst e
  obtain⟨ht,_⟩:=q2.ty hk
  have:k<w.heap.size:=by
   rcases q2 with⟨rfl,_⟩|⟨g',cap,_,rfl,hr'⟩
   ·cases hk
   cases hk
   exact hr'.lt
  rw[HG.2] at this
  omega
 have hI0:LI w1 (C+1+1+1) C [] w1:=⟨_,b0,Own.nil _ _ _ _,Kx.refl _ _ _⟩
 have HX:=hid (And.intro F1 hB)
 have hlen:(bK c.ah).length<=100:=by simpa[bK] using hl
 clear hw1 F1 b0 b1 b2 h2 c0
 refine(wpIn_wide (n:=8)).1 ?_
 refine wpIn_rangeFunc_ownH (F:=Fence.wide) rfl (by omega) (gf:=340) (lb:=#[.pointer (some ⟨C+1,0,none⟩),.pointer (some ⟨C+1+1,0,none⟩)]) rfl trivial (enters_of func340 (by kernel_rfl) rfl)
  (Oc.qP (8 - 1) (by omega) B (C+1) (C+1+1) m (C+1+1+1) C (bK c.ah) ⟨#[]⟩ (λx _=>⟨Nat.zero_le _,Gv _⟩) (DD _) w1 hM1 c1 c2 (by omega) (by omega) (by omega) (by omega) hown) (λh k=>h.trans k) ?keepb (Below.refl _ _) (λ_=>rfl)
  (LI w1 (C+1+1+1) C) (λ_ _ _=>False) ?own1 (λ_ _ _ _ _ h=>h.elim) hI0
  (LA λs y b=>{ tmps:=#[.pointer (some ⟨g,0,none⟩),undef,.slice none 0 0,.pointer (some ⟨C,0,none⟩),s,b,.pointer (some ⟨g,0,none⟩),.pointer (some ⟨g,0,none⟩),.pointer (some ⟨g,0,none⟩),.pointer (some ⟨m,0,none⟩),.func (.func 340) #[] #[.pointer (some ⟨C+1,0,none⟩),.pointer (some ⟨C+1+1,0,none⟩)],s,y,undef,undef,undef,undef,undef,undef,undef,undef,undef,undef],defers:=[] }) ?own3 ?assign ?body ?done ?stop
 case keepb=>exact λW l o o' h1 h2 _ _=>nO (Kx.refl _ _ W) (grownBy_putObj' W l o') (by have:=(Array.getElem?_eq_some_iff.1 h2).1;omega) (λr e=>by cases e;omega)
 case own1 =>
  rintro s X Y row ⟨v,a,b,k⟩ hg hr
  exact⟨v,gu a hg λr e=>(hr r e).2,iE b hg λr e=>(hr r e).2,nO k hg (by omega) λr e=>by have:=(hr r e).1;omega⟩
 case own3 =>
  rintro x a' s X Y row ⟨b,e,hb⟩ hg hr
  exact⟨b,e,gu hb hg λr e=>(hr r e).2⟩
 case assign =>
  intro l pre x W K hI hK
  simp only[Oc.enc]
  gi_wp2
  have f:Fr [] W (W.alloc (.cells #[.int .i64 x.2.1,.string x.2.2] 259)):=rZ.alloc _
  obtain⟨v,a,b,k⟩:=hI
  have hW:=k.size
  exact hK _ _ ((KeepsOthers.alloc W _).from _) (Kx.bY f (by omega)) ⟨v,a.fr f (by simp),b.fr0 f,k.trans (Kx.bY f (by omega))⟩ ⟨_,rfl,Holds.new _ _ _⟩
 case body =>
  rintro l pre x a' W hl _ ⟨v,hb,ho,kx⟩ ⟨b,rfl,hbx⟩ hlen2
  obtain⟨av,cv,hv⟩:=ho.form
  rw[List.length_map] at hv
  have ho':Own W (C+1+1+1) 59 4 v pre.length (flat Ev.ic (pre.map itm)):=by
   have h':=ho
   unfold Ev.aV at h'
   rwa [List.length_map] at h'
  have hW:=kx.size
  subst hv
  have HB:=hid (And.intro hb (And.intro ho' (And.intro kx hlen2)))
  have cb:=hb.cell 0
  have zb:=hb.frozen 0
  have e0:=hbx.cell 0
  have e1:=hbx.cell 1
  have hCl:=hb.lt
  have hbl:=hbx.lt
  simp at cb e0 e1
  have hpl:pre.length<=100:=by omega
  clear hb ho ho' kx hbx hI0 hlen2
  gi_wp2_with (gi_at_builtin;go_loud (refine eA rfl (.tmp 13) (.tmp 20) 53 rfl i3 _ 48 underlying53 hi hz0 hz1 hz2 rfl (by decide) _ (ay (.slice av pre.length cv)) rfl (HB.2.1.sl.fr0 ((Fr.refl [] W).alloc _)) _ 1 1 (Ev.ic (itm x)) rfl rfl (jD (aE (t:=59) (cs:=(Ev.ic (itm x)).toArray) (by simp))) (Ev.kj _) (by unfold maxLen;omega) (by omega) ?_;intro v2 W2 own2 hs2 hf2 ho2 hm2;obtain⟨g2,rfl⟩:=hm2 (by omega);obtain⟨c2,rfl,r2⟩:=hs2.cI;have HP:=hid (oe (D:=w1.heap.size) HB.1 HB.2.1 (by decide) (by omega) hf2 r2 ho2);have y0:=((HB.1.alloc _).fr hf2 (iX HB.1 HB.2.1 (by decide))).frozen 0;have y1:=((HB.1.alloc _).fr hf2 (iX HB.1 HB.2.1 (by decide))).cell 0;simp at y1))
  refine⟨HP.1,HP.2.1,_,HP.2.2.1,?_,HB.2.2.1.trans HP.2.1⟩
  have h':=HP.2.2.2
  unfold Ev.aV
  rw[List.length_map,List.length_append,List.map_append,aP]
  exact h'
 case done =>
  rintro D xs W hD rfl ⟨v,hb,ho,kx⟩ hm
  obtain⟨av,cv,hv⟩:=ho.form
  subst hv
  have cb:=hb.cell 0
  simp at cb
  have HB:=hid (And.intro ho (And.intro kx hm))
  clear hb ho kx hm hI0
  go_wp2_with fail
  have hg:=grownBy_putObj' W D (.deferred none)
  have hcell:∀ r,some D=some r->∃ o:Obj,W.heap[r]? = some o/\o.isCells=false:=λr e=>by
   cases e
   exact⟨_,HB.2.2,rfl⟩
  have f:Fr [] w (W.putObj D (.deferred none)):=by
   have k:=nO HB.2.1 hg (by omega) (λr e=>by cases e;omega)
   refine⟨k.os.trans HX.1.os,k.tape.trans HX.1.tape,k.output.trans HX.1.output,Nat.le_trans HX.1.size k.size,λj hj _=>?_⟩
   have hC:=HG.2
   exact(k.block j (by omega) (by omega)).trans (HX.1.block j hj (by simp))
  have hi:Ev.aV (W.putObj D (.deferred none)) B (.slice av (bK c.ah).length cv) (M.items c):=by
   have h':=iE HB.1 hg hcell
   have e:(bK c.ah).map itm=M.items c:=by simp[bK,M.items,itm,ent]
   rw[List.length_map] at h'
   rw[<-e]
   unfold Ev.aV
   rw[List.length_map]
   exact oU h' (by have:=HX.2;have:=HG.2;omega)
  refine⟨by simp,.inl ⟨_,_,rfl,run_takeDeferred HB.2.2,?_⟩⟩
  exact⟨_,(results_tmp (t:=2) rfl _ _ _),_,rfl,hi,f⟩
 case stop=>exact λD c pre W _ _ h _=>h.elim
end Co
