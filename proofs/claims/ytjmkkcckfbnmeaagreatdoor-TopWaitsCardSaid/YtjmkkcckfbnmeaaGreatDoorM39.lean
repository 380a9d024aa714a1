/- Texts PageA. -/
import Derived.Test.YtjmkkcckfbnmeaaGreatDoorM17
import Derived.Test.YtjmkkcckfbnmeaaGreatDoorM27
import Derived.Test.YtjmkkcckfbnmeaaGreatDoorM38
set_option maxRecDepth 100000
set_option maxHeartbeats 8000000
set_option linter.all false
open Go.Lib (hid)
namespace Go.Proofs.YtjmkkcckfbnmeaaGreatDoor
open Go.RowKit Go.Shelf
section
variable {w w':World} {B g n:Nat} {t e:TypeId} {sz:Nat} {cs:Array Value} {v:Value} {xs:List Value} {row:Option Nat}
theorem holds_grown (h:Holds w g t cs)(hg:w.grownBy w' row)(hr:∀ r,row=some r→∃ o:Obj,w.heap[r]? = some o∧o.isCells=false):Holds w' g t cs :=
 (hg.block g h.lt (fun e=>by
  obtain⟨o,ho,hc⟩:=hr g e.symm
  rw[show w.heap[g]? = _ from h] at ho
  cases ho
  cases hc)).trans h
theorem row_cells {cap:Nat}(h:Row w e sz g n cap xs):∃ o:Obj,w.heap[g]? = some o∧o.isCells=true:=by
 obtain⟨cur,h0,_⟩:=h
 exact⟨_,h0,rfl⟩
theorem own_grown (h:Own w B e sz v n xs)(hg:w.grownBy w' row)(hr:∀ r,row=some r→∃ o:Obj,w.heap[r]? = some o∧o.isCells=false):Own w' B e sz v n xs:=by
 rcases h with h|⟨g,cap,hb,rfl,hrow⟩
 ·exact .inl h
 ·refine .inr ⟨g,cap,hb,rfl,?_⟩
  have hl:=hrow.lt
  obtain⟨o,ho,hc⟩:=row_cells hrow
  obtain⟨cur,h0,r⟩:=hrow
  exact⟨cur,(hg.block g hl (fun e=>by
   obtain⟨o',ho',hc'⟩:=hr g e.symm
   rw[ho] at ho'
   cases ho'
   rw[hc] at hc'
   cases hc')).trans h0,r⟩
theorem kx_grown {W:World}{n₁ C:Nat}(h:Kx n₁ C W w)(hg:w.grownBy w' row)(hn:n₁≤W.heap.size)(hr:∀ r,row=some r→n₁≤r):Kx n₁ C W w' :=
 ⟨hg.os.trans h.os,hg.tape.trans h.tape,hg.output.trans h.output,Nat.le_trans h.size hg.size,fun k hk hC=>(hg.block k (by have:=h.size;omega) (fun e=>by
  have:=hr k e.symm
  omega)).trans (h.block k hk hC)⟩
theorem own_lower {D:Nat}(h:Own w D e sz v n xs)(hB:B≤D):Own w B e sz v n xs:=by
 rcases h with h|⟨g,cap,hg,h⟩
 ·exact .inl h
 ·exact .inr ⟨g,cap,Nat.le_trans hB hg,h⟩
theorem cells_holds (h:Holds w g t cs):Cells w (some ⟨g,0,none⟩) cs.toList:=fun j u hu=>⟨_,rfl,by rw[at_add,Nat.zero_add,h.cell j];simpa using hu⟩
theorem keepsFrom_of_fr {W W':World}{D:Nat}{S:List Nat}(h:Fr S W W')(hS:∀ k,k∈S→∃ o:Obj,W.heap[k]? = some o∧o.isCells=true):KeepsFrom D W W' :=
 ⟨h.size,fun k o _ hk ho=>(h.block k (Array.getElem?_eq_some_iff.1 hk).1 (fun hs=>by obtain⟨o',h1,h2⟩:=hS k hs;rw[h1] at hk;cases hk;rw[h2] at ho;cases ho)).trans hk⟩
theorem kx_of_frS {W W':World}{n₁ C:Nat}{S:List Nat}(h:Fr S W W')(hn:n₁≤W.heap.size)(hS:∀ k,k∈S→k=C∨n₁≤k):Kx n₁ C W W' :=
 ⟨h.os,h.tape,h.output,h.size,fun k hk hC=>h.block k (by omega) (fun hs=>by rcases hS k hs with h|h<;>omega)⟩
theorem own_not {W:World}{n₁ C t e sz k:Nat}{v:Value}{xs:List Value}(hb:Holds W C t #[v])(ho:Own W n₁ e sz v k xs)(hte:t≠e):C∉(ownOf v).toList:=fun hx=>by
 have hg:=(ho.ty (by simpa using hx:ownOf v=some C)).1
 rw[hb.ty] at hg
 exact hte (Option.some.inj hg)
theorem box_push {W W2:World}{D n₁ C t e sz k g2 c2:Nat}{v:Value}{xs ys:List Value}{o:Obj}(hb:Holds W C t #[v])(ho:Own W n₁ e sz v k xs)(hte:t≠e)(hn:n₁≤W.heap.size)(hf:Fr (ownOf v).toList (W.alloc o) W2)
  (hr:Row W2 e sz g2 (k+1) c2 ys) (ho2:some g2=ownOf v∨∃ g,some g2=some g∧(W.alloc o).heap.size≤g) :
  KeepsFrom D W (W2.setCell ⟨C,0,none⟩ (.slice (some ⟨g2,0,none⟩) (k+1) c2))∧Kx n₁ C W (W2.setCell ⟨C,0,none⟩ (.slice (some ⟨g2,0,none⟩) (k+1) c2)) ∧
  Holds (W2.setCell ⟨C,0,none⟩ (.slice (some ⟨g2,0,none⟩) (k+1) c2)) C t #[.slice (some ⟨g2,0,none⟩) (k+1) c2]∧Own (W2.setCell ⟨C,0,none⟩ (.slice (some ⟨g2,0,none⟩) (k+1) c2)) n₁ e sz (.slice (some ⟨g2,0,none⟩) (k+1) c2) (k+1) ys:=by
 have hnot:=own_not hb ho hte
 have hb2:=(hb.alloc o).fr hf hnot
 have fr:Fr (C::(ownOf v).toList) W (W2.setCell ⟨C,0,none⟩ (.slice (some ⟨g2,0,none⟩) (k+1) c2)):=(((Fr.refl _ W).alloc o).trans (hf.mono fun _ h=>by simp[h])).setCell (by simp) _
 refine⟨keepsFrom_of_fr fr fun j hj=>?_,kx_of_frS fr hn fun j hj=>?_,by simpa using hb2.set 0 _,.inr ⟨g2,c2,?_,rfl,hr.far (hr.ne hb2 (fun h=>hte h.symm)) _⟩⟩
 ·rcases List.mem_cons.1 hj with rfl|hj
  ·exact⟨_,hb,rfl⟩
  ·rcases ho with⟨rfl,_⟩|⟨g',cap,_,rfl,hr'⟩
   ·cases hj
   ·obtain rfl:j=g':=by simpa[ownOf] using hj
    exact row_cells hr'
 ·rcases List.mem_cons.1 hj with rfl|hj
  ·exact .inl rfl
  ·exact .inr (ho.ty (by simpa using hj)).2
 ·rcases ho2 with h|⟨g,h,hg⟩
  ·exact(ho.ty h.symm).2
  ·cases h
   simp at hg
   omega
end
end Go.Proofs.YtjmkkcckfbnmeaaGreatDoor
namespace Go.Proofs.YtjmkkcckfbnmeaaGreatDoor.Co
open Go.RowKit Go.Shelf
attribute [local go_sem] Oper.semAt_some
theorem ext0 (s:ByteArray):s.extract 0 (⟨#[]⟩:ByteArray).size=⟨#[]⟩:=by
 have:(⟨#[]⟩:ByteArray).size=0:=rfl
 rw[this]
 apply ByteArray.ext
 simp
theorem idx_nil (ks:List ByteArray):idx ks ⟨#[]⟩=0:=by
 unfold idx
 cases ks with
 | nil=>rfl
 | cons x l=>simp[kl]
def itm (x:Oc.Ent):M.Item:=⟨x.1,x.2.1,false,x.2.2⟩
def LI (w1:World)(n₁ C:Nat)(pre:List Oc.Ent)(W:World):Prop:=∃ v,Holds W C 51 #[v]∧Ev.ItsAt W n₁ v (pre.map itm)∧Kx n₁ C w1 W
def LA (f:Value→Value→Value→Act)(x:Oc.Ent)(a:Act)(W:World):Prop:=∃ b,a=f (.string x.1) (.agg #[.int .i64 x.2.1,.string x.2.2]) (.pointer (some ⟨b,0,none⟩))∧Holds W b 258 #[.int .i64 x.2.1,.string x.2.2]
theorem live_any (w:World)(B g:Nat)(c:M.Col)(h:ColAt w B g c)(hl:c.cards.length≤100)(hB:B≤w.heap.size) :
  Calls Tryz.prog 242 #[.pointer (some ⟨g,0,none⟩)] w fun e w'=>∃ v,e = .returned v∧Ev.ItsAt w' B v (M.items c)∧Fr [] w w':=by
 obtain⟨i3,hi,hz0,hz1,hz2⟩:=info_parts Ev.infoI
 obtain⟨m,r,hm,hr,h1,h2,h3⟩:=h
 have c0:=h1.cell 0
 simp at c0
 have hgl:=h1.lt
 obtain⟨C,hC⟩:∃ C,w.heap.size=C:=⟨_,rfl⟩
 have HG:=hid (And.intro hgl hC)
 clear h3 h1 hC
 refine(callsIn_wide (n:=8)).1 ?_
 refine callsIn_of_wp_marks Tryz.func242 rfl trivial ?_ rfl
 simp only[Tryz.ntmps242,List.size_toArray,List.length_cons,List.length_nil,Nat.reduceAdd,Nat.reduceSub,Array.replicate_succ,Array.replicate_zero,List.push_toArray,List.append_toArray,List.nil_append,List.cons_append]
 refine wpIn_wide.2 ?_
 go_wp2_with fail
 refine(Oc.all_any _ m).mono ?_
 rintro e w1 ⟨rfl,hw1⟩
 simp only[World.size_alloc,HG.out.2] at hw1 ⊢
 go_wp2_with fail
 have hs1:w1.heap.size=C+1+1+1:=by rw[hw1];simp[HG.out.2]
 have F1:Fr [] w w1:=by rw[hw1];exact(((Fr.refl _ _).alloc _).alloc _).alloc _
 have b0:Holds w1 C 51 #[.slice none 0 0]:=by rw[hw1];exact((at_new HG.out.2).alloc _).alloc _
 have b1:Holds w1 (C+1) 253 #[.pointer (some ⟨m,0,none⟩)]:=by rw[hw1];exact(at_new (by simp[HG.out.2])).alloc _
 have b2:Holds w1 (C+1+1) 9 #[.string ⟨#[]⟩]:=by rw[hw1];exact at_new (by simp[HG.out.2])
 have hM1:=h2.fr0 F1
 have c1:=b1.cell 0
 have c2:=b2.cell 0
 simp at c1 c2
 have hml:m<C:=by
  obtain⟨v,q,_⟩:=h2.at_
  rw[←HG.out.2]
  exact q.lt
 have hown:∀ v k,w1.cell? ⟨m,0,none⟩=some v→ownOf v=some k→k<C+1+1+1∧k≠C:=by
  intro v k hv hk
  obtain⟨v',q,q2⟩:=h2.at_
  have e:=(q.fr F1 (by simp)).cell 0
  rw[hv] at e
  simp at e
  subst e
  obtain⟨ht,_⟩:=q2.ty hk
  have:k<w.heap.size:=by
   rcases q2 with⟨rfl,_⟩|⟨g',cap,_,rfl,hr'⟩
   ·cases hk
   ·cases hk
    exact hr'.lt
  rw[HG.out.2] at this
  omega
 have hI0:LI w1 (C+1+1+1) C [] w1:=⟨_,b0,Own.nil _ _ _ _,Kx.refl _ _ _⟩
 have HX:=hid (And.intro F1 hB)
 have hlen:(ents c.cards).length≤100:=by simpa[ents] using hl
 clear hw1 F1 b0 b1 b2 h2 c0
 refine(wpIn_wide (n:=8)).1 ?_
 refine wpIn_rangeFunc_ownH (F:=Fence.wide) rfl (by omega) (gf:=336) (lb:=#[.pointer (some ⟨C+1,0,none⟩),.pointer (some ⟨C+1+1,0,none⟩)]) rfl trivial (enters_of Tryz.func336 (by kernel_rfl) rfl)
  (Oc.under_stops (8 - 1) (by omega) B (C+1) (C+1+1) m (C+1+1+1) C (ents c.cards) ⟨#[]⟩ (fun x _=>⟨Nat.zero_le _,ext0 _⟩) (idx_nil _) w1 hM1 c1 c2 (by omega) (by omega) (by omega) (by omega) hown) (fun h k=>h.trans k) ?keepb (Below.refl _ _) (fun _=>rfl)
  (LI w1 (C+1+1+1) C) (fun _ _ _=>False) ?own1 (fun _ _ _ _ _ h=>h.elim) hI0
  (LA fun s y b=>{ tmps:=#[.pointer (some ⟨g,0,none⟩),undef,.slice none 0 0,.pointer (some ⟨C,0,none⟩),s,b,.pointer (some ⟨g,0,none⟩),.pointer (some ⟨g,0,none⟩),.pointer (some ⟨g,0,none⟩),.pointer (some ⟨m,0,none⟩),.func (.func 336) #[] #[.pointer (some ⟨C+1,0,none⟩),.pointer (some ⟨C+1+1,0,none⟩)],s,y,undef,undef,undef,undef,undef,undef,undef,undef,undef,undef],defers:=[] }) ?own3 ?assign ?body ?done ?stop
 case keepb=>exact fun W l o o' h1 h2 _ _=>kx_grown (Kx.refl _ _ W) (grownBy_putObj' W l o') (by have:=(Array.getElem?_eq_some_iff.1 h2).1;omega) (fun r e=>by cases e;omega)
 case own1 =>
  rintro s X Y row ⟨v,a,b,k⟩ hg hr
  exact⟨v,holds_grown a hg fun r e=>(hr r e).2,own_grown b hg fun r e=>(hr r e).2,kx_grown k hg (by omega) fun r e=>by have:=(hr r e).1;omega⟩
 case own3 =>
  rintro x a' s X Y row ⟨b,e,hb⟩ hg hr
  exact⟨b,e,holds_grown hb hg fun r e=>(hr r e).2⟩
 case assign =>
  intro l pre x W K hI hK
  simp only[Oc.enc]
  gi_wp2
  have f:Fr [] W (W.alloc (.cells #[.int .i64 x.2.1,.string x.2.2] 258)):=(Fr.refl _ _).alloc _
  obtain⟨v,a,b,k⟩:=hI
  have hW:=k.size
  exact hK _ _ ((KeepsOthers.alloc W _).from _) (Kx.of_fr f (by omega)) ⟨v,a.fr f (by simp),b.fr0 f,k.trans (Kx.of_fr f (by omega))⟩ ⟨_,rfl,Holds.new _ _ _⟩
 case body =>
  rintro l pre x a' W hl _ ⟨v,hb,ho,kx⟩ ⟨b,rfl,hbx⟩ hlen2
  obtain⟨av,cv,hv⟩:=ho.form
  rw[List.length_map] at hv
  have ho':Own W (C+1+1+1) 154 4 v pre.length (flat Ev.ic (pre.map itm)):=by
   have h':=ho
   unfold Ev.ItsAt at h'
   rwa [List.length_map] at h'
  have hW:=kx.size
  subst hv
  have HB:=hid (And.intro hb (And.intro ho' (And.intro kx hlen2)))
  have cb:=hb.cell 0
  have zb:=hb.frozen 0
  have e0:=hbx.cell 0
  have e1:=hbx.cell 1
  have hCl:=hb.lt
  have hbl:=hbx.lt
  simp at cb e0 e1
  have hpl:pre.length≤100:=by omega
  clear hb ho ho' kx hbx hI0 hlen2
  gi_wp2_with (gi_at_builtin;go_loud (refine wpListIn_append_sl rfl (.tmp 13) (.tmp 20) 51 rfl i3 _ 48 Tryz.underlying51 hi hz0 hz1 hz2 rfl (by decide) _ (ownOf (.slice av pre.length cv)) rfl (HB.out.2.1.sl.fr0 ((Fr.refl [] W).alloc _)) _ 1 1 (Ev.ic (itm x)) rfl rfl (cells_holds (at_new (t:=154) (cs:=(Ev.ic (itm x)).toArray) (by simp))) (Ev.ic_one _) (by unfold maxLen;omega) (by omega) ?_;intro v2 W2 own2 hs2 hf2 ho2 hm2;obtain⟨g2,rfl⟩:=hm2 (by omega);obtain⟨c2,rfl,r2⟩:=hs2.own_row;have HP:=hid (box_push (D:=w1.heap.size) HB.out.1 HB.out.2.1 (by decide) (by omega) hf2 r2 ho2);have y0:=((HB.out.1.alloc _).fr hf2 (own_not HB.out.1 HB.out.2.1 (by decide))).frozen 0;have y1:=((HB.out.1.alloc _).fr hf2 (own_not HB.out.1 HB.out.2.1 (by decide))).cell 0;simp at y1))
  refine⟨HP.out.1,HP.out.2.1,_,HP.out.2.2.1,?_,HB.out.2.2.1.trans HP.out.2.1⟩
  have h':=HP.out.2.2.2
  unfold Ev.ItsAt
  rw[List.length_map,List.length_append,List.map_append,flat_append]
  exact h'
 case done =>
  rintro D xs W hD rfl ⟨v,hb,ho,kx⟩ hm
  obtain⟨av,cv,hv⟩:=ho.form
  subst hv
  have cb:=hb.cell 0
  simp at cb
  have HB:=hid (And.intro ho (And.intro kx hm))
  clear hb ho kx hm hI0
  go_wp2_with fail
  have hg:=grownBy_putObj' W D (.deferred none)
  have hcell:∀ r,some D=some r→∃ o:Obj,W.heap[r]? = some o∧o.isCells=false:=fun r e=>by
   cases e
   exact⟨_,HB.out.2.2,rfl⟩
  have f:Fr [] w (W.putObj D (.deferred none)):=by
   have k:=kx_grown HB.out.2.1 hg (by omega) (fun r e=>by cases e;omega)
   refine⟨k.os.trans HX.out.1.os,k.tape.trans HX.out.1.tape,k.output.trans HX.out.1.output,Nat.le_trans HX.out.1.size k.size,fun j hj _=>?_⟩
   have hC:=HG.out.2
   exact(k.block j (by omega) (by omega)).trans (HX.out.1.block j hj (by simp))
  have hi:Ev.ItsAt (W.putObj D (.deferred none)) B (.slice av (ents c.cards).length cv) (M.items c):=by
   have h':=own_grown HB.out.1 hg hcell
   have e:(ents c.cards).map itm=M.items c:=by simp[ents,M.items,itm,ent]
   rw[List.length_map] at h'
   rw[←e]
   unfold Ev.ItsAt
   rw[List.length_map]
   exact own_lower h' (by have:=HX.out.2;have:=HG.out.2;omega)
  refine⟨by simp,.inl ⟨_,_,rfl,run_takeDeferred HB.out.2.2,?_⟩⟩
  exact⟨_,(results_tmp (t:=2) rfl _ _ _),_,rfl,hi,f⟩
 case stop=>exact fun D c pre W _ _ h _=>h.elim
end Go.Proofs.YtjmkkcckfbnmeaaGreatDoor.Co
