/- Walks. -/
import Derived.Test.YtocppjcocnckmaaGreatDoorM31
import Derived.Test.YtocppjcocnckmaaGreatDoorM42
import Derived.Maps.OwnIn
import Derived.Maps.Views
import Derived.StringKeys
set_option maxRecDepth 100000
set_option maxHeartbeats 8000000
set_option linter.all false
open Go.Lib (hid)
namespace Go.Proofs.YtocppjcocnckmaaGreatDoor
open Go.Proofs.Tryz
namespace Co
open Go.RowKit Go.Shelf Go.Maps
attribute [local go_sem] Oper.semAt_some
def cnt (u:ByteArray)(l:List (Int × ByteArray)):Nat:=(l.filter λx=>decide (x.2=u)).length
def fQ (w:World)(b k:Nat)(l:List (Int × ByteArray)):Prop:=∃ D:DataW Unit,IsMap D/\w.ownsMap prog 9 (plainElem prog 3) b k D/\∀ u:ByteArray,u.size<=maxLen->D.atKey (.string u.data.toList) (.lit (.int .i64 0)) = .lit (.int .i64 (cnt u l))
theorem zp (w:World):(zeroValue 3).run prog w = .ok (.int .i64 0) w:=by kernel_rfl
def itb (c:M.Col)(x:Int × ByteArray):M.Item:=match M.bR c.ah x.2 with|some e=>⟨x.2,e.version,false,e.text⟩|none=>⟨x.2,x.1,true,⟨#[]⟩⟩
def fp (c:M.Col)(token:Int)(pre:List (Int × ByteArray)):List M.Item:=M.dP c token pre []
theorem n9 (u:ByteArray)(l:List (Int × ByteArray))(x:Int × ByteArray):cnt u (l++[x])=cnt u l+(if x.2=u then 1 else 0):=by
 unfold cnt
 rw[List.filter_append,List.length_append]
 by_cases h:x.2=u<;>simp[h]
theorem qz (u:ByteArray)(l:List (Int × ByteArray)):cnt u l<=l.length:=List.length_filter_le _ _
theorem wv {u:ByteArray}{l:List (Int × ByteArray)} : 0<cnt u l ↔ ∃ x∈l,x.2=u:=by
 unfold cnt
 rw[List.length_pos_iff_exists_mem]
 simp[List.mem_filter]
theorem lY (c:M.Col)(token:Int)(x:Int × ByteArray):∀ (l:List (Int × ByteArray)) (seen:List ByteArray),M.dP c token (l++[x]) seen=M.dP c token l seen++M.dP c token [x] (l.reverse.map (·.2)++seen)
 | [],seen=>rfl
 | (t,u)::l,seen=>by
  have ih:=lY c token x l (u::seen)
  rw[List.cons_append,M.dP,M.dP]
  simp only[List.reverse_cons,List.map_append,List.map_cons,List.map_nil,List.append_assoc,List.singleton_append]
  split
  ·exact ih
  rw[ih]
  rfl
theorem sM {c:M.Col}{token:Int}{pre:List (Int × ByteArray)}{x:Int × ByteArray}(h:x.1<=token∨0<cnt x.2 pre):fp c token (pre++[x])=fp c token pre:=by
 unfold fp
 rw[lY]
 have:(decide (x.1<=token)||(pre.reverse.map (λy:Int × ByteArray=>y.2)++[]).contains x.2)=true:=by
  have:=M.oy
  rcases h with h|h
  ·simp[h]
  obtain⟨y,hy,e⟩:=wv.1 h
  simp only[Bool.or_eq_true,decide_eq_true_eq,List.contains_iff_mem,List.append_nil,List.mem_map,List.mem_reverse]
  exact .inr ⟨y,hy,e⟩
 rw[M.dP,if_pos this]
 simp[M.dP]
theorem sN {c:M.Col}{token:Int}{pre:List (Int × ByteArray)}{x:Int × ByteArray}(h:¬ x.1<=token)(h0:¬ 0<cnt x.2 pre):fp c token (pre++[x])=fp c token pre++[itb c x]:=by
 unfold fp
 rw[lY]
 have:¬ ((decide (x.1<=token)||(pre.reverse.map (λy:Int × ByteArray=>y.2)++[]).contains x.2)=true):=by
  have:=M.oy
  simp only[Bool.or_eq_true,decide_eq_true_eq,List.contains_iff_mem,List.append_nil,List.mem_map,List.mem_reverse,not_or]
  exact⟨h,λ⟨y,hy,e⟩=>h0 (wv.2 ⟨y,hy,e⟩)⟩
 rw[M.dP,if_neg this]
 rfl
theorem Ae {W:World}{b k:Nat}{pre:List (Int × ByteArray)}{x:Int × ByteArray}{D:DataW Unit}(hD:IsMap D)(hm:W.ownsMap prog 9 (plainElem prog 3) b (k+1) (D.put (.string x.2.data.toList) (.lit (.int .i64 ((cnt x.2 pre:Int)+1)))))
  (h:∀ u:ByteArray,u.size<=maxLen->D.atKey (.string u.data.toList) (.lit (.int .i64 0)) = .lit (.int .i64 (cnt u pre))):fQ W b (k+1) (pre++[x]):=by
 refine⟨_,?_,hm,λu hu=>?_⟩
 ·obtain⟨es,rfl⟩:=hD
  exact⟨_,rfl⟩
 rw[n9]
 by_cases e:x.2=u
 ·subst e
  rw[if_pos rfl,atKey_put_same hD (by trivial)]
  simp
 rw[if_neg e,atKey_put_other (λh=>e (by
  injection h with h1
  exact(ByteArray.ext (Array.toList_inj.1 h1)).symm)),h u hu]
 simp
def SI (w1:World)(n₁ O D S:Nat)(c:M.Col)(token:Int)(pre:List Rg.X)(W:World):Prop:=∃ v,Holds W O 53 #[v]/\Ev.aV W n₁ v (fp c token (pre.map (·.1)))/\fQ W D pre.length (pre.map (·.1))/\Kz n₁ O D w1 W
def SA (f:Value->Value->Act)(x:Rg.X)(a:Act)(W:World):Prop:=∃ b,a=f (.agg #[.int .i64 x.1.1,.string x.1.2]) (.pointer (some ⟨b,0,none⟩))/\Holds W b 262 #[.int .i64 x.1.1,.string x.1.2]
theorem sr {W w w':World}{n₁ C D:Nat}{row:Option Nat}(h:Kz n₁ C D W w)(hg:w.grownBy w' row)(hn:n₁<=W.heap.size)(hr:∀ r,row=some r->n₁<=r):Kz n₁ C D W w' :=
 ⟨hg.os.trans h.os,hg.tape.trans h.tape,hg.output.trans h.output,Nat.le_trans h.size hg.size,λk hk hC hD=>(hg.block k (by have:=h.size;omega) (λe=>by
  have:=hr k e.symm
  omega)).trans (h.block k hk hC hD)⟩
theorem fQ.same {W W':World}{b k:Nat}{l:List (Int × ByteArray)}(h:fQ W b k l)(e:W'.heap[b]? = W.heap[b]?):fQ W' b k l:=by
 obtain⟨D,h1,⟨es,ck,h2,h3⟩,h4⟩:=h
 exact⟨D,h1,⟨es,ck,e.trans h2,h3⟩,h4⟩
theorem s8 (c:M.Col)(token:Int):∀ (l:List (Int × ByteArray)) (seen:List ByteArray),(M.dP c token l seen).length<=l.length
 | [],_=>by simp[M.dP]
 | (t,u)::l,seen=>by
  have ih:=s8 c token l (u::seen)
  rw[M.dP]
  split
  ·simp;omega
  simp;exact ih
theorem su {W W':World}{D:Nat}(h:Fr [] W W'):KeepsFrom D W W':=jq h (λk hk=>by cases hk)
theorem FY {w w1 W:World}{n₁ O D:Nat}(h:Fr [] w w1)(k:Kz n₁ O D w1 W)(hn:w.heap.size<=n₁)(hO:w.heap.size<=O)(hD:w.heap.size<=D):Fr [] w W :=
 ⟨k.os.trans h.os,k.tape.trans h.tape,k.output.trans h.output,Nat.le_trans h.size k.size,λi hi _=>(k.block i (by omega) (by omega) (by omega)).trans (h.block i hi (by simp))⟩
theorem Kz.vZ {n₁ O D:Nat}{W W':World}(k:Kx n₁ O W W'):Kz n₁ O D W W':=⟨k.os,k.tape,k.output,k.size,λi hi hO _=>k.block i hi hO⟩
theorem cG {W W':World}{D b o:Nat}(hg:W.grownBy W' (some D))(hb:b<W.heap.size)(hne:b≠D):W'.cell? ⟨b,o,none⟩=W.cell? ⟨b,o,none⟩:=World.cell?_of_block (hg.block b hb (λe=>hne (Option.some.inj e)))
theorem qe {W:World}{b t D n:Nat}{cs:Array Value}{P:Program}{k:TypeId}{R:Value->Option (DataW Unit × List MemPlace)}{d:DataW Unit}(h:Holds W b t cs)(hm:W.ownsMap P k R D n d):b≠D:=λe=>by
 obtain⟨es,ck,h1,_⟩:=hm
 have h2:W.heap[b]? = _:=h
 rw[e,h1] at h2
 cases h2
theorem fQ.kept {w w':World}{b k:Nat}{l:List (Int × ByteArray)}{row:Option Nat}(h:fQ w b k l)(hg:w.grownBy w' row)(hne:some b≠row):fQ w' b k l:=by
 obtain⟨D,h1,h2,h3⟩:=h
 exact⟨D,h1,h2.kept hg hne,h3⟩
theorem fQ.fr0 {w w':World}{b k:Nat}{l:List (Int × ByteArray)}(h:fQ w b k l)(hf:Fr [] w w'):fQ w' b k l:=h.kept (sA hf) (by simp)
theorem CM (w:World)(B:Nat)(v:Value)(l:List M.Item)(h:Ev.aV w B v l)(hx:l=[]∨∃ x y:M.Item,l=[x,y]/\y.version=x.version/\Lib.compareBytes y.uid.data.toList x.uid.data.toList = -1) :
  Calls prog 248 #[v,.func (.func 249) #[] #[]] w λe w'=>e = .returned (.tuple #[])/\Ev.aV w' B v l.reverse/\∃ S,(∀ k,k∈S->B<=k/\∃ o:Obj,w.heap[k]? = some o/\o.isCells=true)/\Fr S w w':=by
 rcases hx with rfl|⟨x,y,rfl,hv,hs⟩
 ·refine uu (So.qX w B v [] h rfl (by simp)) λw' f=>?_
  exact⟨rfl,h.fr0 f,[],by simp,f⟩
 rcases h with⟨_,h,_⟩|⟨g,cap,hB,rfl,hr⟩
 ·exact absurd h (by simp)
 refine(So.zU w g cap x y hr hv hs).mono ?_
 rintro e w' ⟨rfl,hr',f⟩
 obtain⟨o,ho,hc⟩:=iz hr
 exact⟨rfl,.inr ⟨g,cap,hB,rfl,hr'⟩,[g],by simp;exact⟨hB,o,ho,hc⟩,f⟩
theorem tK (w:World)(B g:Nat)(c:M.Col)(token:Int)(h:bX w B g c)(hB:B<=w.heap.size)(h0:token≠0)(h1:¬ token<c.aG)(h2:¬ token > c.az)(hu:∀ x∈c.log,x.2.size<=1000)(hx:fp c token c.log.reverse=[]∨∃ x y:M.Item,fp c token c.log.reverse=[x,y]/\y.version=x.version/\Lib.compareBytes y.uid.data.toList x.uid.data.toList = -1) :
  Calls prog 216 #[.pointer (some ⟨g,0,none⟩),.int .i64 token] w λe w'=>∃ v,e = .returned (.tuple #[v,.int .i64 0])/\Ev.aV w' B v (fp c token c.log.reverse).reverse/\Fr [] w w':=by
 obtain⟨i3,hi,hz0,hz1,hz2⟩:=info_parts Ev.pf
 have hmm:=@run_makeMap prog
 have HXY:=hid hx
 have HB0:=hid hB
 clear hx hB
 obtain⟨C,hC⟩:∃ C,w.heap.size=C:=⟨_,rfl⟩
 have HC:=hid hC
 obtain⟨w0,hw0⟩:∃ w0,w0=((w.alloc (.cells #[.pointer (some ⟨g,0,none⟩)] 197)).alloc (.cells #[.int .i64 token] 2)).alloc (.cells #[.slice none 0 0] 53):=⟨_,rfl⟩
 have f0:Fr [] w w0:=by rw[hw0];exact((rZ.alloc _).alloc _).alloc _
 have b0:Holds w0 C 197 #[.pointer (some ⟨g,0,none⟩)]:=by rw[hw0];exact((aE hC).alloc _).alloc _
 have b1:Holds w0 (C+1) 2 #[.int .i64 token]:=by rw[hw0];exact(aE (by simp[hC])).alloc _
 have b2:Holds w0 (C+1+1) 53 #[.slice none 0 0]:=by rw[hw0];exact aE (by simp[hC])
 have hs0:w0.heap.size=C+1+1+1:=by rw[hw0];simp[hC]
 obtain⟨m,r,hm,hr,p00,mp00,rp00⟩:=h
 have p0:=p00.fr f0 (by simp)
 have mp0:=mp00.fr0 f0
 have rp0:=rp00.fr0 f0
 have c0:=b0.cell 0
 have c1:=b1.cell 0
 have c4:=p0.cell 4
 have c5:=p0.cell 5
 have c6:=p0.cell 1
 simp at c0 c1 c4 c5 c6
 have n1:(token==0)=false:=by simpa using h0
 have n2:decide (token<c.aG)=false:=decide_eq_false h1
 have n3:decide (token > c.az)=false:=decide_eq_false h2
 have hrl:r<C:=by
  obtain⟨_,va,q,_⟩:=rp00
  rw[<-hC]
  exact q.lt
 have hgl:g<C:=by rw[<-hC];exact p00.lt
 have hown0:∀ v k,w.cell? ⟨r,1,none⟩=some v->ay v=some k->k<C:=λv k hv hk=>by
  obtain⟨_,va,q,q2⟩:=rp00
  have e:=q.cell 1
  rw[hv] at e
  simp at e
  subst e
  rw[<-hC]
  rcases q2 with⟨rfl,_⟩|⟨g',cap,_,rfl,hr'⟩
  ·cases hk
  cases hk
  exact hr'.lt
 have HO:=hid hown0
 have H:=hid (And.intro (show bX w B g c from ⟨m,r,hm,hr,p00,mp00,rp00⟩) (And.intro f0 (And.intro b2 (And.intro hm (And.intro hr (And.intro mp0 rp0))))))
 have HN:=hid (And.intro h0 (And.intro h1 h2))
 have HS:=hid hs0
 clear hC f0 b0 b1 b2 mp0 rp0 hm hr h0 h1 h2 hs0 p00 mp00 rp00 hown0
 refine(callsIn_wide (n:=8)).1 ?_
 refine callsIn_of_wp_marks func216 rfl trivial ?_ rfl
 simp only[ntmps216,List.size_toArray,List.length_cons,List.length_nil,Nat.reduceAdd,Nat.reduceSub,Array.replicate_succ,Array.replicate_zero,List.push_toArray,List.append_toArray,List.nil_append,List.cons_append]
 refine wpIn_wide.2 ?_
 go_wp2_with fail
 rw[<-hw0]
 simp only[HC.out]
 clear hw0
 go_quiet (fail)
 obtain⟨W,hW⟩:∃ W,W=w0.drewN nq:=⟨_,rfl⟩
 have fW:Fr [] w0 W:=by rw[hW];exact rZ.drewN _
 have hsW:W.heap.size=C+1+1+1:=by rw[hW];exact HS
 have d0:=fW.cell c0 (block_lt_of_cell c0) (by simp)
 have d1:=fW.cell c1 (block_lt_of_cell c1) (by simp)
 have d6:=fW.cell c6 (block_lt_of_cell c6) (by simp)
 have hgW:=block_lt_of_cell d6
 simp only at hgW
 rw[hsW] at hgW
 rw[<-hW]
 clear hW c0 c1 c4 c5 c6 n1 n2 n3
 go_wp2_with fail
 refine uu (Rg.zh _ r) λw1 hw1=>?_
 simp only[World.size_alloc,hsW] at hw1 ⊢
 go_wp2_with fail
 have hs1:w1.heap.size=C+1+1+1+1+1+1:=by rw[hw1];simp[hsW]
 have kf1:Fr [] W w1:=by rw[hw1];exact((rZ.alloc _).alloc _).alloc _
 have F1:Fr [] w0 w1:=fW.trans kf1
 have b2:Holds w1 (C+1+1) 53 #[.slice none 0 0]:=H.2.2.1.fr F1 (by simp)
 have bm:fQ w1 (C+1+1+1) 0 []:=by
  have h1:=World.ownsMap_made W prog 9 (plainElem (H:=Unit) prog 3)
  rw[hsW] at h1
  refine⟨.map [],isMap_empty,by rw[hw1];exact(h1.alloc _).alloc _,λu _=>?_⟩
  simp[cnt]
  rfl
 have bs:Holds w1 (C+1+1+1+1) 344 #[.map (some (C+1+1+1))]:=by rw[hw1];exact(aE (by simp[hsW])).alloc _
 have br:Holds w1 (C+1+1+1+1+1) 255 #[.pointer (some ⟨r,0,none⟩)]:=by rw[hw1];exact aE (by simp[hsW])
 have hR1:=H.2.2.2.2.2.2.fr0 F1
 have cr:=br.cell 0
 simp at cr
 obtain⟨L,hLL⟩:∃ L:List Rg.X,L.map (·.1)=c.log:=⟨c.log.attachWith _ hu,List.attachWith_map_subtype_val ..⟩
 have HLL:=hid hLL
 rw[<-hLL] at hR1
 clear hLL
 have hI0:SI w1 (C+1+1+1+1+1+1) (C+1+1) (C+1+1+1) (C+1+1+1+1) c token [] w1:=⟨_,b2,Own.nil _ _ _ _,bm,Kz.refl _ _ _ _⟩
 have hown:∀ v k,w1.cell? ⟨r,1,none⟩=some v->ay v=some k->k<C+1+1+1+1+1+1/\k≠C+1+1/\k≠C+1+1+1:=λv k hv hk=>by
  have:=HO.out v k (by rw[<-hv];exact((H.2.1.trans F1).ob (by have:=HC.out;omega)).symm) hk
  omega
 have HX:=hid (And.intro kf1 (And.intro F1 (And.intro hsW (And.intro br hR1))))
 have HM:=hid (H.2.2.2.2.2.1.fr0 F1)
 have cS:=bs.cell 0
 have cC:=kf1.cell d0 (block_lt_of_cell d0) (by simp)
 have cT:=kf1.cell d1 (block_lt_of_cell d1) (by simp)
 simp at cS
 clear hw1 kf1 F1 b2 bm bs br p0 fW d0 d1 d6 hgW hmm
 refine(wpIn_wide (n:=8)).1 ?_
 refine wpIn_rangeFunc_ownH (F:=Fence.wide) ?a1 ?a2 (gf:=290) (lb:=#[.pointer (some ⟨C+1+1+1+1+1,0,none⟩)]) ?a3 ?a4 (enters_of func290 (by kernel_rfl) rfl)
  (Rg.vC (8 - 1) (by omega) B (C+1+1+1+1+1) r (C+1+1+1+1+1+1) (C+1+1) (C+1+1+1) c.aj L w1 hR1 cr (by omega) (by omega) (by omega) hown) (λh k=>h.trans k) ?keepb (Below.refl _ _) ?hsz
  (SI w1 (C+1+1+1+1+1+1) (C+1+1) (C+1+1+1) (C+1+1+1+1) c token) (λ_ _ _=>False) ?own1 (λ_ _ _ _ _ h=>h.elim) hI0
  (SA λs b=>{ tmps:=#[.pointer (some ⟨g,0,none⟩),.int .i64 token,.pointer (some ⟨C,0,none⟩),.pointer (some ⟨C+1,0,none⟩),.slice none 0 0,.int .i64 0,.pointer (some ⟨C+1+1,0,none⟩),.pointer (some ⟨C+1+1+1+1,0,none⟩),b,undef,undef,undef,undef,.map (some (C+1+1+1)),.pointer (some ⟨g,0,none⟩),.pointer (some ⟨g,0,none⟩),.pointer (some ⟨g,1,none⟩),.pointer (some ⟨r,0,none⟩),.func (.func 290) #[] #[.pointer (some ⟨C+1+1+1+1+1,0,none⟩)],s,undef,undef,undef,undef,undef,undef,undef,undef,undef,undef,undef,undef,undef,undef,undef,undef,undef,undef,undef,undef,undef,undef,undef,undef,undef,undef,undef,undef,undef,undef,undef,undef,undef,undef,undef,undef,undef,undef,undef,.bool false,.int .i64 token,.bool false,undef,undef,.bool false,.int .i64 token,.pointer (some ⟨g,0,none⟩),.pointer (some ⟨g,0,none⟩),.pointer (some ⟨g,5,none⟩),.int .i64 c.aG,.bool false,.bool false,.int .i64 token,.pointer (some ⟨g,0,none⟩),.pointer (some ⟨g,0,none⟩),.pointer (some ⟨g,4,none⟩),.int .i64 c.az,.bool false,.bool false,undef,undef,undef],defers:=[] }) ?own3 ?assign ?body ?done ?stop
 case hsz=>exact λ_=>rfl
 case a1=>rfl
 case a2=>omega
 case a3=>rfl
 case a4=>trivial
 case keepb=>exact λW l o o' h1 h2 _ _=>sr (Kz.refl _ _ _ W) (grownBy_putObj' W l o') (by have:=(Array.getElem?_eq_some_iff.1 h2).1;omega) (λr e=>by cases e;omega)
 case own1 =>
  rintro s X Y row ⟨v,a,b,k,z⟩ hg hr
  exact⟨v,gu a hg λr e=>(hr r e).2,iE b hg λr e=>(hr r e).2,k.kept hg (λe=>by have:=(hr _ e.symm).1;omega),sr z hg (by omega) λr e=>by have:=(hr r e).1;omega⟩
 case own3 =>
  rintro x a' s X Y row ⟨b,e,hb⟩ hg hr
  exact⟨b,e,gu hb hg λr e=>(hr r e).2⟩
 case assign =>
  intro l pre x W2 K hI hK
  simp only[Rg.enc]
  gi_wp2
  have f:Fr [] W2 (W2.alloc (.cells #[.int .i64 x.1.1,.string x.1.2] 262)):=rZ.alloc _
  obtain⟨v,a,b,z,k⟩:=hI
  have hW:=k.size
  exact hK _ _ ((KeepsOthers.alloc W2 _).from _) (Kz.bY f (by omega)) ⟨v,a.fr f (by simp),b.fr0 f,z.fr0 f,k.trans (Kz.bY f (by omega))⟩ ⟨_,rfl,Holds.new _ _ _⟩
 case stop=>exact λD c pre W _ _ h _=>h.elim
 case body =>
  rintro l pre x a' W2 hl _ ⟨v,hb,ho,hsn,kx⟩ ⟨b,rfl,hbx⟩ hlen2
  obtain⟨D0,hD1,hD2,hD3⟩:=hsn
  obtain⟨x,hux⟩:=x
  simp only at hbx hux
  obtain⟨pr,hpr⟩:∃ pr:List (Int × ByteArray),pre.map (·.1)=pr:=⟨_,rfl⟩
  have hprl:pr.length=pre.length:=by rw[<-hpr];simp
  rw[hpr] at ho hD3
  have HPR:=hid (And.intro hpr hprl)
  have hkey:keyOf prog 9 (.string x.2)=some (.string x.2.data.toList):=Go.WideMaps.keyOf_string_mk underlying9 (by unfold maxLen;omega)
  have law:Keyed prog 9:=string_keyed underlying9
  obtain⟨cN,hrun,hat,hwc⟩:=hD2.lookup_int law underlying344 underlying3 (zp _) hkey
  have hcN:cN=(cnt x.2 pr:Int):=by
   rw[hD3 x.2 (by unfold maxLen;omega)] at hat
   simpa using hat.symm
  subst hcN
  have hlL:=hR1.len
  rw[List.length_map] at hlL
  clear hpr hprl
  have hpl:pre.length<=100:=by omega
  have hcl:cnt x.2 pr<=100:=by have:=qz x.2 pr;have:=HPR.2;omega
  have yS:=(kx.cell (b:=C+1+1+1+1) (o:=0) (by omega) (by omega)).trans cS
  have yT:=(kx.cell (b:=C+1) (o:=0) (by omega) (by omega)).trans cT
  have yC:=(kx.cell (b:=C) (o:=0) (by omega) (by omega)).trans cC
  have e0:=hbx.cell 0
  have e1:=hbx.cell 1
  simp at e0 e1
  have hbl:=hbx.lt
  have HB:=hid (And.intro hb (And.intro ho (And.intro kx (And.intro hbx (And.intro hD1 (And.intro hD2 (And.intro hD3 hlen2)))))))
  have hw1:IntKind.i64.wrap ((cnt x.2 pr:Int)+1)=(cnt x.2 pr:Int)+1:=IntWalk.i64_in _ (by omega)
  have hbD:b≠C+1+1+1:=qe hbx hD2
  have hWs:=kx.size
  rw[hs1] at hWs
  have lS:C+1+1+1+1<W2.heap.size:=by omega
  have lT:C+1<W2.heap.size:=by omega
  have lC:C<W2.heap.size:=by omega
  clear hb ho kx hbx hD1 hD3 hat hlen2 hI0 hu
  have HKp:∀ W3:World,W2.grownBy W3 (some (C+1+1+1))->(∀ o:DataW Unit,W3.ownsMap prog 9 (plainElem prog 3) (C+1+1+1) (pre.length+1) o->o=D0.put (.string x.2.data.toList) (.lit (.int .i64 ((cnt x.2 pr:Int)+1)))->KeepsFrom (C+1+1+1+1+1+1) W2 W3/\Kz (C+1+1+1+1+1+1) (C+1+1) (C+1+1+1) W2 W3/\Holds W3 (C+1+1) 53 #[v]/\Ev.aV W3 (C+1+1+1+1+1+1) v (fp c token pr)/\fQ W3 (C+1+1+1) (pre.length+1) (pr++[x])):=λW3 hg o ho e=>by
   subst e
   obtain⟨hb,hi',kx,hbx,hD1,hD2,hD3,hlen2⟩:=HB.out
   have hnc:∀ r,some (C+1+1+1)=some r->∃ o:Obj,W2.heap[r]? = some o/\o.isCells=false:=λr e=>by
    cases e
    obtain⟨es,ck,h1,_⟩:=hD2
    exact⟨_,h1,rfl⟩
   refine⟨⟨hg.size,λk o hk hko hc=>(hg.block k (Array.getElem?_eq_some_iff.1 hko).1 (λe=>by cases e;omega)).trans hko⟩,⟨hg.os,hg.tape,hg.output,hg.size,λk hk hC hD=>hg.block k (by omega) (λe=>hD (Option.some.inj e))⟩,gu hb hg hnc,iE hi' hg hnc,Ae hD1 ho hD3⟩
  by_cases hle:x.1<=token
  ·have hle':¬ token<x.1:=by omega
   gi_wp2_with (gi_at_mapUpdate;refine wpListIn_mapUpdate_own _ rfl _ _ _ 344 rfl 9 3 law underlying344 _ (C+1+1+1) pre.length D0 rfl hD2 (by unfold maxLen;omega) _ _ (.string x.2.data.toList) rfl rfl hkey (.lit (.int .i64 ((cnt x.2 pr:Int)+1))) [] (plainElem_int underlying3 (WalkArith.wf_i64 (by omega))) ?_;intro W3 hown3 hgrow3;have a0:=(cG (o:=0) hgrow3 hbl hbD).trans e0;have aT:=(cG (o:=0) hgrow3 lT (by omega)).trans yT)
   obtain⟨g1,g2,g3,g4,g5⟩:=HKp W3 hgrow3 _ hown3 rfl
   refine⟨g1,g2,v,g3,by rw[List.map_append,HPR.1];show Ev.aV _ _ _ (fp c token (pr++[x]));rw[sM (.inl hle)];exact g4,by rw[List.map_append,HPR.1];simpa using g5,HB.2.2.1.trans g2⟩
  have hle':token<x.1:=by omega
  by_cases hc0:0<cnt x.2 pr
  ·have hgt:(1:Int)<(cnt x.2 pr:Int)+1:=by omega
   gi_wp2_with (gi_at_mapUpdate;refine wpListIn_mapUpdate_own _ rfl _ _ _ 344 rfl 9 3 law underlying344 _ (C+1+1+1) pre.length D0 rfl hD2 (by unfold maxLen;omega) _ _ (.string x.2.data.toList) rfl rfl hkey (.lit (.int .i64 ((cnt x.2 pr:Int)+1))) [] (plainElem_int underlying3 (WalkArith.wf_i64 (by omega))) ?_;intro W3 hown3 hgrow3;have a0:=(cG (o:=0) hgrow3 hbl hbD).trans e0;have aT:=(cG (o:=0) hgrow3 lT (by omega)).trans yT;have a1:=(cG (o:=1) hgrow3 hbl hbD).trans e1;have aS:=(cG (o:=0) hgrow3 lS (by omega)).trans yS;have aC:=(cG (o:=0) hgrow3 lC (by omega)).trans yC;have bl3:b<W3.heap.size:=Nat.lt_of_lt_of_le hbl hgrow3.size;have lC3:C<W3.heap.size:=Nat.lt_of_lt_of_le lC hgrow3.size;obtain⟨c3,hrun3,hat3,hwc3⟩:=hown3.lookup_int law underlying344 underlying3 (zp _) hkey;have hc3:c3=(cnt x.2 pr:Int)+1:=(by rw[atKey_put_same HB.2.2.2.2.1 (by trivial)] at hat3;simpa using hat3.symm);subst hc3;clear hat3)
   obtain⟨g1,g2,g3,g4,g5⟩:=HKp W3 hgrow3 _ hown3 rfl
   refine⟨g1,g2,v,g3,by rw[List.map_append,HPR.1];show Ev.aV _ _ _ (fp c token (pr++[x]));rw[sM (.inr hc0)];exact g4,by rw[List.map_append,HPR.1];simpa using g5,HB.2.2.1.trans g2⟩
  have hgt:¬ (1:Int)<(cnt x.2 pr:Int)+1:=by omega
  have HC0:=hid hc0
  gi_wp2_with (gi_at_mapUpdate;refine wpListIn_mapUpdate_own _ rfl _ _ _ 344 rfl 9 3 law underlying344 _ (C+1+1+1) pre.length D0 rfl hD2 (by unfold maxLen;omega) _ _ (.string x.2.data.toList) rfl rfl hkey (.lit (.int .i64 ((cnt x.2 pr:Int)+1))) [] (plainElem_int underlying3 (WalkArith.wf_i64 (by omega))) ?_;intro W3 hown3 hgrow3;have a0:=(cG (o:=0) hgrow3 hbl hbD).trans e0;have aT:=(cG (o:=0) hgrow3 lT (by omega)).trans yT;have a1:=(cG (o:=1) hgrow3 hbl hbD).trans e1;have aS:=(cG (o:=0) hgrow3 lS (by omega)).trans yS;have aC:=(cG (o:=0) hgrow3 lC (by omega)).trans yC;have bl3:b<W3.heap.size:=Nat.lt_of_lt_of_le hbl hgrow3.size;have lC3:C<W3.heap.size:=Nat.lt_of_lt_of_le lC hgrow3.size;obtain⟨c3,hrun3,hat3,hwc3⟩:=hown3.lookup_int law underlying344 underlying3 (zp _) hkey;have hc3:c3=(cnt x.2 pr:Int)+1:=(by rw[atKey_put_same HB.2.2.2.2.1 (by trivial)] at hat3;simpa using hat3.symm);subst hc3;clear hat3)
  obtain⟨g1,g2,g3,g4,g5⟩:=HKp W3 hgrow3 _ hown3 rfl
  obtain⟨av,cv,hv⟩:=Own.form g4
  obtain⟨pl,hpl2⟩:∃ pl,(fp c token pr).length=pl:=⟨_,rfl⟩
  rw[hpl2] at hv
  subst hv
  have g4':Own W3 (C+1+1+1+1+1+1) 59 4 (.slice av pl cv) pl (flat Ev.ic (fp c token pr)):=by
   have h':=g4
   unfold Ev.aV at h'
   rwa [hpl2] at h'
  have hplb:pl<=100:=by have:=s8 c token pr [];rw[<-hpl2];have:=HPR.2;unfold fp;omega
  have KX:=hid (And.intro g1 (And.intro g2 (And.intro g3 (And.intro g4' (And.intro g5 hpl2)))))
  obtain⟨W4,hW4⟩:∃ W4,W4=W3.alloc (.cells #[.string x.2,.int .i64 x.1,.bool true,.string ⟨#[]⟩] 59):=⟨_,rfl⟩
  rw[<-hW4]
  have f4:Fr [] W3 W4:=by rw[hW4];exact rZ.alloc _
  have bi:Holds W4 W3.heap.size 59 #[.string x.2,.int .i64 x.1,.bool true,.string ⟨#[]⟩]:=by rw[hW4];exact Holds.new _ _ _
  have fG:Fr [] w W4:=(FY (H.2.1.trans HX.2.1) (HB.2.2.1.trans g2) (by have:=HC.out;omega) (by have:=HC.out;omega) (by have:=HC.out;omega)).trans f4
  refine⟨trivial,CallsIn.inRound l (callsIn_wide.2 ((jL W4 B g c x.2 (H.1.fr0 fG)).mono ?_))⟩
  rintro e W5 ⟨rfl,f5⟩
  have F5:=hid (f4.trans f5)
  have bi5:=bi.fr f5 (by simp)
  have u1:=F5.cell a1 bl3 (by simp)
  have bl5:b<W5.heap.size:=Nat.lt_of_lt_of_le bl3 F5.size
  have hol5:=KX.2.2.1.fr F5 (by simp)
  have o0:=hol5.cell 0
  simp at o0
  have ol5:=hol5.lt
  have q0:=bi5.cell 0
  have q1:=bi5.cell 1
  have q2:=bi5.cell 2
  have q3:=bi5.cell 3
  have z0:=bi5.frozen 0
  have z1:=bi5.frozen 1
  have z2:=bi5.frozen 2
  have z3:=bi5.frozen 3
  have il5:=bi5.lt
  simp at q0 q1 q2 q3
  have hs3:C+1+1+1+1+1+1<=W3.heap.size:=by have:=hgrow3.size;have:=HB.2.2.1.size;omega
  have HS3:=hid hs3
  clear hW4 f4 bi fG f5 g1 g2 g3 g4 g4' g5 hpl2 a0 a1 aT aS aC hrun hrun3 hwc hwc3 hown3 hgrow3 hkey hol5
  cases hgc:M.bR c.ah x.2 with
  | none =>
   have hit:itb c x=⟨x.2,x.1,true,⟨#[]⟩⟩:=by unfold itb;rw[hgc]
   have KI:=hid (And.intro F5 (And.intro (KX.2.2.1.fr F5 (by simp)) (KX.2.2.2.1.fr0 F5.out)))
   have HIT:=hid hit
   have HGC:=hid hgc
   clear hit hgc
   simp only[vOf,tOf,Option.map_none,Option.getD_none,Option.isSome_none]
   gi_wp2_with (gi_at_builtin;go_loud (refine eA rfl (.tmp 55) (.tmp 57) 53 rfl i3 _ 48 underlying53 hi hz0 hz1 hz2 rfl (by decide) _ (ay (.slice av pl cv)) rfl (KI.2.2.sl.fr0 ((Fr.refl [] _).alloc _)) _ 1 1 (Ev.ic (itb c x)) rfl rfl (by rw[HIT];exact jD (aE (t:=59) (cs:=(Ev.ic ⟨x.2,x.1,true,⟨#[]⟩⟩).toArray) (by simp))) (Ev.kj _) (by unfold maxLen;omega) (by omega) ?_;intro v2 W7 own2 hs2 hf2 ho2 hm2;obtain⟨g2',rfl⟩:=hm2 (by omega);obtain⟨c2,rfl,r2⟩:=hs2.cI;have HP:=hid (oe (D:=C+1+1+1+1+1+1) KI.2.1 KI.2.2 (by decide) (by have:=KI.1.size;have:=HS3.out;omega) hf2 r2 ho2);have y0:=((KI.2.1.alloc _).fr hf2 (iX KI.2.1 KI.2.2 (by decide))).frozen 0;have y1:=((KI.2.1.alloc _).fr hf2 (iX KI.2.1 KI.2.2 (by decide))).cell 0;simp at y1))
   have hfin:fp c token (pr++[x])=fp c token pr++[itb c x]:=sN (by omega) HC0
   refine⟨by (try rw[hs1]);exact(KX.1.trans (su KI.1)).trans HP.1,KX.2.1.trans ((Kz.bY KI.1 HS3).trans (Kz.vZ HP.2.1)),_,HP.2.2.1,?_,?_,HB.2.2.1.trans (KX.2.1.trans ((Kz.bY KI.1 HS3).trans (Kz.vZ HP.2.1)))⟩
   ·rw[List.map_append,HPR.1]
    show Ev.aV _ _ _ (fp c token (pr++[x]))
    rw[hfin]
    have h':=HP.2.2.2
    unfold Ev.aV
    rw[List.length_append,KX.2.2.2.2.2,aP,bS]
    exact h'
   rw[List.map_append,HPR.1]
   have h1:=(KX.2.2.2.2.1.fr0 KI.1).same (HP.2.1.block (C+1+1+1) (by omega) (by omega))
   simpa using h1
  | some ee =>
   have hit:itb c x=⟨x.2,ee.version,false,ee.text⟩:=by unfold itb;rw[hgc]
   have F6:Fr [] W3 ((((W5.setCell ⟨W3.heap.size,0,none⟩ (.string x.2)).setCell ⟨W3.heap.size,1,none⟩ (.int .i64 ee.version)).setCell ⟨W3.heap.size,2,none⟩ (.bool false)).setCell ⟨W3.heap.size,3,none⟩ (.string ee.text)):=(((F5.aw (by simp) _).aw (by simp) _).aw (by simp) _).aw (by simp) _
   have KI:=hid (And.intro F6 (And.intro (KX.2.2.1.fr F6 (by simp)) (KX.2.2.2.1.fr0 F6)))
   have HIT:=hid hit
   have HGC:=hid hgc
   clear hit hgc F6
   simp only[vOf,tOf,Option.map_some,Option.getD_some,Option.isSome_some]
   gi_wp2_with (gi_at_builtin;go_loud (refine eA rfl (.tmp 55) (.tmp 57) 53 rfl i3 _ 48 underlying53 hi hz0 hz1 hz2 rfl (by decide) _ (ay (.slice av pl cv)) rfl (KI.2.2.sl.fr0 ((Fr.refl [] _).alloc _)) _ 1 1 (Ev.ic (itb c x)) rfl rfl (by rw[HIT];exact jD (aE (t:=59) (cs:=(Ev.ic ⟨x.2,ee.version,false,ee.text⟩).toArray) (by simp))) (Ev.kj _) (by unfold maxLen;omega) (by omega) ?_;intro v2 W7 own2 hs2 hf2 ho2 hm2;obtain⟨g2',rfl⟩:=hm2 (by omega);obtain⟨c2,rfl,r2⟩:=hs2.cI;have HP:=hid (oe (D:=C+1+1+1+1+1+1) KI.2.1 KI.2.2 (by decide) (by have:=KI.1.size;have:=HS3.out;omega) hf2 r2 ho2);have y0:=((KI.2.1.alloc _).fr hf2 (iX KI.2.1 KI.2.2 (by decide))).frozen 0;have y1:=((KI.2.1.alloc _).fr hf2 (iX KI.2.1 KI.2.2 (by decide))).cell 0;simp at y1))
   have hfin:fp c token (pr++[x])=fp c token pr++[itb c x]:=sN (by omega) HC0
   refine⟨by (try rw[hs1]);exact(KX.1.trans (su KI.1)).trans HP.1,KX.2.1.trans ((Kz.bY KI.1 HS3).trans (Kz.vZ HP.2.1)),_,HP.2.2.1,?_,?_,HB.2.2.1.trans (KX.2.1.trans ((Kz.bY KI.1 HS3).trans (Kz.vZ HP.2.1)))⟩
   ·rw[List.map_append,HPR.1]
    show Ev.aV _ _ _ (fp c token (pr++[x]))
    rw[hfin]
    have h':=HP.2.2.2
    unfold Ev.aV
    rw[List.length_append,KX.2.2.2.2.2,aP,bS]
    exact h'
   rw[List.map_append,HPR.1]
   have h1:=(KX.2.2.2.2.1.fr0 KI.1).same (HP.2.1.block (C+1+1+1) (by omega) (by omega))
   simpa using h1
 case done =>
  rintro D xs W hD rfl ⟨v,hb,ho,hsn,kx⟩ hm
  rw[List.map_reverse,HLL] at ho
  clear hsn
  have cb:=hb.cell 0
  simp at cb
  have HHX:=HX.out
  have HHS:=HC.out
  have hWs:=kx.size
  have f1:Fr [] w w1:=H.2.1.trans HHX.2.1
  have SRT:=hid (CM W _ v _ ho HXY)
  have HB:=hid (And.intro hb (And.intro kx (And.intro hm (And.intro f1 (And.intro HHS (And.intro hs1 hWs))))))
  obtain⟨av,cv,hv⟩:=ho.form
  clear hb kx hm f1 hI0 HHX HHS hs1 hWs ho
  subst hv
  go_wp2_with fail
  refine SRT.mono ?_
  rintro e W2 ⟨rfl,hi2,S,hS,f2⟩
  have hb2:=HB.1.fr f2 (λh=>by have:=(hS _ h).1;omega)
  have cb2:=hb2.cell 0
  simp at cb2
  have HB2:=hid (And.intro hi2 (And.intro f2 hS))
  clear cb hi2 f2 hS hb2
  go_wp2_with fail
  obtain⟨-,kx,hm,f1,hC,hs1,hWs⟩:=HB.out
  obtain⟨hi2,f2,hS⟩:=HB2.out
  have hDW:D<W.heap.size:=(Array.getElem?_eq_some_iff.1 hm).1
  have hm2:W2.heap[D]? = some (.deferred (some [])):=(f2.block D hDW λhs=>by
   obtain⟨_,o,h1,h2⟩:=hS D hs
   rw[hm] at h1
   cases h1
   cases h2).trans hm
  have hg2:=grownBy_putObj' W2 D (.deferred none)
  have hcell:∀ r,some D=some r->∃ o:Obj,W2.heap[r]? = some o/\o.isCells=false:=λr e=>by
   cases e
   exact⟨_,hm2,rfl⟩
  have f:Fr [] w (W2.putObj D (.deferred none)):=by
   refine⟨hg2.os.trans (f2.os.trans (kx.os.trans f1.os)),hg2.tape.trans (f2.tape.trans (kx.tape.trans f1.tape)),hg2.output.trans (f2.output.trans (kx.output.trans f1.output)),Nat.le_trans f1.size (Nat.le_trans kx.size (Nat.le_trans f2.size hg2.size)),λj hj _=>?_⟩
   exact(hg2.block j (by have:=f2.size;omega) (λe=>by cases e;omega)).trans ((f2.block j (by omega) (λhs=>by have:=(hS j hs).1;omega)).trans ((kx.block j (by omega) (by omega) (by omega)).trans (f1.block j hj (by simp))))
  have hi:Ev.aV (W2.putObj D (.deferred none)) B (.slice av (fp c token c.log.reverse).length cv) (fp c token c.log.reverse).reverse:=by
   have h':=iE hi2 hg2 hcell
   exact oU h' (by have:=HB0.out;omega)
  refine⟨by simp,.inl ⟨_,_,rfl,run_takeDeferred hm2,?_⟩⟩
  exact⟨_,(results_tmp2 (t:=4) (u:=5) rfl _ _ _),_,rfl,hi,f⟩
end Co
