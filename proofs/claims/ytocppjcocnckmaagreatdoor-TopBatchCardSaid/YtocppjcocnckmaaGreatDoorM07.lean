/- Walks. -/
import Derived.Test.YtocppjcocnckmaaGreatDoorM05
import Derived.Test.YtocppjcocnckmaaGreatDoorM06
import Derived.Test.YtocppjcocnckmaaGreatDoorProg
import Derived.Deep.RegionLaw
import Derived.Laws.Bits128
import Derived.WalkKit
set_option maxRecDepth 100000
set_option maxHeartbeats 8000000
set_option linter.all false
open Go.Lib (hid)
namespace Go.Proofs.YtocppjcocnckmaaGreatDoor
open Go.Proofs.Tryz
open Go.RowKit
theorem dj (s:ByteArray)(k:Nat)(h:k<s.size):s.data.toList.take (k+1)=s.data.toList.take k++[s[k]]:=by
 rw[List.take_succ_eq_append_getElem (by simpa using h)];rfl
open Go.RowKit
def cB (w:World)(k:Nat):Option TypeId:=match w.heap[k]? with|some (.cells _ t _)=>some t|_=>none
structure FrX (B:Nat)(Ts:List TypeId)(S:List Nat)(w w':World):Prop where
 os:w'.os=w.os
 tape:w'.tape=w.tape
 output:w'.output=w.output
 size:w.heap.size<=w'.heap.size
 block:∀ k,k<w.heap.size->(k<B∨((∀ t,t∈Ts->cB w k≠some t)/\k∉S))->w'.heap[k]? = w.heap[k]?
section
variable {w w' w'':World} {g B:Nat} {t:TypeId} {cs:Array Value} {S T:List Nat} {Ts Us:List TypeId}
theorem mV {k:Nat}(h:w'.heap[k]? = w.heap[k]?):cB w' k=cB w k:=by unfold cB;rw[h]
theorem Holds.ty (h:Holds w g t cs):cB w g=some t:=by unfold Holds at h;simp[cB,h]
theorem Row.ty {e:TypeId}{sz n cap:Nat}{xs:List Value}(h:Row w e sz g n cap xs):cB w g=some e:=by
 obtain⟨cur,h,_⟩:=h
 simp[cB,h]
theorem FrX.refl (B:Nat)(Ts:List TypeId)(S:List Nat)(w:World):FrX B Ts S w w:=⟨rfl,rfl,rfl,Nat.le_refl _,λ_ _ _=>rfl⟩
theorem FrX.step (h:FrX B Ts S w w')(k:FrX B Us T w' w'')(hU:∀ t,t∈Us->t∈Ts)(hT:∀ x,x∈T->x∈S∨w.heap.size<=x):FrX B Ts S w w'' :=
 ⟨k.os.trans h.os,k.tape.trans h.tape,k.output.trans h.output,Nat.le_trans h.size k.size,λi hi hn=>by
  have e:=h.block i hi hn
  refine(k.block i (Nat.lt_of_lt_of_le hi h.size) ?_).trans e
  rcases hn with hn|⟨hn,hs⟩
  ·exact .inl hn
  refine .inr ⟨λt ht=>by rw[mV e];exact hn t (hU t ht),λhx=>?_⟩
  rcases hT i hx with h'|h'
  ·exact hs h'
  omega⟩
theorem FrX.trans (h:FrX B Ts S w w')(k:FrX B Ts S w' w''):FrX B Ts S w w'':=h.step k (λ_ h=>h) (λ_ h=>.inl h)
theorem FrX.mono (h:FrX B Us T w w')(hU:∀ t,t∈Us->t∈Ts)(hT:∀ x,x∈T->x∈S):FrX B Ts S w w' :=
 ⟨h.os,h.tape,h.output,h.size,λi hi hn=>h.block i hi (hn.imp id λ⟨a,b⟩=>⟨λt ht=>a t (hU t ht),λhx=>b (hT i hx)⟩)⟩
theorem FrX.jY (h:FrX B Ts S w w')(hS:∀ x,x∈S->w.heap.size<=x∨x∈T∨∃ t,t∈Ts/\cB w x=some t):FrX B Ts T w w' :=
 ⟨h.os,h.tape,h.output,h.size,λi hi hn=>h.block i hi (hn.imp id λ⟨a,b⟩=>⟨a,λhx=>by
  rcases hS i hx with h'|h'|⟨t,ht,h'⟩
  ·omega
  ·exact b h'
  exact a t ht h'⟩)⟩
theorem FrX.bY (h:Fr S w w')(hB:∀ x,x∈S->B<=x):FrX B Ts S w w' :=
 ⟨h.os,h.tape,h.output,h.size,λi hi hn=>h.block i hi (λhx=>by
  rcases hn with hn|⟨_,hn⟩
  ·have:=hB i hx;omega
  exact hn hx)⟩
theorem FrX.aA (h:Fr [] w w'):FrX B Ts S w w':=(FrX.bY h (by simp)).mono (T:=[]) (Us:=Ts) (λ_ h=>h) (by simp)
theorem FrX.aB (h:Fr S w w')(hB:∀ x,x∈S->B<=x)(hS:∀ x,x∈S->∃ t,t∈Ts/\cB w x=some t):FrX B Ts T w w' :=
 (FrX.bY (Ts:=Ts) h hB).jY λx hx=>.inr (.inr (hS x hx))
theorem FrX.drewN (h:FrX B Ts S w w')(n:Nat):FrX B Ts S w (w'.drewN n):=⟨h.os,h.tape,h.output,h.size,h.block⟩
theorem FrX.alloc (h:FrX B Ts S w w')(o:Obj):FrX B Ts S w (w'.alloc o) :=
 ⟨h.os,h.tape,h.output,Nat.le_trans h.size (by simp),λk hk hn=>(Below.heap_alloc w' o k (Nat.lt_of_lt_of_le hk h.size)).trans (h.block k hk hn)⟩
theorem FrX.aw (h:FrX B Ts S w w'){p:Addr}(hp:w.heap.size<=p.block)(u:Value):FrX B Ts S w (w'.setCell p u) :=
 ⟨h.os,h.tape,h.output,by simpa[World.setCell] using h.size,λk hk hn=>(Below.heap_setCell w' p u k (by omega)).trans (h.block k hk hn)⟩
theorem FrX.below (h:FrX B Ts S w w')(hw:w.heap.size<=B):Fr [] w w' :=
 ⟨h.os,h.tape,h.output,h.size,λk hk _=>h.block k hk (.inl (by omega))⟩
theorem Holds.frx (h:Holds w g t cs)(hf:FrX B Ts S w w')(ht:t∉Ts)(hg:g∉S):Holds w' g t cs :=
 (hf.block g h.lt (.inr ⟨λu hu e=>ht (by rw[h.ty] at e;cases e;exact hu),hg⟩)).trans h
theorem Row.frx {e:TypeId}{sz n cap:Nat}{xs:List Value}(h:Row w e sz g n cap xs)(hf:FrX B Ts S w w')(ht:e∉Ts)(hg:g∉S):Row w' e sz g n cap xs:=by
 have h0:=h.lt
 have h1:=h.ty
 obtain⟨cur,hc,hr⟩:=h
 exact⟨cur,(hf.block g h0 (.inr ⟨λu hu e=>ht (by rw[h1] at e;cases e;exact hu),hg⟩)).trans hc,hr⟩
theorem Holds.AW (h:Holds w g t cs)(hS:∀ x,x∈S->∃ u,u≠t/\cB w x=some u):g∉S:=λhx=>by
 obtain⟨u,hu,e⟩:=hS g hx
 rw[h.ty] at e
 cases e
 exact hu rfl
end
def Own (w:World)(B:Nat)(e:TypeId)(sz:Nat)(v:Value)(n:Nat)(xs:List Value):Prop :=
 (v = .slice none 0 0/\n=0/\xs=[])∨∃ g cap,B<=g/\v = .slice (some ⟨g,0,none⟩) n cap/\Row w e sz g n cap xs
section
variable {w w':World} {B:Nat} {e:TypeId} {sz n:Nat} {v:Value} {xs:List Value} {S:List Nat} {Ts:List TypeId}
def ay (v:Value):Option Nat:=match v with|.slice (some a) _ _=>some a.block|_=>none
theorem Own.sl (h:Own w B e sz v n xs):Sl w e sz v n xs (ay v):=by
 rcases h with⟨rfl,rfl,rfl⟩|⟨g,cap,_,rfl,hr⟩
 ·exact Sl.nil _ _ _
 exact Sl.row hr
theorem Own.nil (w:World)(B:Nat)(e:TypeId)(sz:Nat):Own w B e sz (.slice none 0 0) 0 []:=.inl ⟨rfl,rfl,rfl⟩
theorem Own.frx (h:Own w B e sz v n xs)(hf:FrX B Ts S w w')(ht:e∉Ts)(hS:∀ g,ay v=some g->g∉S):Own w' B e sz v n xs:=by
 rcases h with h|⟨g,cap,hg,rfl,hr⟩
 ·exact .inl h
 exact .inr ⟨g,cap,hg,rfl,hr.frx hf ht (hS g rfl)⟩
theorem Own.bf (h:Own w B e sz v n xs)(hf:FrX B Ts [] w w')(ht:e∉Ts):Own w' B e sz v n xs:=h.frx hf ht (by simp)
theorem Own.ty (h:Own w B e sz v n xs){g:Nat}(hg:ay v=some g):cB w g=some e/\B<=g:=by
 rcases h with⟨rfl,_,_⟩|⟨g',cap,hb,rfl,hr⟩
 ·cases hg
 cases hg
 exact⟨hr.ty,hb⟩
theorem Own.form (h:Own w B e sz v n xs):∃ a c,v = .slice a n c:=by
 rcases h with⟨rfl,rfl,_⟩|⟨g,cap,_,rfl,_⟩
 ·exact⟨_,_,rfl⟩
 exact⟨_,_,rfl⟩
theorem Own.pos (h:Own w B e sz v n xs)(hn:0<n):∃ g cap,B<=g/\v = .slice (some ⟨g,0,none⟩) n cap/\Row w e sz g n cap xs:=by
 rcases h with⟨_,rfl,_⟩|h
 ·omega
 exact h
theorem Sl.fr {own:Option Nat}(h:Sl w e sz v n xs own)(hf:Fr S w w')(ho:∀ k,k∈own.toList->k∉S)(hm:0<n->∃ g,own=some g):Sl w' e sz v n xs own:=by
 rcases h with⟨h0,a,hv,h1,h2,h3,h4⟩|⟨g,c,h0,hv,hr⟩
 ·have hn:n=0:=by
   rcases Nat.eq_zero_or_pos n with h|h
   ·exact h
   obtain⟨g,hg⟩:=hm h
   rw[h0] at hg
   cases hg
  subst hn
  obtain rfl:xs=[]:=List.eq_nil_of_length_eq_zero (by simpa using h4)
  exact .inl ⟨h0,a,hv,h1,h2,Cells.nil _,h4⟩
 subst h0
 exact .inr ⟨g,c,rfl,hv,hr.fr hf (ho g (by simp))⟩
end
namespace Hb
open Go.RowKit
structure Wt where
 who:Int
 place:Int
 wok:Bool
def ci (x:Int):Value:=.int .i64 x
def wc (x:Wt):List Value:=[.int .i64 x.who,.int .i64 x.place,.bool x.wok]
def fl (l:List Wt):List Value:=l.flatMap wc
theorem yI (l:List Wt):(fl l).length=l.length*3:=by
 induction l with
 | nil=>rfl
 | cons x l ih=>simp only[fl,List.flatMap_cons,List.length_append,List.length_cons] at *;rw[ih];simp only[wc,List.length_cons,List.length_nil];omega
theorem yJ (a b:List Wt):fl (a++b)=fl a++fl b:=by simp[fl]
theorem uP (l:List Wt)(k j:Nat)(x:Wt)(h:l[k]? = some x)(hj:j<3):(fl l)[k*3+j]? = (wc x)[j]?:=by
 induction l generalizing k with
 | nil=>simp at h
 | cons y l ih =>
  cases k with
  | zero =>
   simp at h
   subst h
   simp only[fl,List.flatMap_cons,Nat.zero_mul,Nat.zero_add]
   exact List.getElem?_append_left (by simpa[wc] using hj)
  | succ k =>
   have:=ih k (by simpa using h)
   simp only[fl,List.flatMap_cons] at *
   rw[List.getElem?_append_right (by simp[wc];omega)]
   rw[<-this]
   congr 1
   simp[wc]
   omega
theorem DL (l:List Wt)(k:Nat):fl (l.take k)=(fl l).take (k*3):=by
 induction l generalizing k with
 | nil=>simp[fl]
 | cons y l ih =>
  cases k with
  | zero=>simp[fl]
  | succ k =>
   have:=ih k
   simp only[fl,List.flatMap_cons,List.take_succ_cons] at *
   rw[this,List.take_append,List.take_of_length_le (l:=wc y) (by simp[wc];omega)]
   congr 2
   simp[wc]
   omega
theorem DM (l:List Wt)(k:Nat):fl (l.drop k)=(fl l).drop (k*3):=by
 induction l generalizing k with
 | nil=>simp[fl]
 | cons y l ih =>
  cases k with
  | zero=>simp[fl]
  | succ k =>
   have:=ih k
   simp only[fl,List.flatMap_cons,List.drop_succ_cons] at *
   rw[this,List.drop_append,List.drop_of_length_le (l:=wc y) (by simp[wc];omega)]
   simp only[List.nil_append]
   congr 1
   simp[wc]
   omega
theorem Fi (l:List Wt)(k:Nat)(x:Wt)(h:l[k]? = some x)(b:Bool):fl (l.set k ⟨x.who,x.place,b⟩)=(fl l).set (k*3+2) (.bool b):=by
 induction l generalizing k with
 | nil=>simp at h
 | cons y l ih =>
  cases k with
  | zero =>
   simp at h
   subst h
   simp[fl,wc]
  | succ k =>
   have:=ih k (by simpa using h)
   simp only[fl,List.flatMap_cons,List.set_cons_succ] at *
   rw[this,List.set_append_right _ _ (by simp[wc];omega)]
   congr 2
   simp[wc]
   omega
theorem Fj (l:List Wt):∀ u∈fl l,u.oneCell'=true:=by
 intro u hu
 simp only[fl,List.mem_flatMap] at hu
 obtain⟨x,_,hx⟩:=hu
 simp only[wc,List.mem_cons,List.not_mem_nil,or_false] at hx
 rcases hx with rfl|rfl|rfl<;>rfl
def at? (who:Int)(l:List Wt):Option Nat:=l.findIdx? λx=>x.who==who
def has (who:Int)(l:List Wt):Bool:=(at? who l).isSome
def jZ (l:List Wt)(who place:Int):List Wt:=if has who l then l else l++[⟨who,place,false⟩]
def mE (l:List Wt)(who:Int):List Wt:=match at? who l with|some k=>l.take k++l.drop (k+1)|none=>l
def fu (l:List Wt)(place:Int):List Wt:=l.map λx=>if x.place==place then ⟨x.who,x.place,true⟩ else x
def eB (l:List Wt)(place:Int):List Int:=(l.filter λx=>x.place==place&&!x.wok).map (·.who)
def dO (l:List Wt)(who:Int):Bool:=match at? who l with|some k=>(l[k]?.map (·.wok)).getD false|none=>false
def Not (who:Int)(l:List Wt)(k:Nat):Prop:=∀ j x,j<k->l[j]? = some x->x.who≠who
theorem not_zero (who:Int)(l:List Wt):Not who l 0:=λ_ _ h=>by omega
theorem AY {who:Int}{l:List Wt}{k:Nat}{x:Wt}(h:Not who l k)(hx:l[k]? = some x)(hne:x.who≠who):Not who l (k+1):=by
 intro j y hj hy
 by_cases e:j=k
 ·subst e
  rw[hx] at hy
  cases hy
  exact hne
 exact h j y (by omega) hy
theorem D7 {who:Int}{l:List Wt}(h:Not who l l.length):at? who l=none:=by
 unfold at?
 rw[List.findIdx?_eq_none_iff]
 intro x hx
 obtain⟨j,hj⟩:=List.getElem?_of_mem hx
 have:=h j x (List.getElem?_eq_some_iff.1 hj).1 hj
 simpa using this
theorem D6 {who:Int}{l:List Wt}{k:Nat}{x:Wt}(h:Not who l k)(hx:l[k]? = some x)(he:x.who=who):at? who l=some k:=by
 unfold at?
 rw[List.findIdx?_eq_some_iff_getElem]
 have hk:=(List.getElem?_eq_some_iff.1 hx)
 refine⟨hk.1,by rw[hk.2];simpa using he,λj hj=>?_⟩
 have:=h j (l[j]'(Nat.lt_trans hj hk.1)) hj (List.getElem?_eq_getElem _)
 simpa using this
def place (who:Int)(l:List Wt):Int:=match at? who l with|some k=>k|none=>-1
end Hb
open Go.RowKit
section
variable {α:Type}
def flat (f:α->List Value)(l:List α):List Value:=l.flatMap f
variable {f:α->List Value} {sz:Nat}
theorem gw (hf:∀ x,(f x).length=sz)(l:List α):(flat f l).length=l.length*sz:=by
 induction l with
 | nil=>simp[flat]
 | cons x l ih =>
  have:flat f (x::l)=f x++flat f l:=rfl
  rw[this,List.length_append,ih,hf,List.length_cons,Nat.succ_mul,Nat.add_comm]
theorem aP (a b:List α):flat f (a++b)=flat f a++flat f b:=by simp[flat]
theorem bS (x:α):flat f [x]=f x:=by simp[flat]
theorem nT (hf:∀ x,(f x).length=sz){l:List α}{k:Nat}{x:α}(h:l[k]? = some x){j:Nat}(hj:j<sz):(flat f l)[k*sz+j]? = (f x)[j]?:=by
 induction l generalizing k with
 | nil=>simp at h
 | cons y l ih =>
  have e:flat f (y::l)=f y++flat f l:=rfl
  cases k with
  | zero =>
   simp at h
   subst h
   rw[e,Nat.zero_mul,Nat.zero_add,List.getElem?_append_left (by rw[hf];exact hj)]
  | succ k =>
   have:=ih (k:=k) (by simpa using h)
   rw[e,List.getElem?_append_right (by rw[hf,Nat.succ_mul];omega),<-this]
   congr 1
   rw[hf,Nat.succ_mul]
   omega
theorem iJ (hf:∀ x,(f x).length=sz)(l:List α)(k:Nat):flat f (l.take k)=(flat f l).take (k*sz):=by
 induction l generalizing k with
 | nil=>simp[flat]
 | cons y l ih =>
  have e:flat f (y::l)=f y++flat f l:=rfl
  cases k with
  | zero=>simp[flat]
  | succ k =>
   have e2:flat f ((y::l).take (k+1))=f y++flat f (l.take k):=rfl
   rw[e,e2,ih,List.take_append,List.take_of_length_le (l:=f y) (by rw[hf,Nat.succ_mul];omega)]
   congr 2
   rw[hf,Nat.succ_mul]
   omega
theorem lP (hf:∀ x,(f x).length=sz)(l:List α)(k:Nat):flat f (l.drop k)=(flat f l).drop (k*sz):=by
 induction l generalizing k with
 | nil=>simp[flat]
 | cons y l ih =>
  have e:flat f (y::l)=f y++flat f l:=rfl
  cases k with
  | zero=>simp[flat]
  | succ k =>
   have e2:flat f ((y::l).drop (k+1))=flat f (l.drop k):=rfl
   rw[e,e2,ih,List.drop_append,List.drop_of_length_le (l:=f y) (by rw[hf,Nat.succ_mul];omega),List.nil_append]
   congr 1
   rw[hf,Nat.succ_mul]
   omega
theorem cm (h1:∀ x,∀ u∈f x,u.oneCell'=true)(l:List α):∀ u∈flat f l,u.oneCell'=true:=by
 intro u hu
 simp only[flat,List.mem_flatMap] at hu
 obtain⟨x,_,hx⟩:=hu
 exact h1 x u hx
theorem nS (hf:∀ x,(f x).length=sz){l:List α}{k:Nat}{x y:α}{j:Nat}{v:Value}(h:l[k]? = some x)(hj:j<sz)(hy:f y=(f x).set j v):flat f (l.set k y)=(flat f l).set (k*sz+j) v:=by
 induction l generalizing k with
 | nil=>simp at h
 | cons z l ih =>
  have e:flat f (z::l)=f z++flat f l:=rfl
  cases k with
  | zero =>
   simp at h
   subst h
   have e2:flat f ((z::l).set 0 y)=f y++flat f l:=rfl
   rw[e,e2,hy,Nat.zero_mul,Nat.zero_add,List.set_append_left _ _ (by rw[hf];exact hj)]
  | succ k =>
   have:=ih (k:=k) (by simpa using h)
   have e2:flat f ((z::l).set (k+1) y)=f z++flat f (l.set k y):=rfl
   rw[e,e2,this,List.set_append_right _ _ (by rw[hf,Nat.succ_mul];omega)]
   congr 2
   rw[hf,Nat.succ_mul]
   omega
end
theorem aE {w:World}{n:Nat}{t:TypeId}{cs:Array Value}(h:w.heap.size=n):Holds (w.alloc (.cells cs t)) n t cs:=by subst h;exact Holds.new w t cs
theorem bn {w w':World}{B n:Nat}{e:TypeId}{sz:Nat}{v v':Value}{xs:List Value}{own':Option Nat}(hB:B<=w.heap.size)(h0:∀ g,ay v=some g->B<=g)(hs:Sl w' e sz v' n xs own')(ho:own'=ay v∨∃ g,own'=some g/\w.heap.size<=g)(hm:∃ g,own'=some g) :
  Own w' B e sz v' n xs/\ay v'=own':=by
 obtain⟨g,rfl⟩:=hm
 obtain⟨c,rfl,hr⟩:=hs.cI
 refine⟨.inr ⟨g,c,?_,rfl,hr⟩,rfl⟩
 rcases ho with ho|⟨g',h1,h2⟩
 ·exact h0 g ho.symm
 cases h1
 omega
theorem Own.cell {w:World}{B:Nat}{e:TypeId}{sz n:Nat}{v:Value}{α:Type}{f:α->List Value}{l:List α}(h:Own w B e sz v n (flat f l))(hf:∀ x,(f x).length=sz)(hn:n=l.length){k:Nat}{x:α}(hx:l[k]? = some x) :
  ∃ g c,B<=g/\v = .slice (some ⟨g,0,none⟩) n c/\Row w e sz g n c (flat f l)/\g<w.heap.size/\∀ j (u:Value),j<sz->(f x)[j]? = some u->w.cell? ⟨g,k*sz+j,none⟩=some u:=by
 have hk:=(List.getElem?_eq_some_iff.1 hx).1
 obtain⟨g,c,h1,h2,hr⟩:=h.pos (by omega)
 refine⟨g,c,h1,h2,hr,hr.lt,λj u hj hu=>hr.cell ?_⟩
 rw[nT hf hx hj]
 exact hu
theorem Own.fr0 {w w':World}{B:Nat}{e:TypeId}{sz n:Nat}{v:Value}{xs:List Value}(h:Own w B e sz v n xs)(hf:Fr [] w w'):Own w' B e sz v n xs:=by
 rcases h with h|⟨g,cap,hg,rfl,hr⟩
 ·exact .inl h
 exact .inr ⟨g,cap,hg,rfl,hr.fr hf (by simp)⟩
theorem Own.fr {w w':World}{B:Nat}{e:TypeId}{sz n:Nat}{v:Value}{xs:List Value}{S:List Nat}(h:Own w B e sz v n xs)(hf:Fr S w w')(hS:∀ g,ay v=some g->g∉S):Own w' B e sz v n xs:=by
 rcases h with h|⟨g,cap,hg,rfl,hr⟩
 ·exact .inl h
 exact .inr ⟨g,cap,hg,rfl,hr.fr hf (hS g rfl)⟩
namespace Fv
open Go.RowKit
def step (h:Int)(c:UInt8):Int:=IntKind.u64.wrap (bits BinOp.xor IntKind.u64 h (IntKind.u64.wrap (c.toNat:Int))*1099511628211)
def cK (l:List UInt8):Int:=l.foldl step 14695981039346656037
theorem wS (l:List UInt8)(c:UInt8):cK (l++[c])=step (cK l) c:=by simp[cK]
theorem kC (s:ByteArray)(w:World)(hs:s.size<=maxLen) :
  Calls prog 266 #[.string s] w λe w'=>e = .returned (.int .u64 (cK s.data.toList))/\w=w':=by
 unfold maxLen at hs
 go_enter func266,ntmps266
 go_wp2
 go_loop [3,7] (λh i=>∃ k:Nat,k<=s.size/\i = .int .i64 k/\h = .int .u64 (cK (s.data.toList.take k))) (λ_ i=>s.size - (intOf i).toNat)
 case atStart=>exact⟨0,Nat.zero_le _,rfl,rfl⟩
 obtain⟨k,hk,rfl,rfl⟩:=hrel
 by_cases hlt:k<s.size
 ·go_wp2
  go_round
  case rel=>exact⟨k+1,by omega,by go_num,by rw[dj s k hlt,wS];rfl⟩
  simp[intOf];omega
 go_wp2
 go_ret
 exact⟨bM (by rw[List.take_of_length_le (by simp;omega)]),rfl⟩
theorem tA (h:Int)(c:UInt8):0<=step h c/\step h c<18446744073709551616:=by
 unfold step
 rw[IntKind.wrap_u64]
 omega
theorem fF (l:List UInt8):0<=cK l/\cK l<18446744073709551616:=by
 unfold cK
 suffices H:∀ (l:List UInt8) (h:Int),0<=h/\h<18446744073709551616->0<=l.foldl step h/\l.foldl step h<18446744073709551616 from H l _ (by omega)
 intro l
 induction l with
 | nil=>intro h hh;exact hh
 | cons c l ih=>intro h _;exact ih _ (tA h c)
theorem ix (s:ByteArray)(n:Int)(w:World)(hs:s.size<=maxLen)(hn:1<=n)(hn':n<=9223372036854775807) :
  Calls prog 233 #[.string s,.int .i64 n] w λe w'=>e = .returned (.int .i64 (cK s.data.toList % n))/\w=w':=by
 have hr:=fF s.data.toList
 go_enter func233,ntmps233
 go_wp2_with (go_at_call 266;refine(kC _ _ hs).mono ?_;rintro e w' ⟨rfl,rfl⟩)
 go_ret
 exact⟨bM (by
  have h1:=Int.emod_nonneg (cK s.data.toList) (show n≠0 by omega)
  have h2:=Int.emod_lt_of_pos (cK s.data.toList) (show 0<n by omega)
  exact IntWalk.wrap64_in _ (by omega)),rfl⟩
end Fv
namespace Bu
open Go.RowKit
def qOk (c d b l:Int):Bool:=decide (1<=c/\c<=8/\1<=d/\d<=16/\1<=b/\b<=1048576/\1<=l/\l<=64)
def rI (c d b l:Int):Int:=if qOk c d b l then 0 else 12
def j7 (w:World)(g:Nat)(c d b l bQ bytes:Int):Prop:=Holds w g 294 #[.int .i64 c,.int .i64 d,.int .i64 b,.int .i64 l,.int .i64 bQ,.int .i64 bytes]
def inB (n m:Int):Bool:=decide (1<=n/\n<=m)
theorem dE (n m:Int)(w:World)(b:Bool)(hb:inB n m=b):Calls prog 128 #[.int .i64 n,.int .i64 m] w λe w'=>e = .returned (.bool b)/\w=w':=by
 subst hb
 by_cases h1:n<1
 ·rw[show inB n m=false by simp[inB];omega]
  go_enter func128,ntmps128
  go_wp2
  go_ret
  exact⟨rfl,rfl⟩
 by_cases h2:n<=m
 ·rw[show inB n m=true by simp[inB];omega]
  go_enter func128,ntmps128
  go_wp2
  go_ret
  exact⟨rfl,rfl⟩
 rw[show inB n m=false by simp[inB];omega]
 go_enter func128,ntmps128
 go_wp2
 go_ret
 exact⟨dI (by simp),rfl⟩
theorem dM (c d b l:Int)(w:World):Calls prog 98 #[.agg #[.int .i64 c,.int .i64 d,.int .i64 b,.int .i64 l]] w λe w'=>e = .returned (.int .i64 (rI c d b l))/\Fr [] w w':=by
 rcases Bool.eq_false_or_eq_true (inB c 8) with h0|h0
 ·rcases Bool.eq_false_or_eq_true (inB d 16) with h1|h1
  ·rcases Bool.eq_false_or_eq_true (inB b 1048576) with h2|h2
   ·rcases Bool.eq_false_or_eq_true (inB l 64) with h3|h3
    ·go_enter func98,ntmps98
     go_wp2_with fail
     refine(dE _ _ _ true h0).mono ?_
     rintro e w' ⟨rfl,rfl⟩
     go_wp2_with fail
     refine(dE _ _ _ true h1).mono ?_
     rintro e w' ⟨rfl,rfl⟩
     go_wp2_with fail
     refine(dE _ _ _ true h2).mono ?_
     rintro e w' ⟨rfl,rfl⟩
     go_wp2_with fail
     refine(dE _ _ _ true h3).mono ?_
     rintro e w' ⟨rfl,rfl⟩
     go_wp2_with fail
     go_ret
     exact⟨bM (by simp[inB] at h0 h1 h2 h3;simp[rI,qOk];omega),rZ.alloc _⟩
    go_enter func98,ntmps98
    go_wp2_with fail
    refine(dE _ _ _ true h0).mono ?_
    rintro e w' ⟨rfl,rfl⟩
    go_wp2_with fail
    refine(dE _ _ _ true h1).mono ?_
    rintro e w' ⟨rfl,rfl⟩
    go_wp2_with fail
    refine(dE _ _ _ true h2).mono ?_
    rintro e w' ⟨rfl,rfl⟩
    go_wp2_with fail
    refine(dE _ _ _ false h3).mono ?_
    rintro e w' ⟨rfl,rfl⟩
    go_wp2_with fail
    go_ret
    exact⟨bM (by simp[inB] at h0 h1 h2 h3;simp[rI,qOk];omega),rZ.alloc _⟩
   go_enter func98,ntmps98
   go_wp2_with fail
   refine(dE _ _ _ true h0).mono ?_
   rintro e w' ⟨rfl,rfl⟩
   go_wp2_with fail
   refine(dE _ _ _ true h1).mono ?_
   rintro e w' ⟨rfl,rfl⟩
   go_wp2_with fail
   refine(dE _ _ _ false h2).mono ?_
   rintro e w' ⟨rfl,rfl⟩
   go_wp2_with fail
   go_ret
   exact⟨bM (by simp[inB] at h0 h1 h2;simp[rI,qOk];omega),rZ.alloc _⟩
  go_enter func98,ntmps98
  go_wp2_with fail
  refine(dE _ _ _ true h0).mono ?_
  rintro e w' ⟨rfl,rfl⟩
  go_wp2_with fail
  refine(dE _ _ _ false h1).mono ?_
  rintro e w' ⟨rfl,rfl⟩
  go_wp2_with fail
  go_ret
  exact⟨bM (by simp[inB] at h0 h1;simp[rI,qOk];omega),rZ.alloc _⟩
 go_enter func98,ntmps98
 go_wp2_with fail
 refine(dE _ _ _ false h0).mono ?_
 rintro e w' ⟨rfl,rfl⟩
 go_wp2_with fail
 go_ret
 exact⟨bM (by simp[inB] at h0;simp[rI,qOk];omega),rZ.alloc _⟩
theorem BQ (w:World)(g:Nat)(c d b l bQ bytes:Int)(hp:j7 w g c d b l bQ bytes):Calls prog 152 #[.pointer (some ⟨g,0,none⟩)] w λe w'=>e = .returned (.int .i64 bQ)/\w=w':=by
 have c1:=hp.cell 4
 go_enter func152,ntmps152
 go_wp2
 go_ret
 exact⟨rfl,rfl⟩
theorem kD (w:World)(g:Nat)(c d b l bQ bytes:Int)(hp:j7 w g c d b l bQ bytes)(h0:0<=bytes)(h1:bytes<=b)(h2:b<=1048576):Calls prog 213 #[.pointer (some ⟨g,0,none⟩)] w λe w'=>e = .returned (.int .i64 (b - bytes))/\∃ n,w'=w.drewN n:=by
 have c1:=hp.cell 2
 have c2:=hp.cell 5
 go_enter func213,ntmps213
 go_wp2
 go_quiet (fail)
 go_wp2
 go_ret
 exact⟨rfl,_,rfl⟩
theorem nK (w:World)(g:Nat)(c d b l bQ bytes:Int)(hp:j7 w g c d b l bQ bytes)(h2:0<=bQ)(h3:bQ<=8)(y:Bool)(hy:decide (bQ<c)=y) :
  Calls prog 154 #[.pointer (some ⟨g,0,none⟩)] w λe w'=>e = .returned (.bool y)/\j7 w' g c d b l (if y then bQ+1 else bQ) bytes/\Fr [g] w w':=by
 have c1:=hp.cell 0
 have c2:=hp.cell 4
 have f2:=hp.frozen 4
 by_cases h1:bQ<c
 ·obtain rfl:true=y:=by rw[<-hy];simp[h1]
  clear hy
  go_enter func154,ntmps154
  go_wp2
  go_quiet (fail)
  go_wp2
  go_ret
  exact⟨rfl,(hp.drewN _).set 4 _,(rZ.drewN _).setCell (by simp) _⟩
 obtain rfl:false=y:=by rw[<-hy];simp[h1]
 clear hy
 go_enter func154,ntmps154
 go_wp2
 go_quiet (fail)
 go_wp2
 go_ret
 exact⟨rfl,hp.drewN _,rZ.drewN _⟩
def mv (bytes n:Int):Int:=max (bytes+n) 0
theorem jC (w:World)(g:Nat)(c d b l bQ bytes n:Int)(hp:j7 w g c d b l bQ bytes)(h0:0<=bytes)(h1:bytes<=b)(h2:b<=1048576)(h3:-9223372036854775808<=n)(y:Bool)(hy:decide (n<=b - bytes)=y) :
  Calls prog 214 #[.pointer (some ⟨g,0,none⟩),.int .i64 n] w λe w'=>e = .returned (.bool y)/\j7 w' g c d b l bQ (if y then mv bytes n else bytes)/\Fr [g] w w':=by
 have c0:=hp.cell 2
 have c2:=hp.cell 5
 have f2:=hp.frozen 5
 by_cases k0:n<=b - bytes
 ·obtain rfl:true=y:=by rw[<-hy];simp[k0]
  clear hy
  rw[if_pos rfl]
  by_cases k2:bytes+n<0
  ·rw[show mv bytes n=0 by unfold mv;omega]
   go_enter func214,ntmps214
   go_wp2
   go_quiet (fail)
   go_wp2
   go_ret
   exact⟨rfl,(hp.drewN _).set 5 _,(rZ.drewN _).setCell (by simp) _⟩
  rw[show mv bytes n=bytes+n by unfold mv;omega]
  go_enter func214,ntmps214
  go_wp2
  go_quiet (fail)
  go_wp2
  go_ret
  exact⟨rfl,(hp.drewN _).set 5 _,(rZ.drewN _).setCell (by simp) _⟩
 obtain rfl:false=y:=by rw[<-hy];simp;omega
 clear hy
 go_enter func214,ntmps214
 go_wp2
 go_quiet (fail)
 go_wp2
 go_ret
 exact⟨rfl,hp.drewN _,rZ.drewN _⟩
theorem Dl (c d b l:Int)(w:World)(hq:qOk c d b l=true) :
  Calls prog 200 #[.agg #[.int .i64 c,.int .i64 d,.int .i64 b,.int .i64 l]] w λe w'=>∃ g,e = .returned (.tuple #[.pointer (some ⟨g,0,none⟩),.int .i64 0])/\w.heap.size<=g/\j7 w' g c d b l 0 0/\Fr [] w w':=by
 go_enter func200,ntmps200
 go_wp2_with fail
 refine uu (dM c d b l _) λw1 r1=>?_
 rw[show rI c d b l=0 by simp[rI,hq]]
 have hb:=Holds.fr (Holds.new w 23 #[.int .i64 c,.int .i64 d,.int .i64 b,.int .i64 l]) r1 (by simp)
 have b0:=hb.cell 0
 have b1:=hb.cell 1
 have b2:=hb.cell 2
 have b3:=hb.cell 3
 go_wp2_with fail
 go_ret2
 exact⟨_,rfl,by have:=r1.size;simp at this;omega,Holds.new _ _ _,((((Fr.refl [] w).alloc _).trans r1).alloc _)⟩
end Bu
namespace Et
open Go.RowKit
def aY (k v:Int):Bool:=if k=0∨k=1∨k=2 then v==0 else if k=3 then decide (1<=v) else false
def du (k v:Int)(there:Bool)(ver:Int):Bool:=aY k v&&(if k=1 then !there else if k=2 then there else if k=3 then there&&ver==v else true)
theorem dN (k v:Int)(w:World):Calls prog 196 #[.agg #[.int .i64 k,.int .i64 v]] w λe w'=>e = .returned (.bool (aY k v))/\Fr [] w w':=by
 by_cases h0:k=0
 ·subst h0
  rw[show aY 0 v=(v==0) by simp[aY]]
  go_enter func196,ntmps196
  go_wp2
  go_ret
  exact⟨rfl,rZ.alloc _⟩
 by_cases h1:k=1
 ·subst h1
  rw[show aY 1 v=(v==0) by simp[aY]]
  go_enter func196,ntmps196
  go_wp2
  go_ret
  exact⟨rfl,rZ.alloc _⟩
 by_cases h2:k=2
 ·subst h2
  rw[show aY 2 v=(v==0) by simp[aY]]
  go_enter func196,ntmps196
  go_wp2
  go_ret
  exact⟨rfl,rZ.alloc _⟩
 have e0:(k==0)=false:=by simpa using h0
 have e1:(k==1)=false:=by simpa using h1
 have e2:(k==2)=false:=by simpa using h2
 by_cases h3:k=3
 ·subst h3
  rw[show aY 3 v=decide (1<=v) by simp[aY]]
  clear h0 h1 h2
  go_enter func196,ntmps196
  go_wp2
  go_ret
  exact⟨rfl,rZ.alloc _⟩
 have e3:(k==3)=false:=by simpa using h3
 rw[show aY k v=false by simp[aY,h0,h1,h2,h3]]
 clear h0 h1 h2 h3
 go_enter func196,ntmps196
 go_wp2
 go_ret
 exact⟨rfl,rZ.alloc _⟩
theorem gd (k v:Int)(w:World):Calls prog 63 #[.agg #[.int .i64 k,.int .i64 v]] w λe w'=>e = .returned (.bool (aY k v))/\Fr [] w w':=by
 by_cases h0:k=0
 ·subst h0
  rw[show aY 0 v=(v==0) by simp[aY]]
  go_enter func63,ntmps63
  go_wp2
  go_ret
  exact⟨rfl,rZ.alloc _⟩
 by_cases h1:k=1
 ·subst h1
  rw[show aY 1 v=(v==0) by simp[aY]]
  go_enter func63,ntmps63
  go_wp2
  go_ret
  exact⟨rfl,rZ.alloc _⟩
 by_cases h2:k=2
 ·subst h2
  rw[show aY 2 v=(v==0) by simp[aY]]
  go_enter func63,ntmps63
  go_wp2
  go_ret
  exact⟨rfl,rZ.alloc _⟩
 have e0:(k==0)=false:=by simpa using h0
 have e1:(k==1)=false:=by simpa using h1
 have e2:(k==2)=false:=by simpa using h2
 by_cases h3:k=3
 ·subst h3
  rw[show aY 3 v=decide (1<=v) by simp[aY]]
  clear h0 h1 h2
  go_enter func63,ntmps63
  go_wp2
  go_ret
  exact⟨rfl,rZ.alloc _⟩
 have e3:(k==3)=false:=by simpa using h3
 rw[show aY k v=false by simp[aY,h0,h1,h2,h3]]
 clear h0 h1 h2 h3
 go_enter func63,ntmps63
 go_wp2
 go_ret
 exact⟨rfl,rZ.alloc _⟩
theorem yD (k v:Int)(there:Bool)(ver:Int)(w:World):Calls prog 245 #[.agg #[.int .i64 k,.int .i64 v],.bool there,.int .i64 ver] w λe w'=>e = .returned (.bool (du k v there ver))/\Fr [] w w':=by
 have q0:=Holds.new w 34 #[.int .i64 k,.int .i64 v]
 have f0:Fr [] w (w.alloc (.cells #[.int .i64 k,.int .i64 v] 34)):=rZ.alloc _
 cases hm:aY k v
 ·rw[show du k v there ver=false by simp[du,hm]]
  have HM:=hid hm
  clear hm
  go_enter func245,ntmps245
  go_wp2_with fail
  refine uu (dN k v _) λw1 f1=>?_
  rw[HM]
  go_wp2_with fail
  go_ret
  exact⟨rfl,f0.trans f1⟩
 have HM:=hid hm
 clear hm
 go_enter func245,ntmps245
 go_wp2_with fail
 refine uu (dN k v _) λw1 f1=>?_
 rw[HM]
 have q1:=q0.fr f1 (by simp)
 have c0:w1.cell? ⟨w.heap.size,0,none⟩=some (.int .i64 k):=q1.cell 0
 have c1:w1.cell? ⟨w.heap.size,1,none⟩=some (.int .i64 v):=q1.cell 1
 have f01:=f0.trans f1
 clear q0 f0 f1 q1
 by_cases h1:k=1
 ·subst h1
  have HB:Hid (du 1 v there ver=!there):=hid (by simp[du,HM.out])
  go_wp2_with fail
  go_ret
  exact⟨dI HB.out.symm,f01⟩
 by_cases h2:k=2
 ·subst h2
  have HB:Hid (du 2 v there ver=there):=hid (by simp[du,HM.out])
  go_wp2_with fail
  go_ret
  exact⟨dI HB.out.symm,f01⟩
 have e1:(k==1)=false:=by simpa using h1
 have e2:(k==2)=false:=by simpa using h2
 by_cases h3:k=3
 ·subst h3
  clear h1 h2
  have HB:Hid (du 3 v there ver=(there&&ver==v)):=hid (by simp[du,HM.out])
  cases there
  all_goals
   go_wp2_with fail
   go_ret
   exact⟨dI HB.out.symm,f01⟩
 have e3:(k==3)=false:=by simpa using h3
 have HB:Hid (du k v there ver=true):=hid (by simp[du,HM.out,h1,h2,h3])
 clear h1 h2 h3
 go_wp2_with fail
 go_ret
 exact⟨dI HB.out.symm,f01⟩
end Et
namespace Id
open Go.RowKit
def Dq (c:UInt8):Bool:=decide (97<=(c.toNat:Int))&&decide ((c.toNat:Int)<=122)
def gB (s:ByteArray):Bool:=decide (1<=s.size)&&decide (s.size<=16)&&s.data.toList.all Dq
theorem gK {s:ByteArray}(h:gB s=true):∃ (_:0<s.size) (_:s.size<=16),∀ k (hk:k<s.size),97<=(s[k].toNat:Int)/\(s[k].toNat:Int)<=122:=by
 simp only[gB,Bool.and_eq_true,decide_eq_true_eq] at h
 obtain⟨⟨h1,h2⟩,h3⟩:=h
 refine⟨h1,h2,λk hk=>?_⟩
 have:=List.all_eq_true.1 h3 _ (List.getElem_mem (n:=k) (by simpa using hk))
 simp only[Dq,Bool.and_eq_true,decide_eq_true_eq] at this
 exact this
theorem oG (c:UInt8)(w:World)(h1:97<=(c.toNat:Int))(h2:(c.toNat:Int)<=122):Calls prog 205 #[.int .u8 c.toNat] w λe w'=>e = .returned (.bool true)/\w=w':=by
 go_enter func205,ntmps205
 go_wp2
 go_ret
 exact⟨rfl,rfl⟩
theorem jw (c:UInt8)(w:World)(h1:97<=(c.toNat:Int))(h2:(c.toNat:Int)<=122):Calls prog 94 #[.int .u8 c.toNat] w λe w'=>e = .returned (.bool true)/\w=w':=by
 go_enter func94,ntmps94
 go_wp2
 go_ret
 exact⟨rfl,rfl⟩
theorem nM (s:ByteArray)(w:World)(h:gB s=true):Calls prog 158 #[.string s] w λe w'=>e = .returned (.bool true)/\w=w':=by
 obtain⟨h0,h2,hall⟩:=gK h
 obtain⟨q1,q2⟩:=hall 0 h0
 have q3:(((s[s.size - 1]'(by omega)).toNat:Int)==45)=false:=by
  have:=(hall (s.size - 1) (by omega)).1
  simp only[beq_eq_false_iff_ne,ne_eq]
  omega
 have HA:=hid hall
 clear hall h
 go_enter func158,ntmps158
 go_wp2
 go_loop [32] (λi=>∃ k:Nat,k<=s.size/\i = .int .i64 k) (λi=>s.size - (intOf i).toNat)
 case atStart=>exact⟨0,Nat.zero_le _,rfl⟩
 obtain⟨k,hk,rfl⟩:=hrel
 by_cases hlt:k<s.size
 ·obtain⟨g1,g2⟩:=HA.out k hlt
  go_wp2_with (go_at_call 205;refine(oG _ _ g1 g2).mono ?_;rintro e w' ⟨rfl,rfl⟩)
  go_round
  case rel=>exact⟨k+1,by omega,by go_num⟩
  simp[intOf];omega
 go_wp2
 go_ret
 exact⟨rfl,rfl⟩
theorem vK (s:ByteArray)(w:World)(h:gB s=true):Calls prog 194 #[.string s] w λe w'=>e = .returned (.bool true)/\w=w':=by
 obtain⟨h0,h2,hall⟩:=gK h
 have HA:=hid hall
 clear hall h
 go_enter func194,ntmps194
 go_wp2
 go_loop [15] (λi=>∃ k:Nat,k<=s.size/\i = .int .i64 k) (λi=>s.size - (intOf i).toNat)
 case atStart=>exact⟨0,Nat.zero_le _,rfl⟩
 obtain⟨k,hk,rfl⟩:=hrel
 by_cases hlt:k<s.size
 ·obtain⟨g1,g2⟩:=HA.out k hlt
  go_wp2_with (go_at_call 205;refine(oG _ _ g1 g2).mono ?_;rintro e w' ⟨rfl,rfl⟩)
  go_round
  case rel=>exact⟨k+1,by omega,by go_num⟩
  simp[intOf];omega
 go_wp2
 go_ret
 exact⟨rfl,rfl⟩
theorem fI (s:ByteArray)(w:World)(h:gB s=true):Calls prog 60 #[.string s] w λe w'=>e = .returned (.bool true)/\w=w':=by
 obtain⟨h0,h2,hall⟩:=gK h
 obtain⟨q1,q2⟩:=hall 0 h0
 have q3:(((s[s.size - 1]'(by omega)).toNat:Int)==45)=false:=by
  have:=(hall (s.size - 1) (by omega)).1
  simp only[beq_eq_false_iff_ne,ne_eq]
  omega
 have HA:=hid hall
 clear hall h
 go_enter func60,ntmps60
 go_wp2_with (go_at_call 94;refine(jw _ _ q1 q2).mono ?_;rintro e w' ⟨rfl,rfl⟩)
 go_loop [3] (λi=>∃ k:Nat,k<=s.size/\i = .int .i64 k) (λi=>s.size - (intOf i).toNat)
 case atStart=>exact⟨0,Nat.zero_le _,rfl⟩
 obtain⟨k,hk,rfl⟩:=hrel
 by_cases hlt:k<s.size
 ·obtain⟨g1,g2⟩:=HA.out k hlt
  go_wp2_with (go_at_call 94;refine(jw _ _ g1 g2).mono ?_;rintro e w' ⟨rfl,rfl⟩)
  go_round
  case rel=>exact⟨k+1,by omega,by go_num⟩
  simp[intOf];omega
 go_wp2
 go_ret
 exact⟨rfl,rfl⟩
theorem gO (s:ByteArray)(w:World)(h:gB s=true):Calls prog 61 #[.string s] w λe w'=>e = .returned (.bool true)/\w=w':=by
 obtain⟨h0,h2,hall⟩:=gK h
 have HA:=hid hall
 clear hall h
 go_enter func61,ntmps61
 go_wp2
 go_loop [3] (λi=>∃ k:Nat,k<=s.size/\i = .int .i64 k) (λi=>s.size - (intOf i).toNat)
 case atStart=>exact⟨0,Nat.zero_le _,rfl⟩
 obtain⟨k,hk,rfl⟩:=hrel
 by_cases hlt:k<s.size
 ·obtain⟨g1,g2⟩:=HA.out k hlt
  go_wp2_with (go_at_call 94;refine(jw _ _ g1 g2).mono ?_;rintro e w' ⟨rfl,rfl⟩)
  go_round
  case rel=>exact⟨k+1,by omega,by go_num⟩
  simp[intOf];omega
 go_wp2
 go_ret
 exact⟨rfl,rfl⟩
def keyOf (t c:ByteArray):ByteArray:=t++⟨#[47]⟩++c
theorem wj (t c:ByteArray)(w:World)(ht:gB t=true)(hc:gB c=true):Calls prog 149 #[.string t,.string c] w λe w'=>e = .returned (.string (keyOf t c))/\w=w':=by
 obtain⟨t0,t2,_⟩:=gK ht
 obtain⟨c0,c2,_⟩:=gK hc
 have HT:=hid ht
 have HC:=hid hc
 clear ht hc
 go_enter func149,ntmps149
 go_wp2_with fail
 refine(nM t _ HT).mono ?_
 rintro e w' ⟨rfl,rfl⟩
 go_wp2_with fail
 refine(nM c _ HC).mono ?_
 rintro e w' ⟨rfl,rfl⟩
 go_wp2_with fail
 go_ret
 exact⟨rfl,rfl⟩
end Id
namespace Fm
open Go.RowKit
def stp (p:Int × Int)(c:UInt8):Int × Int:=((p.1+c.toNat) % 256,(p.2+(p.1+c.toNat) % 256) % 256)
def stL (k:Int)(l:List UInt8):Int × Int:=l.foldl stp ((1+k) % 256,(1+k) % 256)
def cK (k:Int)(l:List UInt8):Int:=256*(stL k l).2+(stL k l).1
theorem qV (k:Int)(l:List UInt8)(c:UInt8):stL k (l++[c])=stp (stL k l) c:=by simp[stL]
theorem wU (p:Int × Int)(c:UInt8):(0<=(stp p c).1/\(stp p c).1<256)/\(0<=(stp p c).2/\(stp p c).2<256):=by
 unfold stp;omega
theorem lp (k:Int)(l:List UInt8):(0<=(stL k l).1/\(stL k l).1<256)/\(0<=(stL k l).2/\(stL k l).2<256):=by
 unfold stL
 suffices H:∀ (l:List UInt8) (p:Int × Int),(0<=p.1/\p.1<256)/\(0<=p.2/\p.2<256)->(0<=(l.foldl stp p).1/\(l.foldl stp p).1<256)/\(0<=(l.foldl stp p).2/\(l.foldl stp p).2<256) from H l _ (by simp only;omega)
 intro l
 induction l with
 | nil=>intro p h;exact h
 | cons c l ih=>intro p _;exact ih _ (wU p c)
theorem fF (k:Int)(l:List UInt8):0<=cK k l/\cK k l<65536:=by
 have:=lp k l
 unfold cK;omega
theorem vG (n:Int):bits .and .i64 n 255=n % 256:=by
 have h255:(BitVec.ofInt 64 255).toNat=2 ^ 8 - 1:=by decide
 have key:(BitVec.ofInt 64 n &&& BitVec.ofInt 64 255).toNat=(n % ((2 ^ 64:Nat):Int)).toNat % 2 ^ 8:=by
  rw[BitVec.toNat_and,BitVec.toNat_ofInt,h255,Nat.and_two_pow_sub_one_eq_mod]
 show IntKind.i64.wrap ((BitVec.ofInt 64 n &&& BitVec.ofInt 64 255).toNat:Nat)=n % 256
 rw[key,IntKind.wrap_i64]
 omega
theorem oE (n:Int)(h₀:0<=n)(h₁:n<2 ^ 63):IntKind.i64.wrap n=n:=by rw[IntKind.wrap_i64];omega
theorem kh (i:Nat)(x y:Int)(hx₀:0<=x)(hx:x % 2 ^ i=0)(hx₁:x<2 ^ 63)(hy₀:0<=y)(hy:y<2 ^ i)(hy₁:y<2 ^ 63):bits .or .i64 x y=x+y :=
 bits_join .i64 63 (by decide) oE i x y hx₀ hx hx₁ hy₀ hy hy₁
theorem jg (c:UInt8):(c.toNat:Int)<256:=by have:=c.toNat_lt;omega
theorem FC (x y:Int)(c:UInt8)(hx0:0<=x)(hx1:x<256):wrap64 (x+wrap64 (c.toNat:Int)) % 256=(stp (x,y) c).1:=by
 have:=jg c
 rw[IntWalk.wrap64_in (c.toNat:Int) (by omega),IntWalk.wrap64_in _ (by omega)];rfl
theorem Fz (x y:Int)(c:UInt8)(hx0:0<=x)(hx1:x<256):(y+wrap64 (x+wrap64 (c.toNat:Int))) % 256=(stp (x,y) c).2:=by
 have:=jg c
 rw[IntWalk.wrap64_in (c.toNat:Int) (by omega),IntWalk.wrap64_in _ (by omega)]
 simp[stp]
theorem EJ (x y:Int)(c:UInt8)(hx0:0<=x)(hx1:x<256):(wrap64 (x+wrap64 (c.toNat:Int))).tmod 256=(stp (x,y) c).1:=by
 have:=jg c
 rw[IntWalk.wrap64_in (c.toNat:Int) (by omega),IntWalk.wrap64_in _ (by omega),Int.tmod_eq_emod_of_nonneg (by omega)];rfl
theorem EH (x y:Int)(c:UInt8)(hx0:0<=x)(hx1:x<256)(hy0:0<=y)(hy1:y<256):(wrap64 (y+(wrap64 (x+wrap64 (c.toNat:Int))).tmod 256)).tmod 256=(stp (x,y) c).2:=by
 have:=jg c
 rw[IntWalk.wrap64_in (c.toNat:Int) (by omega),IntWalk.wrap64_in (x+(c.toNat:Int)) (by omega),Int.tmod_eq_emod_of_nonneg (by omega:(0:Int)<=x+c.toNat),IntWalk.wrap64_in _ (by omega),Int.tmod_eq_emod_of_nonneg (by omega)];rfl
theorem kC (k:Int)(s:ByteArray)(w:World)(hs:s.size<=maxLen) :
  Calls prog 125 #[.int .i64 k,.string s] w λe w'=>e = .returned (.int .i64 (cK k s.data.toList))/\w=w':=by
 unfold maxLen at hs
 have ha:=vG
 go_enter func125,ntmps125
 go_wp2
 go_loop [5,6,19] (λa b i=>∃ (n:Nat) (x y:Int),n<=s.size/\stL k (s.data.toList.take n)=(x,y)/\a = .int .i64 x/\b = .int .i64 y/\i = .int .i64 n) (λ_ _ i=>s.size - (intOf i).toNat)
 case atStart=>exact⟨0,_,_,Nat.zero_le _,rfl,rfl,rfl,rfl⟩
 obtain⟨n,x,y,hn,hst,rfl,rfl,rfl⟩:=hrel
 have hr:=lp k (s.data.toList.take n)
 rw[hst] at hr
 obtain⟨⟨hx0,hx1⟩,hy0,hy1⟩:=hr
 simp only at hx0 hx1 hy0 hy1
 have HS:=hid hst
 clear hst
 by_cases hlt:n<s.size
 ·go_wp2
  go_round
  case rel=>exact⟨n+1,_,_,by omega,by rw[dj s n hlt,qV,HS],int_eq (FC x y _ hx0 hx1),int_eq (Fz x y _ hx0 hx1),by go_num⟩
  simp[intOf];omega
 have e1:cK k s.data.toList=256*y+x:=by
  have h:=HS.out
  rw[List.take_of_length_le (by simp;omega)] at h
  simp[cK,h]
 have e2:bits .or .i64 (y*256) x=256*y+x:=by rw[kh 8 _ _ (by omega) (by omega) (by omega) hx0 hx1 (by omega)];omega
 have E:=hid e1
 clear e1
 go_wp2
 go_ret
 exact⟨bM (by rw[E]),rfl⟩
theorem ns (k:Int)(s:ByteArray)(w:World)(hs:s.size<=maxLen) :
  Calls prog 34 #[.int .i64 k,.string s] w λe w'=>e = .returned (.int .i64 (cK k s.data.toList))/\w=w':=by
 unfold maxLen at hs
 have ha:=vG
 go_enter func34,ntmps34
 go_wp2
 go_loop [5,6,7] (λa b i=>∃ (n:Nat) (x y:Int),n<=s.size/\stL k (s.data.toList.take n)=(x,y)/\a = .int .i64 x/\b = .int .i64 y/\i = .int .i64 n) (λ_ _ i=>s.size - (intOf i).toNat)
 case atStart=>exact⟨0,_,_,Nat.zero_le _,rfl,int_eq (by omega),int_eq (by omega),rfl⟩
 obtain⟨n,x,y,hn,hst,rfl,rfl,rfl⟩:=hrel
 have hr:=lp k (s.data.toList.take n)
 rw[hst] at hr
 obtain⟨⟨hx0,hx1⟩,hy0,hy1⟩:=hr
 simp only at hx0 hx1 hy0 hy1
 have HS:=hid hst
 clear hst
 by_cases hlt:n<s.size
 ·go_wp2
  go_round
  case rel=>exact⟨n+1,_,_,by omega,by rw[dj s n hlt,qV,HS],int_eq (EJ x y _ hx0 hx1),int_eq (EH x y _ hx0 hx1 hy0 hy1),by go_num⟩
  simp[intOf];omega
 have e1:cK k s.data.toList=256*y+x:=by
  have h:=HS.out
  rw[List.take_of_length_le (by simp;omega)] at h
  simp[cK,h]
 have E:=hid e1
 clear e1
 go_wp2
 go_ret
 exact⟨bM (by rw[E]),rfl⟩
end Fm
namespace Pi
open Go.RowKit
def bw (w:World)(g:Nat)(room:Int)(s:ByteArray)(c:Bool):Prop:=Holds w g 145 #[.int .i64 room,.string s,.bool c]
theorem bZ (room:Int)(w:World) :
  Calls prog 70 #[.int .i64 room] w λe w'=>∃ g,e = .returned (.pointer (some ⟨g,0,none⟩))/\w.heap.size<=g/\bw w' g (max room 0) ByteArray.empty false/\Fr [] w w':=by
 by_cases hr:room<0
 ·go_enter func70,ntmps70
  go_wp2
  go_ret
  refine⟨_,rfl,Nat.le_refl _,?_,rZ.alloc _⟩
  rw[Int.max_eq_right (by omega)]
  exact Holds.new _ _ _
 go_enter func70,ntmps70
 go_wp2
 go_ret
 refine⟨_,rfl,Nat.le_refl _,?_,rZ.alloc _⟩
 rw[Int.max_eq_left (by omega)]
 exact Holds.new _ _ _
theorem iG (w:World)(g:Nat)(room:Int)(s:ByteArray)(c:Bool)(h:bw w g room s c) :
  Calls prog 130 #[.pointer (some ⟨g,0,none⟩)] w λe w'=>e = .returned (.string s)/\w=w':=by
 have c1:=h.cell 1
 go_enter func130,ntmps130
 go_wp2
 go_ret
 exact⟨rfl,rfl⟩
theorem vj (w:World)(g:Nat)(room:Int)(s:ByteArray)(c:Bool)(h:bw w g room s c) :
  Calls prog 131 #[.pointer (some ⟨g,0,none⟩)] w λe w'=>e = .returned (.bool c)/\w=w':=by
 have c1:=h.cell 2
 go_enter func131,ntmps131
 go_wp2
 go_ret
 exact⟨rfl,rfl⟩
theorem kD (w:World)(g:Nat)(room:Int)(s:ByteArray)(c:Bool)(h:bw w g room s c)(h0:0<=room)(h1:room<=9223372036854775807)(hs:(s.size:Int)<=room) :
  Calls prog 77 #[.pointer (some ⟨g,0,none⟩)] w λe w'=>e = .returned (.int .i64 (room - s.size))/\∃ n,w'=w.drewN n:=by
 have c0:=h.cell 0
 have c1:=h.cell 1
 go_enter func77,ntmps77
 go_wp2
 go_quiet (fail)
 go_wp2
 go_ret
 exact⟨rfl,_,rfl⟩
def fits (room:Int)(b:ByteArray)(c:Bool)(s:ByteArray):Bool:=!c&&decide ((s.size:Int)<=room - b.size)
theorem vU (w:World)(g:Nat)(room:Int)(b:ByteArray)(c:Bool)(s:ByteArray)(h:bw w g room b c)(h0:0<=room)(h1:room<=9223372036854775807)(hs:(b.size:Int)<=room)
  (hf:fits room b c s=true) :
  Calls prog 50 #[.pointer (some ⟨g,0,none⟩),.string s] w λe w'=>e = .returned (.bool true)/\bw w' g room (b++s) c/\Fr [g] w w':=by
 simp[fits] at hf
 obtain⟨rfl,hf⟩:=hf
 have c1:=h.cell 1
 have c2:=h.cell 2
 have f1:=h.frozen 1
 go_enter func50,ntmps50
 go_wp2_with fail
 refine(kD w g room b false h h0 h1 hs).mono ?_
 rintro e w' ⟨rfl,n,rfl⟩
 go_wp2
 go_ret
 exact⟨rfl,(h.drewN n).set 1 _,(rZ.drewN n).setCell (by simp) _⟩
def gD (n:Int)(b:ByteArray):Nat:=(min (max n 0) b.size).toNat
theorem nc (w:World)(g:Nat)(room:Int)(b:ByteArray)(c:Bool)(n:Int)(h:bw w g room b c)(h1:b.size<=9223372036854775807) :
  Calls prog 37 #[.pointer (some ⟨g,0,none⟩),.int .i64 n] w λe w'=>e = .returned (.string (b.extract 0 (gD n b)))/\bw w' g room (b.extract (gD n b) b.size) c/\Fr [g] w w':=by
 have c1:=h.cell 1
 have f1:=h.frozen 1
 by_cases hn:n<0
 ·rw[show gD n b=0 by unfold gD;omega,show b.extract 0 0=ByteArray.empty by simp,show b.extract 0 b.size=b by simp]
  go_enter func37,ntmps37
  go_wp2
  go_ret
  exact⟨rfl,h.set 1 _,rZ.setCell (by simp) _⟩
 obtain⟨m,rfl⟩:=Int.eq_ofNat_of_zero_le (by omega:0<=n)
 by_cases hm:m<=b.size
 ·rw[show gD (m:Int) b=m by unfold gD;omega]
  go_enter func37,ntmps37
  go_wp2
  go_ret
  exact⟨rfl,h.set 1 _,rZ.setCell (by simp) _⟩
 rw[show gD (m:Int) b=b.size by unfold gD;omega,show b.extract 0 b.size=b by simp,show b.extract b.size b.size=ByteArray.empty by simp]
 go_enter func37,ntmps37
 go_wp2
 go_ret
 exact⟨rfl,h.set 1 _,rZ.setCell (by simp) _⟩
theorem qT (w:World)(g:Nat)(room:Int)(b:ByteArray)(c:Bool)(n:Int)(h:bw w g room b c)(h1:b.size<=9223372036854775807)(a r:ByteArray)
  (ha:b.extract 0 (gD n b)=a) (hr:b.extract (gD n b) b.size=r) :
  Calls prog 37 #[.pointer (some ⟨g,0,none⟩),.int .i64 n] w λe w'=>e = .returned (.string a)/\bw w' g room r c/\Fr [g] w w':=by
 subst ha
 subst hr
 exact nc w g room b c n h h1
end Pi
