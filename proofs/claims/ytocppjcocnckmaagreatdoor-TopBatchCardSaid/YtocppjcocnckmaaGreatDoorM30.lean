/- Walks. -/
import Derived.Test.YtocppjcocnckmaaGreatDoorM28
import Derived.StillTailTactics
set_option maxRecDepth 100000
set_option maxHeartbeats 8000000
set_option linter.all false
namespace Go.Proofs.YtocppjcocnckmaaGreatDoor
open Go.RowKit Go.Shelf
section
variable {P:Program} {ops:Array Oper} {md:Region.Mode} {w:World} {m:Nat}
theorem yb {n:Nat}{o:Oper}{a:Act}{K:Act->Prop}{K':Act->World->Prop}{Q:Exit->Act->World->Prop}(hK:∀ a,K a->K' a w)(h:o.still P a w K):Oper.wpIn Fence.wide n P o a w K' Q:=by
 refine⟨λ_ _=>trivial,?_⟩
 unfold Oper.still at h
 rw[show Fence.wide.round=none from rfl,Oper.semAt_none]
 generalize (execOp a.eval o).run P w=r at h ⊢
 cases r with
 | ok x w' =>
  cases x<;>simp only[Oper.stillUpon] at h
  case value u =>
   obtain⟨rfl,h2⟩:=h
   exact hK _ h2
  case skip =>
   obtain⟨rfl,h2⟩:=h
   exact hK _ h2
  case enter f args =>
   obtain⟨rfl,v,hc,h2⟩:=h
   refine⟨λe=>(by cases e),callsIn_wide.2 (Calls.mono hc ?_)⟩
   rintro e w'' ⟨rfl,rfl⟩
   exact hK _ h2
 | halt x w'=>exact h.elim
theorem mT {n i:Nat}{a:Act}{K:Act->Prop}{K':Act->World->Prop}{Q:Exit->Act->World->Prop}(h:∀ a,K a->K' a w)(hh:stOp P ops w i K a):wpOpIn Fence.wide n P ops Q i K' a w:=by
 unfold stOp at hh
 unfold wpOpIn
 split
 ·rename_i ho;simp only[ho] at hh;exact h _ hh
 rename_i o ho
 simp only[ho] at hh
 split
 ·rename_i hw;simp only[hw,if_true] at hh;exact yb h hh
 rename_i hw;simp only[hw] at hh;exact⟨λ_ _=>trivial,h _ hh⟩
theorem jm {n g:Nat}{L:Array Bool->Act->Prop}{Q:Exit->Act->World->Prop}(hL:∀ listed a,L listed a->wpAnyIn Fence.wide m P md ops Q g listed a w) :
  ∀ (f:Nat) (listed:Array Bool) (a:Act),wpAnyL P md ops w n L f listed a->wpAnyIn Fence.wide m P md ops Q (f+g) listed a w
 | 0,listed,a,h=>by rw[Nat.zero_add];exact hL _ _ h
 | f+1,listed,a,h=>by
  rw[show f+1+g=(f+g)+1 by omega]
  exact⟨λh0=>absurd h0 h.1,λi hi=>mT (λa' h'=>jm hL f _ a' h') (h.2 i hi).2⟩
theorem jr {F:Fence}{Q:Exit->Act->World->Prop} : ∀ (l:List Oper) (k:Nat) (listed:Array Bool) (a:Act) (w:World),(∀ j,l[j]? = ops[k+j]?) ->
  Region.seqB md ops l.length k listed=true->wpListIn F m P ops Q l a w->wpAnyIn F m P md ops Q l.length listed a w
 | [],_,_,_,_,_,hB,h=>⟨by simpa[Region.seqB] using hB,h⟩
 | o::l,k,listed,a,w,hl,hB,h=>by
  have h0:ops[k]? = some o:=by simpa using (hl 0).symm
  simp only[List.length_cons,Region.seqB,Bool.and_eq_true,decide_eq_true_eq] at hB
  refine⟨λh1=>(by rw[hB.1] at h1;cases h1),λi hi=>?_⟩
  rw[hB.1] at hi
  have hik:i=k:=by simpa using hi
  subst hik
  have hw:wpOpIn F m P ops Q i (wpListIn F m P ops Q l) a w:=by unfold wpOpIn;simp only[h0];exact h
  exact wpOpIn_mono (λa' w' h'=>jr l (i+1) _ a' w' (λj=>by have:=hl (j+1);simpa[Nat.add_assoc,Nat.add_comm 1 j] using this) hB.2 h') hw
theorem iP {id:Nat}{Q:Exit->Act->World->Prop}{a:Act}{l:List Oper}(n:Nat)(hm:P.follows .mixedOrders=true)(hB:Region.lexTailB .any l.toArray n=true)
  (h:wpStill P l.toArray w.drew (λa'=>wpListIn Fence.wide m P l.toArray Q (l.drop n) a' w.drew) (l.take n) a):(Code.region id l.toArray true).wpIn Fence.wide m P Q a w:=by
 simp only[Region.lexTailB,Bool.and_eq_true,decide_eq_true_eq] at hB
 obtain⟨⟨⟨⟨hsel,hn⟩,hs⟩,hc⟩,hlex⟩:=hB
 have hn':n<l.length:=by simpa using hn
 have htl:(l.take n).length=n:=by simp;omega
 have hdl:(l.drop n).length=l.toArray.size - n:=by simp
 have inv0:HeadInv .any l.toArray n (Array.replicate l.toArray.size false) :=
  ⟨by simp,λj oj _ hl=>(by rw[getD_replicate_false] at hl;cases hl),λt _ ht=>getD_in (by simpa using ht) (getD_replicate_false _ _)⟩
 have H:=wpAnyL_lex (md:=.any) (g:=l.toArray.size - n) hsel hs hc hn (l.take n) 0 _ a (λj hj=>by
  have hj':j<n:=by rw[htl] at hj;exact hj
  simp[hj']) (by simpa using htl) inv0 (by rw[htl];exact hlex) h
 refine wpIn_region_any hm ?_
 have:=jm (m:=m) (Q:=Q) (g:=l.toArray.size - n) (λlisted a' hL=>by
  have:=jr (F:=Fence.wide) (m:=m) (md:=.any) (Q:=Q) (l.drop n) n listed a' w.drew (λj=>by simp[List.getElem?_drop]) (by rw[hdl];exact hL.1) hL.2
  rwa [hdl] at this) _ _ _ H
 rw[htl,show n+(l.toArray.size - n)=l.toArray.size by omega] at this
 exact this
end
theorem eA {F:Fence}{n:Nat}{P:Program}{w:World}{e:TypeId}{sz k:Nat}{xs:List Value}{ops:Array Oper}{rest:List Oper}{o:Oper}{A:Act}{Q:Exit->Act->World->Prop}(hgd:o.guard=none)(s x:Operand)(t:TypeId)
  (ho:o.op = .call { callee:=.builtin .append,args:=#[s,x],argTypes:=#[t,t] }) (i:TypeInfo) (z:Value) (bytes:Nat) (ht:P.underlying t=some (.slice e)) (hi:P.info? e=some i) (hz:i.zero=some z)
  (hsize:i.size=sz) (hby:i.bytes=bytes) (hzs:z.cells.size=sz) (hsz:0<sz)
  (v:Value) (own:Option Nat) (hs:A.eval s=v) (h:Sl w e sz v k xs own) (a:Option Addr) (m c:Nat) (news:List Value) (hx:A.eval x = .slice a m c) (hl:news.length=m*sz) (hnews:Cells w a news) (h1:∀ u∈news,u.oneCell'=true)
  (h63:k+m<=maxLen) (hbytes:(k+m)*bytes<=140737488355328)
  (hk:∀ v' w' own',Sl w' e sz v' (k+m) (xs++news) own'->Fr own.toList w w'->(own'=own∨∃ g,own'=some g/\w.heap.size<=g)->(0<m->∃ g,own'=some g)->wpListIn F n P ops Q rest (A.put o.dst v') w') :
  wpListIn F n P ops Q (o::rest) A w:=by
 refine wpListIn_plain hgd λK hK=>?_
 obtain⟨v',w',own',hr,h2,h3,h4,h5⟩:=fS (P:=P) t o.type i z bytes ht hi hz hsize hby hzs hsz v own h a m c news hl hnews h1 h63 hbytes
 unfold Oper.wpIn
 refine⟨?_,?_⟩
 ·simp[Oper.about,ho,resolve,Target.leads,Sem.run_pure]
 rw[Oper.semAt_plain F _ _ (by rw[ho];intro c hc';cases hc')]
 simp[execOp,ho,resolve,invoke,builtin,hs,hx,hr,Result.andThen]
 exact hK _ _ (hk v' w' own' h2 h3 h4 h5)
