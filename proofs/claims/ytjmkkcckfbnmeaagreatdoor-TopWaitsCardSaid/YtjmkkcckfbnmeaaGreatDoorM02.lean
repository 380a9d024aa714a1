/- Texts PTop, PMay, PFit, PMain, PFirst, PRun. -/
import Derived.Test.YtjmkkcckfbnmeaaGreatDoorM01
set_option maxRecDepth 100000
set_option maxHeartbeats 8000000
set_option linter.all false
namespace Go.Proofs.YtjmkkcckfbnmeaaGreatDoor.M
def fresh (c:Conn):Bool:=decide (c.state=1)&&c.todo.isEmpty
def startOk (n:Nat):Bool:=decide ((start n).core=coreOf d0 {} [] 0 0)&&decide ((start n).conns.length=n)&&(start n).conns.all fresh
theorem start_ok (n:Nat)(h1:2≤n)(h2:n≤10):startOk n=true:=by
 have:∀ m:Fin 11,2≤m.val→startOk m.val=true:=by decide +kernel
 exact this ⟨n,by omega⟩ h1
theorem sends (waits:Nat)(ticks:Int)(s0:Srv):∀ (m:Nat),let s:=(List.range m).foldl (fun s i=>s.send (i+1) [ask waits ticks (i+1)]) s0
  s.core=s0.core∧s.events=s0.events∧s.conns.length=s0.conns.length∧(∀ k c,s0.conns[k]? = some c→s.conns[k]? = some (if 1≤k∧k≤m then { c with todo:=c.todo++[ask waits ticks k] } else c)):=by
 intro m
 induction m with
 | zero =>
  refine⟨rfl,rfl,rfl,fun k c hc=>?_⟩
  rw[if_neg (by omega)]
  exact hc
 | succ m ih =>
  simp only[List.range_succ,List.foldl_append,List.foldl_cons,List.foldl_nil]
  obtain⟨h1,h2,h3,h4⟩:=ih
  generalize (List.range m).foldl (fun s i=>s.send (i+1) [ask waits ticks (i+1)]) s0=s at h1 h2 h3 h4
  unfold Srv.send
  cases hm:s.conns[m+1]? with
  | none =>
   refine⟨h1,h2,h3,fun k c hc=>?_⟩
   have:=h4 k c hc
   by_cases e:k=m+1
   ·subst e
    rw[hm] at this
    cases this
   ·rw[this]
    by_cases hk:1≤k∧k≤m
    ·rw[if_pos hk,if_pos (by omega)]
    ·rw[if_neg hk,if_neg (by omega)]
  | some c' =>
   refine⟨h1,h2,by simpa using h3,fun k c hc=>?_⟩
   have:=h4 k c hc
   by_cases e:k=m+1
   ·subst e
    rw[hm,if_neg (by omega)] at this
    cases this
    have hlt:=(List.getElem?_eq_some_iff.1 hm).1
    rw[if_pos (by omega)]
    simp[List.getElem?_set,hlt]
   ·simp only
    rw[List.getElem?_set_ne (fun h=>e h.symm),this]
    by_cases hk:1≤k∧k≤m
    ·rw[if_pos hk,if_pos (by omega)]
    ·rw[if_neg hk,if_neg (by omega)]
theorem begun {waits asks:Nat}{ticks:Int}{write:Nat}(hw:1≤waits)(hw5:waits≤5)(ha:asks≤4)(ht:1≤ticks)(hwr:write≤4) :
  let n:=1+waits+asks
  let P:Par:=⟨n,waits,ticks,write,(start n).events⟩
  let s1:=asked (start n) waits ticks n
  let s2:=if write<4 then s1.send 0 [wr write] else s1
  P.Ok∧(∃ c0,(start n).conns[0]? = some c0∧c0.state=1∧(start n).can 0=false)∧∃ g:G P 0,g.s=s2∧(∀ k,k<n→1≤k→g.ph k = .unread):=by
 intro n P s1 s2
 have hok:=start_ok n (by omega) (by omega)
 simp only[startOk,Bool.and_eq_true,decide_eq_true_eq,List.all_eq_true] at hok
 obtain⟨⟨hcore,hlen⟩,hall⟩:=hok
 have hfr:∀ k,k<n→∃ c,(start n).conns[k]? = some c∧c.state=1∧c.todo=[]:=fun k hk=>by
  have hlt:k<(start n).conns.length:=by rw[hlen];exact hk
  refine⟨_,List.getElem?_eq_getElem hlt,?_⟩
  have:=hall _ (List.getElem_mem hlt)
  simpa[fresh] using this
 have hP:P.Ok:=⟨hw,by show waits+1≤n;omega,by show n≤waits+5;omega,hw5,ht,hwr⟩
 refine⟨hP,?_,?_⟩
 ·obtain⟨c0,hc,h1,h2⟩:=hfr 0 (by omega)
  exact⟨c0,hc,h1,by simp[Srv.can,hc,h1,h2]⟩
 ·obtain⟨b1,b2,b3,b4⟩:=sends waits ticks (start n) (n - 1)
  have e1:s1=(List.range (n - 1)).foldl (fun s i=>s.send (i+1) [ask waits ticks (i+1)]) (start n):=rfl
  rw[←e1] at b1 b2 b3 b4
  have hc1:∀ k,k<n→1≤k→∃ c,s1.conns[k]? = some c∧c.state=1∧c.todo=[ask waits ticks k]:=fun k hk h1=>by
   obtain⟨c,hc,h3,h4⟩:=hfr k hk
   have:=b4 k c hc
   rw[if_pos ⟨h1,by omega⟩] at this
   exact⟨_,this,h3,by simp[h4]⟩
  obtain⟨c0,hc0,h01,h02⟩:=hfr 0 (by omega)
  have hc10:s1.conns[0]? = some c0:=by
   have:=b4 0 c0 hc0
   rw[if_neg (by omega)] at this
   exact this
  have hl0:0<s1.conns.length:=by rw[b3,hlen];omega
  have f1:s2.core=coreOf d0 {} [] 0 ticks∧s2.events=(start n).events∧s2.conns.length=n∧(∀ k,k<n→1≤k→s2.conns[k]? = s1.conns[k]?)∧(∃ c,s2.conns[0]? = some c∧c.state=1∧c.todo=if write<4 then [wr write] else []):=by
   by_cases h4:write<4
   ·have e2:s2={ s1 with conns:=s1.conns.set 0 { c0 with todo:=c0.todo++[wr write] } }:=by
     show (if write<4 then s1.send 0 [wr write] else s1)=_
     rw[if_pos h4]
     unfold Srv.send
     rw[hc10]
    rw[e2,if_pos h4]
    refine⟨by rw[b1,hcore];rfl,b2,by simp[b3,hlen],fun k _ h1=>List.getElem?_set_ne (by omega),⟨{ c0 with todo:=c0.todo++[wr write] },?_,h01,by simp[h02]⟩⟩
    simp[List.getElem?_set,hl0]
   ·have e2:s2=s1:=if_neg h4
    rw[e2,if_neg h4]
    exact⟨by rw[b1,hcore];rfl,b2,by rw[b3,hlen],fun _ _ _=>rfl,⟨c0,hc10,h01,h02⟩⟩
  obtain⟨f1,f2,f3,f4,c0',f5,f6,f7⟩:=f1
  let p0:Ph:=if write<4 then .unread else .done
  let ph:Nat→Ph:=fun k=>if k=0 then p0 else .unread
  have hph0:ph 0=p0:=rfl
  have hph:∀ k,1≤k→ph k = .unread:=fun k hk=>if_neg (by omega)
  refine⟨⟨s2,ph,fun _=>{ kind:=0 },{},[],?_⟩,rfl,fun k _ hk=>hph k hk⟩
  have hd:dcur P (ph 0)=d0:=by
   unfold dcur
   rw[hph0]
   by_cases h4:write<4
   ·rw[if_neg (by show ¬ write=4;omega)]
    have:p0 = .unread:=if_pos h4
    rw[this]
   ·rw[if_pos (by show write=4;omega)]
  have hlk:∀ i:Int,Lk.state {} i=0:=fun i=>by
   rw[state_eq _ rfl]
   simp[whos]
  have hz:∀ k,ph k = .unread∨ph k = .done:=fun k=>by
   by_cases hk:k=0
   ·subst hk
    by_cases h4:write<4
    ·exact .inl (if_pos h4)
    ·exact .inr (if_neg h4)
   ·exact .inl (hph k (by omega))
  refine⟨by rw[hd];exact f1,f3,?_,lok_new,?_,?_,⟨by simp,by simp⟩,?_,?_,⟨[],by simpa using f2,by simp,?_⟩,fun _=>rfl⟩
  ·intro k hk
   by_cases h0:k=0
   ·subst h0
    refine⟨c0',f5,?_⟩
    rw[hph0]
    by_cases h4:write<4
    ·have:p0 = .unread:=if_pos h4
     rw[this]
     exact⟨f6,by rw[f7,if_pos h4];rfl⟩
    ·have:p0 = .done:=if_neg h4
     rw[this]
     exact⟨f6,by rw[f7,if_neg h4]⟩
   ·obtain⟨c,hc,h1,h2⟩:=hc1 k hk (by omega)
    refine⟨c,by rw[f4 k hk (by omega)];exact hc,?_⟩
    rw[hph k (by omega)]
    exact⟨h1,by rw[h2];unfold Par.q;rw[if_neg h0]⟩
  ·intro k _
   rw[hlk]
   rcases hz k with h|h<;>rw[h]<;>rfl
  ·intro i hi
   exact absurd (hlk i) hi
  ·intro k _
   rcases hz k with h|h<;>rw[h]<;>rfl
  ·intro k _
   rcases hz k with h|h
   ·rw[h]
    refine⟨by simp,by simp,by simp,by simp,by simp,by simp,by simp,?_,by simp,by simp,by simp⟩
    intro h0 h4
    subst h0
    rw[hph0] at h
    have:p0 = .done:=if_neg (by show ¬ write<4;have:write=4:=h4;omega)
    rw[this] at h
    cases h
   ·rw[h]
    exact⟨by simp,by simp,by simp,by simp,by simp,by simp,by simp,by simp,by simp,by simp,by simp⟩
  ·intro k hk hc
   constructor
   ·rintro ⟨e,he,_⟩
    simp at he
   ·intro h
    exfalso
    rcases hc with hc|hc
    ·rw[hph k hc] at h;cases h
    ·by_cases h0:k=0
     ·subst h0
      have:p0 = .unread:=if_pos hc
      rw[hph0,this] at h
      cases h
     ·rw[hph k (by omega)] at h;cases h
theorem answered_iff {P:Par}{now:Int}(g:G P now){k:Nat}(hk:k<P.n)(hc:1≤k∨P.write<4):answered g.s P.E0.length k=true ↔ g.ph k = .done:=by
 obtain⟨E,he,_,h2⟩:=g.I.evs
 rw[←h2 k hk hc]
 unfold answered
 rw[he,List.drop_left,List.any_eq_true]
 simp
theorem ends_of {P:Par}(hP:P.Ok){now:Int}(g:G P now)(h:∀ k,P.isW k→g.ph k = .done):ends g.s P.E0.length P.waits P.write=true:=by
 unfold ends
 rw[List.all_eq_true]
 intro i hi
 have hi':i<P.waits:=by simpa using hi
 have hW:P.isW (i+1):=⟨by omega,by omega⟩
 have hn:=hP.hn
 have ha:=(answered_iff g (k:=i+1) (by omega) (.inl (by omega))).2 (h _ hW)
 obtain⟨E,he,h1,_⟩:=g.I.evs
 rw[Bool.and_eq_true]
 refine⟨ha,?_⟩
 rw[he,List.drop_left,List.all_eq_true]
 intro e hm
 by_cases hc:e.kind=3∧e.conn=((i+1:Nat):Int)
 ·have:=h1 e hm hc.1 (i+1) hW hc.2
  simp[this]
 ·have:(e.kind==3&&e.conn==((i+1:Nat):Int))=false:=by
   rw[Bool.and_eq_false_iff]
   simp only[beq_eq_false_iff_ne]
   by_cases h3:e.kind=3
   ·exact .inr fun h=>hc ⟨h3,h⟩
   ·exact .inl h3
  rw[this]
  rfl
theorem ticked {P:Par}(h4:P.write=4){now:Int}(g:G P now)(hr:∀ k,k<P.n→g.ph k≠.unread)(d:Int):∃ g':G P (now+d),g'.s=g.s.tick d∧g'.ph=g.ph:=by
 obtain⟨s,ph,rs,l,h,I⟩:=g
 simp only at hr
 refine⟨⟨s.tick d,ph,rs,l,h,?_⟩,rfl,rfl⟩
 refine⟨?_,I.len,I.conn,I.lok,I.pos,I.rng,I.hubn,I.hub,?_,I.evs,fun h=>by omega⟩
 ·show ({ s.core with now:=s.core.now+d } : Core)=_
  rw[I.core]
  rfl
 ·intro k hk
  have o:=I.kok k hk
  exact⟨o.sl,o.sf,o.wt,o.wr,o.w0,o.k0,o.aw,o.nw,o.it,fun h=>absurd h (hr k hk),o.li⟩
theorem waits_law (picks:List Int){waits asks:Nat}{ticks:Int}{write:Nat}(hw:1≤waits)(hw5:waits≤5)(ha:asks≤4)(ht:1≤ticks)(hwr:write≤4):topWaits picks waits asks ticks write=true:=by
 obtain⟨hP,⟨c0,hc0,h01,h02⟩,g2,hg2,hun⟩:=begun (asks:=asks) hw hw5 ha ht hwr
 unfold topWaits
 simp only[hc0,h01,h02]
 rw[if_neg (by simp)]
 generalize hn:1+waits+asks=n at *
 have hn0:0<n:=by omega
 generalize hPp:(⟨n,waits,ticks,write,(start n).events⟩:Par)=P at *
 have p1:P.n=n:=by rw[←hPp]
 have p2:P.waits=waits:=by rw[←hPp]
 have p3:P.ticks=ticks:=by rw[←hPp]
 have p4:P.write=write:=by rw[←hPp]
 have p5:P.E0=(start n).events:=by rw[←hPp]
 have hmap:∀ (L:List Int) (s:Srv),L.foldl (fun s p=>s.pick ((p % 18446744073709551616).toNat % n)) s=(L.map fun p=>(p % 18446744073709551616).toNat % n).foldl Srv.pick s:=by
  intro L s
  rw[List.foldl_map]
 have hin:∀ (L:List Int),∀ k∈L.map (fun p=>(p % 18446744073709551616).toNat % n),k<P.n:=by
  intro L k hk
  obtain⟨p,_,rfl⟩:=List.mem_map.1 hk
  rw[p1]
  exact Nat.mod_lt _ hn0
 by_cases h4:write<4
 ·rw[if_pos h4,if_pos h4]
  rw[if_pos h4] at hg2
  have hlt:P.write<4:=by omega
  obtain⟨g3,e3,_⟩:=picks_keep hP (fun _=>True) (fun _ _ _ _ _ _=>trivial) _ (hin picks) g2 trivial
  rw[hmap]
  rw[hg2] at e3
  rw[←e3]
  have htill:answered (till g3.s (start n).events.length n (60*n) 0) (start n).events.length 0=true:=by
   rcases till_or (start n).events.length n (60*n) 0 g3.s with h|h
   ·exact h
   ·obtain⟨g4,e4,h4d⟩:=writer_done hP hlt g3
    rw[h,fold_rounds n hn0,←p5]
    rw[p1] at e4
    rw[←e4]
    exact(answered_iff g4 (k:=0) (by omega) (.inr hlt)).2 h4d
  obtain⟨L,hL,eL⟩:=till_picks (start n).events.length n hn0 (60*n) 0 g3.s
  obtain⟨g4,e4,_⟩:=picks_keep hP (fun _=>True) (fun _ _ _ _ _ _=>trivial) L (by rw[p1];exact hL) g3 trivial
  rw[eL,←e4] at htill ⊢
  rw[htill,Bool.true_and]
  have hd4:g4.ph 0 = .done:=by
   rw[←p5] at htill
   exact(answered_iff g4 (k:=0) (by omega) (.inr hlt)).1 htill
  obtain⟨g5,e5,_,h5⟩:=some_rounds hP (Post P 0) post_keep P.isW (fun _ p=>fin (dEnd P.write).found p) (post_lower hP hlt) 8 g4 hd4
  rw[p1] at e5
  rw[←e5,←p5,←p2,←p4]
  refine ends_of hP g5 fun k hk=>?_
  have hkn:k<P.n:=by have:=hk.2;have:=hP.hn;omega
  have:=h5 k hkn hk
  have:=fin_le (dEnd P.write).found (g4.ph k)
  have h0:fin (dEnd P.write).found (g5.ph k)=0:=by omega
  revert h0
  cases g5.ph k<;>simp[fin]
  all_goals (split<;>simp)
 ·rw[if_neg h4,if_neg h4]
  rw[if_neg h4] at hg2
  have h4':P.write=4:=by omega
  have htk:=hP.ht
  have hE:Early P 0 g2:=fun k hk hW=>by
   rw[hun k (by omega) hW.1]
   decide
  obtain⟨g3,e3,h3⟩:=picks_keep hP (Early P 0) (early_keep hP h4' (by omega)) _ (hin picks) g2 hE
  rw[hmap]
  rw[hg2] at e3
  rw[←e3]
  obtain⟨g4,e4,h4e,h4l⟩:=some_rounds hP (Early P 0) (early_keep hP h4' (by omega)) P.isW (fun _ p=>low p) (fun g g' k hk hg hs h=>(early_both hP h4' (by omega) g g' k hk hg hs h).1) 19 g3 h3
  obtain⟨g4,e4,h4e,h4r,h4u⟩:∃ g4:G P 0,g4.s=rounds g3.s P.n 20∧Early P 0 g4∧(∀ k,k<P.n→P.isW k→low (g4.ph k)=0)∧∀ k,k<P.n→g4.ph k≠.unread:=by
   obtain⟨a,a1,a2,a3⟩:=some_rounds hP (Early P 0) (early_keep hP h4' (by omega)) (fun _=>True) (fun k p=>if P.isW k then low p else unr p)
    (fun g g' k hk hg _ h=>by
     by_cases hW:P.isW k
     ·simp only[if_pos hW]
      exact(early_both hP h4' (by omega) g g' k hk hg hW h).1
     ·simp only[if_neg hW]
      exact read_lower g g' k hk trivial trivial h) 20 g3 h3
   refine⟨a,a1,a2,?_,?_⟩
   ·intro k hk hW
    have:=a3 k hk trivial
    simp only[if_pos hW] at this
    have:=h3 k hk hW
    omega
   ·intro k hk e
    have:=a3 k hk trivial
    by_cases hW:P.isW k
    ·simp only[if_pos hW] at this
     have h:=h3 k hk hW
     rw[e,show low .unread=5 from rfl] at this
     omega
    ·simp only[if_neg hW] at this
     rw[e] at this
     have h:unr (g3.ph k)≤1:=by unfold unr;split<;>omega
     rw[show unr .unread=1 from rfl] at this
     omega
  rw[p1] at e4
  rw[←e4]
  obtain⟨g5,e5,q5⟩:=ticked h4' g4 h4u (ticks - 1)
  have hnow:(0:Int)+(ticks - 1)<P.ticks:=by omega
  have hE5:Early P (0+(ticks - 1)) g5:=fun k hk hW=>by rw[q5];exact h4e k hk hW
  rw[←e5]
  obtain⟨g6,e6,h6e,h6⟩:=some_rounds hP (Early P (0+(ticks - 1))) (early_keep hP h4' hnow) (fun _=>True) (fun k p=>if P.isW k then low p else unr p)
   (fun g g' k hk hg _ h=>by
    by_cases hW:P.isW k
    ·simp only[if_pos hW]
     exact(early_both hP h4' hnow g g' k hk hg hW h).1
    ·simp only[if_neg hW]
     exact read_lower g g' k hk trivial trivial h) 20 g5 hE5
  rw[p1] at e6
  rw[←e6]
  have h6w:∀ k,k<P.n→P.isW k→g6.ph k = .rest:=fun k hk hW=>by
   have:=h6 k hk trivial
   simp only[if_pos hW,q5] at this
   have h:=h4r k hk hW
   have h0:low (g6.ph k)=0:=by omega
   revert h0
   cases g6.ph k<;>simp[low]
  have h6u:∀ k,k<P.n→g6.ph k≠.unread:=fun k hk e=>by
   by_cases hW:P.isW k
   ·rw[h6w k hk hW] at e;cases e
   ·have:=h6 k hk trivial
    simp only[if_neg hW,q5] at this
    rw[e] at this
    have h:=h4u k hk
    have h':unr (g4.ph k)=0:=if_neg h
    rw[h'] at this
    simp[unr] at this
  rw[Bool.and_eq_true]
  refine⟨?_,?_⟩
  ·rw[List.all_eq_true]
   intro i hi
   have hi':i<waits:=by simpa using hi
   have hW:P.isW (i+1):=⟨by omega,by omega⟩
   have hkn:i+1<P.n:=by have:=hP.hn;omega
   have hr:=h6w (i+1) hkn hW
   have hna:answered g6.s (start n).events.length ((i+1:Nat):Int)=false:=by
    rw[←p5]
    rw[←Bool.not_eq_true]
    intro h
    have:=(answered_iff g6 hkn (.inl (by omega))).1 h
    rw[hr] at this
    cases this
   have hcan:g6.s.can (i+1)=false:=by
    rcases step hP g6.I hkn with⟨h,_⟩|⟨_,p',_,_,_,_,t⟩
    ·exact h
    ·exfalso
     rw[hr] at t
     obtain⟨_,_,hf⟩:=done0 hP h4' g6
     cases t with
     | rise _ h =>
      rcases h with h|h
      ·rw[hf] at h;cases h
      ·omega
   have e:((i:Int)+1)=((i+1:Nat):Int):=by omega
   rw[e,hna,hcan]
   rfl
  ·obtain⟨g7,e7,q7⟩:=ticked h4' g6 h6u 1
   have hnow7:P.ticks≤0+(ticks - 1)+1:=by omega
   obtain⟨g8,e8,_,h8⟩:=some_rounds hP (fun _=>True) (fun _ _ _ _ _ _=>trivial) P.isW (fun _ p=>fin true p) (late_lower hP h4' hnow7) 8 g7 trivial
   rw[p1] at e8
   rw[←e7,←e8,←p5,←p2,←p4]
   refine ends_of hP g8 fun k hk=>?_
   have hkn:k<P.n:=by have:=hk.2;have:=hP.hn;omega
   have:=h8 k hkn hk
   have:=fin_le true (g7.ph k)
   have h0:fin true (g8.ph k)=0:=by omega
   revert h0
   cases g8.ph k<;>simp[fin]
end Go.Proofs.YtjmkkcckfbnmeaaGreatDoor.M
namespace Go.Proofs.YtjmkkcckfbnmeaaGreatDoor.M
def lowB (c:UInt8):Bool:=decide (97≤(c.toNat:Int))&&decide ((c.toNat:Int)≤122)
def lowS (s:BS):Bool:=decide (1≤s.size)&&decide (s.size≤16)&&s.data.toList.all lowB
def condOk (k v:Int):Bool:=if k=0∨k=1∨k=2 then v==0 else if k=3 then decide (1≤v) else false
def card3 (s:BS):Bool:=decide (s=ann)||decide (s=bob)||decide (s=cy)
def opOk (o:Op):Bool:=lowS o.uid&&condOk o.ck o.cv&&decide (o.cv≤247)&&(if o.del then decide (o.card=⟨#[]⟩) else card3 o.card)
def reqOk (q:Req):Bool :=
 if q.kind = 1 then decide (q = { kind := 1, tenant := bs "ann" })
 else if q.kind=2 then decide (q={ kind:=2,col:=home })
 else if q.kind=3 then decide (q={ kind:=3,col:=home })
 else if q.kind=4 then decide (q={ kind:=4,col:=home,uid:=q.uid,card:=q.card,ck:=q.ck,cv:=q.cv })&&opOk ⟨false,q.uid,q.card,q.ck,q.cv⟩
 else if q.kind=5 then decide (q={ kind:=5,col:=home,uid:=q.uid,ck:=q.ck,cv:=q.cv })&&opOk ⟨true,q.uid,⟨#[]⟩,q.ck,q.cv⟩
 else if q.kind=6 then decide (q={ kind:=6,col:=home,uid:=q.uid })&&lowS q.uid
 else if q.kind=7 then decide (q={ kind:=7,col:=home,ops:=q.ops })&&decide (1≤q.ops.length∧q.ops.length≤8)&&q.ops.all opOk
 else if q.kind=8 then decide (q={ kind:=8,col:=home,token:=q.token,most:=q.most })&&decide (0≤q.token∧q.token≤247∧1≤q.most∧q.most≤247)
 else if q.kind=9 then decide (q={ kind:=9,col:=home,token:=q.token,ticks:=q.ticks })&&decide (0≤q.token∧q.token≤247∧0≤q.ticks∧q.ticks≤247)
 else decide (q={ kind:=10 })
def itemOk (i:Item):Bool:=decide (1≤i.uid.size∧i.uid.size≤16∧0≤i.version∧i.version≤247∧i.card.size≤16)
def respOk (a:Resp):Bool:=decide (0≤a.kind∧a.kind≤11∧0≤a.err∧a.err≤15∧0≤a.token∧a.token≤247∧0≤a.version∧a.version≤247∧a.card.size≤16∧0≤a.index∧a.index≤247∧a.items.length≤8)&&a.items.all itemOk
def mayApply (c:Col)(o:Op)(t:Int):Bool :=
 decide (c.latest≤t∧(c.log.length:Int)<c.logMost∧c.log.length≤90∧c.cards.length<1000∧0≤c.bytes∧c.bytes≤1000000000∧o.card.size≤100000) &&
 (if o.del then (match getC c.cards o.uid with|some e=>decide ((e.text.size:Int)≤c.bytes)|none=>false)
  else (getC c.cards o.uid).isNone&&c.cards.all (fun x=>lt x.uid o.uid)&&decide ((c.cards.length:Int)<c.most))
def mayWrite (c:Col)(cnt:Int)(b:Int × Int)(ops:List Op)(apply:Bool):Bool :=
 let r:=c.check ops (65536 - b.2)
 decide (0≤b.2∧b.2≤65536∧ops.length≤20∧c.cards.length≤1000)&&ops.all (fun o=>condOk o.ck o.cv&&decide (o.card.size≤100000))&&c.cards.all (fun y=>decide (y.text.size≤100000)) &&
 (decide (r.2.2≠0)||(decide (0≤b.2+r.2.1∧r.2.1≤65536 - b.2)&&(!apply||(List.range ops.length).all fun j=>match ops[j]? with|some o=>mayApply ((ops.take j).foldl (fun c o=>c.apply o (cnt+1)) c) o (cnt+1)|none=>true)))
def chain:List Item→Bool
 | []=>true
 | [_]=>true
 | a::b::l=>before a b&&chain (b::l)
def mayWork (c:Col)(found:Bool)(cnt:Int)(bud:Option (Int × Int))(q:Req):Bool :=
 if q.kind=3 then (match bud with|some b=>found&&decide (0≤b.1∧b.1≤8∧0≤b.2∧b.2≤1048576∧0≤c.bytes)|none=>false)
 else if q.kind=4 then (match bud with|some b=>mayWrite c cnt b [⟨false,q.uid,q.card,q.ck,q.cv⟩] true|none=>false)
 else if q.kind=5 then (match bud with|some b=>mayWrite c cnt b [⟨true,q.uid,⟨#[]⟩,q.ck,q.cv⟩] true|none=>false)
 else if q.kind=7 then (match bud with|some b=>mayWrite c cnt b q.ops false|none=>false)
 else if q.kind=8 then decide (q.token=0∧c.cards.length≤8)&&(chain (items c)&&decide (sortI (items c)=items c))
 else decide (q.kind=6∨q.kind=9)
def mayCore (x:Core):Bool:=decide (x.cols=2∧x.cards=6∧x.maxBytes=65536∧x.logMost=9∧0≤x.counter∧x.counter≤200∧0≤x.now∧x.now≤1000000∧x.hub.length≤90∧x.alarms.length≤90)
def mayCan (x:Core)(t:Task):Bool:=mayCore x&&(decide (t.stage≠3)||(x.place.isSome&&decide (t.id=0)))
def mayStep (x:Core)(t:Task)(who:Int):Bool :=
 reqOk t.q&&mayCore x&&decide (0≤t.deadline∧t.deadline≤1000000)&&(!t.pointed||respOk t.point)&&(!(t.step x who).2.pointed||respOk (t.step x who).2.point) &&
 (if t.stage=1 then (if t.q.kind=2 then !x.found&&x.place.isNone&&decide (0≤(x.budget.getD (0,0)).1∧(x.budget.getD (0,0)).1<2) else if t.q.kind=10 then x.place.isSome else true)
  else match x.place with
   | none=>false
   | some p=>decide (t.id=0∧p.lock.readers.length+p.lock.queue.length≤90) &&
    (if t.stage=2 then true
    else if t.stage=3 then !p.alive||mayWork p.col x.found x.counter x.budget t.q
    else if t.stage=4 then decide (0≤t.next∧t.next≤100)&&(match t.q.ops[t.next.toNat]? with|some o=>mayApply p.col o t.point.token|none=>false)
    else if t.stage=5 then decide (0≤t.next∧t.next≤100)
    else if t.stage=6 then decide (p.lock.state who=3∨p.lock.state who=2)
    else decide (t.stage=7)))
def mayConn (s:Srv)(k:Nat)(c:Conn):Bool :=
 decide (0≤c.seq∧c.seq≤100∧c.todo.length≤10∧c.out.length≤10)&&c.todo.all reqOk&&c.out.all respOk &&
  (if c.state=1 then (match c.todo with|[]=>true|q::_=>(q.kind==1) != c.bound)
  else if c.state=2 then reqOk c.turn&&mayCan s.core c.task&&(!c.task.can s.core k||mayStep s.core c.task k)
  else decide (c.state=3)&&reqOk c.turn&&respOk c.reply)
def mayPick (s:Srv)(k:Nat):Bool:=mayCore s.core&&(match s.conns[k]? with|none=>true|some c=>mayConn s k c)
def mayPicks:List Nat→Srv→Bool
 | [],_=>true
 | k::l,s=>mayPick s k&&mayPicks l (s.pick k)
def mayRounds (n:Nat):Nat→Srv→Bool
 | 0,_=>true
 | t+1,s=>mayPicks (List.range n) s&&mayRounds n t ((List.range n).foldl Srv.pick s)
def start0 (n:Nat):Srv:={ core:=core0,conns:=(List.replicate n { todo:=[hello] }) }
def goneOk (n:Nat):Bool:=(start n).conns.all fun c=>c.bound&&decide (0≤c.seq∧c.seq≤3∧c.out.length≤3)&&c.out.all respOk
theorem may_start (n:Nat)(h1:2≤n)(h2:n≤10):mayRounds n 12 ((start0 n).send 0 [rCreate,rPut])=true∧goneOk n=true:=by
 have:∀ m:Fin 11,2≤m.val→(mayRounds m.val 12 ((start0 m.val).send 0 [rCreate,rPut])&&goneOk m.val)=true:=by decide +kernel
 simpa using this ⟨n,by omega⟩ h1
end Go.Proofs.YtjmkkcckfbnmeaaGreatDoor.M
namespace Go.Proofs.YtjmkkcckfbnmeaaGreatDoor.M
def LN (l:Lk):Prop:=(l.readers++whos l.queue).Nodup
theorem mv_sub:∀ (q:List (Int × Bool)) (r:List Int) (w:Int) (b:Bool),((mv q r w b).readers++whos (mv q r w b).queue).Sublist (r++whos q)
 | [],r,w,b=>by simp[mv,whos]
 | a::q,r,w,b=>by
  rw[mv]
  split
  ·exact List.Sublist.refl _
  split
  ·exact List.Sublist.refl _
  split
  ·exact(mv_sub q r a.1 true).trans (by simp[whos])
  ·exact(mv_sub q (r++[a.1]) w false).trans (by simp[whos])
theorem ln_ask {l:Lk}(h:LN l)(k:Int)(b:Bool):LN (l.ask k b):=by
 unfold Lk.ask
 split
 ·rename_i hs
  refine List.Nodup.sublist (mv_sub _ _ _ _) ?_
  have hr:k∉l.readers++whos l.queue:=fun hm=>by
   unfold Lk.state at hs
   rw[any_whos] at hs
   rcases List.mem_append.1 hm with hm|hm
   ·split at hs
    ·cases hs
    ·simp[hm] at hs
   ·split at hs
    ·cases hs
    ·split at hs
     ·cases hs
     ·simp[hm] at hs
  have e:l.readers++whos (l.queue++[(k,b)])=(l.readers++whos l.queue)++[k]:=by simp[whos]
  show (l.readers++whos (l.queue++[(k,b)])).Nodup
  rw[e,List.nodup_append]
  exact⟨h,by simp,fun x hx y hy e'=>by simp at hy;subst hy;subst e';exact hr hx⟩
 ·exact h
theorem whos_filter (q:List (Int × Bool))(k:Int):(whos (q.filter fun a=>a.1 != k)).Sublist (whos q):=(List.filter_sublist).map _
theorem ln_leave {l:Lk}(h:LN l)(k:Int):LN (l.leave k):=by
 unfold Lk.leave
 split
 ·exact List.Nodup.sublist (mv_sub _ _ _ _) h
 split
 ·exact List.Nodup.sublist ((mv_sub _ _ _ _).trans (List.Sublist.append List.filter_sublist (List.Sublist.refl _))) h
 split
 ·exact List.Nodup.sublist ((mv_sub _ _ _ _).trans (List.Sublist.append (List.Sublist.refl _) (whos_filter _ _))) h
 ·exact h
structure CX (n:Nat)(x:Core):Prop where
 ln:∀ p,x.place=some p→LN p.lock
 hub:∀ y∈x.hub,0≤y.who∧y.who<n
theorem cx_write {n:Nat}{x:Core}(h:CX n x){p:Place}(hp:x.place=some p)(ops:List Op)(ap:Bool)(a:Resp):CX n (x.write p ops ap a).1:=by
 unfold Core.write
 simp only[]
 split
 ·exact h
 ·exact⟨fun q hq=>by simp at hq;subst hq;exact h.ln p hp,h.hub⟩
theorem cx_work {n:Nat}{x:Core}(h:CX n x)(q:Req):CX n (x.work q).1:=by
 unfold Core.work
 split
 ·exact h
 rename_i p hp
 split
 ·exact h
 split
 ·exact⟨fun q hq=>by simp at hq;subst hq;exact h.ln p hp,h.hub⟩
 split
 ·exact cx_write h hp _ _ _
 split
 ·exact cx_write h hp _ _ _
 split
 ·exact cx_write h hp _ _ _
 split
 ·split<;>exact h
 split
 ·exact h
 split
 ·split<;>exact h
 ·exact h
theorem cx_lock {n:Nat}{x:Core}(h:CX n x)(id who:Int)(b:Bool):CX n (x.lock id who b):=by
 unfold Core.lock
 split
 ·rename_i p hp
  split
  ·exact⟨fun q hq=>by simp at hq;subst hq;exact ln_ask (h.ln p hp) _ _,h.hub⟩
  ·exact h
 ·exact h
theorem cx_unlock {n:Nat}{x:Core}(h:CX n x)(id who:Int)(b:Bool):CX n (x.unlock id who b):=by
 have h1:CX n (match x.place with|some p=>if id==0 then { x with place:=some { p with lock:=p.lock.leave who } } else x|none=>x):=by
  split
  ·rename_i p hp
   split
   ·exact⟨fun q hq=>by simp at hq;subst hq;exact ln_leave (h.ln p hp) _,h.hub⟩
   ·exact h
  ·exact h
 unfold Core.unlock
 simp only[]
 split
 ·refine⟨h1.ln,fun y hy=>?_⟩
  simp only[wakeL,List.mem_map] at hy
  obtain⟨z,hz,rfl⟩:=hy
  have:=h1.hub z hz
  split<;>exact this
 ·exact h1
theorem cx_apply {n:Nat}{x:Core}(h:CX n x)(id:Int)(o:Op)(t:Int):CX n (x.applyOp id o t):=by
 unfold Core.applyOp
 split
 ·rename_i p hp
  split
  ·exact⟨fun q hq=>by simp at hq;subst hq;exact h.ln p hp,h.hub⟩
  ·exact h
 ·exact h
theorem cx_sleep {n:Nat}{x:Core}(h:CX n x){k:Nat}(hk:k<n)(id a:Int):CX n (x.sleep k id a):=by
 unfold Core.sleep
 split
 ·exact h
 ·refine⟨h.ln,fun y hy=>?_⟩
  simp only[addL] at hy
  split at hy
  ·exact h.hub y hy
  ·rcases List.mem_append.1 hy with hy|hy
   ·exact h.hub y hy
   ·simp at hy
    subst hy
    exact⟨by simp,by simpa using hk⟩
theorem cx_rise {n:Nat}{x:Core}(h:CX n x)(k:Int):CX n (x.rise k) :=
 ⟨h.ln,fun y hy=>h.hub y (List.mem_of_mem_eraseP hy)⟩
theorem cx_create {n:Nat}{x:Core}(h:CX n x):CX n x.create.1:=by
 unfold Core.create
 split
 ·exact h
 ·simp only[]
  split
  ·exact⟨h.ln,h.hub⟩
  ·exact⟨fun q hq=>by simp at hq;subst hq;simp[LN,whos],h.hub⟩
theorem cx_step {n:Nat}{x:Core}(h:CX n x)(t:Task){k:Nat}(hk:k<n):CX n (t.step x k).1:=by
 unfold Task.step
 split
 ·split
  ·exact cx_create h
  split
  ·exact h
  split<;>exact h
 split
 ·exact cx_lock h _ _ _
 split
 ·split
  ·exact cx_unlock (x:=x) h t.id k false
  ·simp only[]
   split
   ·split
    ·exact cx_work h _
    ·exact cx_sleep (cx_work h _) hk _ _
   split
   ·exact cx_work h _
   split<;>exact cx_work h _
 split
 ·simp only[]
  split
  ·exact cx_apply h _ _ _
  ·exact h
 split
 ·exact h
 split
 ·exact cx_unlock h _ _ _
 split
 ·exact cx_rise h _
 ·exact h
structure KX (c:Conn):Prop where
 bound:c.bound=true
 todo:∀ q∈c.todo,reqOk q=true∧q.kind≠1
 out:∀ a∈c.out,respOk a=true
 rep:c.state=3→respOk c.reply=true
 turn:c.state=2∨c.state=3→reqOk c.turn=true
 pt:c.state=2→c.task.pointed=true→respOk c.task.point=true
 s0:0≤c.seq
 s1:c.seq+c.todo.length≤8
 s2:(c.out.length:Int)+(if c.state=1 then 0 else 1)≤c.seq
structure SX (n:Nat)(s:Srv):Prop where
 cx:CX n s.core
 kx:∀ (k:Nat) c,s.conns[k]? = some c→KX c
theorem kx_set {l:List Conn}(h:∀ (k:Nat) c,l[k]? = some c→KX c)(k:Nat){c':Conn}(hc:KX c'):∀ (i:Nat) c,(l.set k c')[i]? = some c→KX c:=by
 intro i c hi
 by_cases e:k=i
 ·subst e
  rw[List.getElem?_set] at hi
  simp only[if_true] at hi
  split at hi
  ·cases hi;exact hc
  ·cases hi
 ·rw[List.getElem?_set_ne e] at hi
  exact h i c hi
theorem step_pointed (t:Task)(x:Core)(who:Int)(hq:(t.step x who).2.stage=8)(h0:t.stage≠8):(t.step x who).2.pointed=true:=by
 revert hq
 unfold Task.step
 split
 ·split
  ·exact fun _=>rfl
  split
  ·exact fun _=>rfl
  split
  ·exact fun _=>rfl
  ·intro h;simp at h
 split
 ·intro h;simp at h
 split
 ·split
  ·intro h;simp at h
  ·simp only[]
   split
   ·split
    ·exact fun _=>rfl
    ·intro h;simp at h
   split
   ·exact fun _=>rfl
   split<;>exact fun _=>rfl
 split
 ·simp only[]
  intro h;split at h<;>simp at h
 split
 ·intro h;simp only at h;split at h<;>simp at h
 split
 ·intro h
  simp only at h ⊢
  split at h
  ·assumption
  ·simp at h
 split
 ·intro h;simp at h
 ·intro h;exact absurd h h0
theorem or_of {a b:Bool}(h:(!a||b)=true)(ha:a=true):b=true:=by subst ha;simpa using h
theorem sx_pick {n:Nat}{s:Srv}(h:SX n s){k:Nat}(hk:k<n)(hm:mayPick s k=true):SX n (s.pick k):=by
 unfold mayPick at hm
 unfold Srv.pick
 cases hc:s.conns[k]? with
 | none=>exact h
 | some c =>
  rw[hc] at hm
  simp only[Bool.and_eq_true] at hm
  obtain⟨_,hm⟩:=hm
  have hx:=h.kx k c hc
  simp only[]
  by_cases hcan:s.can k=true
  ·simp only[hcan,Bool.not_true,Bool.false_eq_true,if_false]
   split
   ·rename_i h1
    cases ht:c.todo with
    | nil=>exact h
    | cons q r =>
     simp only[]
     have hq:=hx.todo q (by simp[ht])
     rw[if_neg hq.2]
     have h1':=hx.s1
     have h2':=hx.s2
     rw[ht] at h1'
     rw[if_pos h1] at h2'
     simp only[List.length_cons] at h1'
     exact⟨h.cx,kx_set h.kx k ⟨hx.bound,fun a ha=>hx.todo a (by simp[ht,ha]),hx.out,by simp,fun _=>hq.1,fun _ h=>by simp[Task.start] at h,by have:=hx.s0;simp;omega,by simp;omega,by simp;omega⟩⟩
   split
   ·rename_i h1 h2
    have hs2:=hx.s2
    rw[if_neg h1] at hs2
    have hcx:=cx_step h.cx c.task hk
    have hct:c.task.can s.core k=true:=by
     unfold Srv.can at hcan
     rw[hc] at hcan
     simpa[h1,h2] using hcan
    unfold mayConn at hm
    rw[if_neg h1,if_pos h2,hct] at hm
    simp only[Bool.and_eq_true,Bool.not_true,Bool.false_or] at hm
    obtain⟨⟨_,_⟩,⟨_,_⟩,hst⟩:=hm
    unfold mayStep at hst
    simp only[Bool.and_eq_true] at hst
    obtain⟨⟨⟨⟨⟨_,_⟩,_⟩,_⟩,hr⟩,_⟩:=hst
    have h8:c.task.stage≠8:=fun e=>by
     unfold Task.can at hct
     simp[e] at hct
    split
    ·rename_i h8'
     have hp:=step_pointed c.task s.core k h8' h8
     exact⟨hcx,kx_set h.kx k ⟨hx.bound,hx.todo,hx.out,fun _=>or_of hr hp,fun _=>hx.turn (.inl h2),fun h=>by simp at h,hx.s0,hx.s1,by simpa using hs2⟩⟩
    ·exact⟨hcx,kx_set h.kx k ⟨hx.bound,hx.todo,hx.out,hx.rep,hx.turn,fun _ hp=>or_of hr hp,hx.s0,hx.s1,by simpa[h1] using hs2⟩⟩
   ·rename_i h1 h2
    have h3:c.state=3:=by
     unfold Srv.can at hcan
     rw[hc] at hcan
     simpa[h1,h2] using hcan
    have hs2:=hx.s2
    rw[if_neg h1] at hs2
    refine⟨h.cx,kx_set h.kx k ⟨hx.bound,hx.todo,?_,by simp,by simp,by simp,hx.s0,hx.s1,by simp;omega⟩⟩
    intro a ha
    rcases List.mem_append.1 ha with ha|ha
    ·exact hx.out a ha
    ·simp at ha
     subst ha
     exact hx.rep h3
  ·simp only[hcan,Bool.not_false,if_true]
   simpa using h
end Go.Proofs.YtjmkkcckfbnmeaaGreatDoor.M
namespace Go.Proofs.YtjmkkcckfbnmeaaGreatDoor.M
theorem nodup_len {l:List Int}{n:Nat}(hn:l.Nodup)(hr:∀ x∈l,0≤x∧x<n):l.length≤n:=by
 induction n generalizing l with
 | zero =>
  cases l with
  | nil=>simp
  | cons a l =>
   have:=hr a (by simp)
   omega
 | succ n ih =>
  have h1:(l.erase (n:Int)).length≤n:=ih (hn.erase _) (fun x hx=>by
   have:=hr x (List.mem_of_mem_erase hx)
   have hne:x≠(n:Int):=fun e=>by
    subst e
    exact(List.Nodup.not_mem_erase hn) hx
   omega)
  have h2:l.length≤(l.erase (n:Int)).length+1:=by
   rw[List.length_erase]
   split<;>omega
  omega
theorem step_pt (t:Task)(x:Core)(who:Int)(h1:t.stage≠1)(h3:t.stage≠3):(t.step x who).2.pointed=t.pointed∧(t.step x who).2.point=t.point:=by
 unfold Task.step
 rw[if_neg h1]
 split
 ·exact⟨rfl,rfl⟩
 split
 ·exact⟨rfl,rfl⟩
 split
 ·exact⟨rfl,rfl⟩
 split
 ·exact⟨rfl,rfl⟩
 split
 ·exact⟨rfl,rfl⟩
 ·exact⟨rfl,rfl⟩
theorem step_pt3 (t:Task)(x:Core)(who:Int)(h3:t.stage=3)(hu:t.pointed=false)(hp:(t.step x who).2.pointed=true):x.alive t.id=true∧(t.step x who).2.point=(x.work t.q).2:=by
 revert hp
 unfold Task.step
 rw[if_neg (by omega),if_neg (by omega),if_pos h3]
 split
 ·intro h;simp[hu] at h
 ·rename_i ha
  have ha':x.alive t.id=true:=by simpa using ha
  simp only[]
  split
  ·split
   ·exact fun _=>⟨ha',rfl⟩
   ·intro h;simp[hu] at h
  split
  ·exact fun _=>⟨ha',rfl⟩
  split<;>exact fun _=>⟨ha',rfl⟩
theorem step_pt1 (t:Task)(x:Core)(who:Int)(h1:t.stage=1)(hu:t.pointed=false)(h2:t.q.kind≠2)(hp:(t.step x who).2.pointed=true) :
  (t.step x who).2.point=x.list∨(t.step x who).2.point={ kind:=t.q.kind,err:=4 }:=by
 revert hp
 unfold Task.step
 rw[if_pos h1,if_neg h2]
 split
 ·exact fun _=>.inl rfl
 split
 ·exact fun _=>.inr rfl
 ·intro h;simp[hu] at h
def dOk (d:Data):Bool:=decide (0≤d.counter∧d.counter≤200∧d.col.cards.length≤8)&&(chain (items d.col)&&decide (sortI (items d.col)=items d.col))&&respOk (coreOf d {} [] 0 0).list &&
 (!d.alive || (respOk (d.work { kind := 9, col := home }).2 && respOk (d.work { kind := 6, col := home, uid := bs "a" }).2 && respOk (d.work { kind := 8, col := home, most := 3 }).2))
theorem dcur_cases {P:Par}(hP:P.Ok){p0:Ph}(hw:∀ i,p0 = .write i→P.write=1∧i<3):dcur P p0=d0∨(∃ w,w<4∧dcur P p0=dEnd w)∨∃ i,i<3∧dcur P p0=dApp 1 i:=by
 by_cases hi:∃ i,p0 = .write i
 ·obtain⟨i,rfl⟩:=hi
  obtain⟨h1,h2⟩:=hw i rfl
  exact .inr (.inr ⟨i,h2,by simp[dcur,h1]⟩)
 ·rcases calm_of hP (p0:=p0) (fun i e=>hi ⟨i,e⟩) with h|h
  ·exact .inl h
  ·exact .inr (.inl h)
theorem d_ok {P:Par}(hP:P.Ok){p0:Ph}(hw:∀ i,p0 = .write i→P.write=1∧i<3):dOk (dcur P p0)=true:=by
 have h0:dOk d0=true:=by decide +kernel
 have h1:∀ w:Fin 4,dOk (dEnd w.val)=true:=by decide +kernel
 have h2:∀ w:Fin 3,dOk (dApp 1 w.val)=true:=by decide +kernel
 rcases dcur_cases hP hw with h|⟨w,hlt,h⟩|⟨i,hlt,h⟩
 ·rw[h];exact h0
 ·rw[h];exact h1 ⟨w,hlt⟩
 ·rw[h];exact h2 ⟨i,hlt⟩
theorem list_coreOf (d:Data)(l:Lk)(h:List Wt)(now dl:Int):(coreOf d l h now dl).list=(coreOf d {} [] 0 0).list:=by
 unfold Core.list coreOf
 cases d.found<;>rfl
theorem wr_ok:∀ w:Fin 4,(reqOk (wr w.val)&&mayWork d0.col d0.found d0.counter (some d0.budget) (wr w.val)&&respOk (d0.work (wr w.val)).2)=true:=by decide +kernel
theorem wr1_ok:∀ i:Fin 3,(match (wr 1).ops[i.val]? with|some o=>mayApply (dApp 1 i.val).col o (aW 1).token|none=>false)=true:=by decide +kernel
theorem q_ok {P:Par}(hP:P.Ok)(ht:P.ticks≤200)(k:Nat)(h4:k=0→P.write<4):reqOk (P.q k)=true∧(P.q k).kind≠1∧(P.q k).kind≠2∧0≤(P.q k).ticks∧(P.q k).ticks≤200:=by
 by_cases h0:k=0
 ·have h:=h4 h0
  have:=wr_ok ⟨P.write,h⟩
  simp only[Bool.and_eq_true] at this
  have hq:P.q k=wr P.write:=by unfold Par.q;rw[if_pos h0]
  have hk:=wr_kind P.write h
  rw[hq]
  refine⟨this.1.1,hk.1,hk.2.1,?_⟩
  have h':P.write=0∨P.write=1∨P.write=2∨P.write=3:=by omega
  rcases h' with h'|h'|h'|h'<;>rw[h']<;>decide
 ·have ht1:=hP.ht
  by_cases hw:P.isW k
  ·rw[q_waiter hw]
   refine⟨?_,by simp,by simp,by simp;omega,by simpa using ht⟩
   simp[reqOk]
   omega
  ·unfold Par.q ask
   have hk:P.waits<k:=by
    unfold Par.isW at hw
    omega
   rw[if_neg h0,if_pos hk]
   split<;>decide
theorem asks {P : Par} {k : Nat} (h0 : k ≠ 0) (hw : ¬ P.isW k) : P.q k = { kind := 8, col := home, most := 3 } ∨ P.q k = { kind := 6, col := home, uid := bs "a" } ∨ P.q k = { kind := 10 } ∨ P.q k = { kind := 9, col := home } := by
 unfold Par.q ask
 have hk:P.waits<k:=by
  unfold Par.isW at hw
  omega
 rw[if_neg h0,if_pos hk]
 split
 ·exact .inl rfl
 ·exact .inr (.inl rfl)
 ·exact .inr (.inr (.inl rfl))
 ·exact .inr (.inr (.inr rfl))
theorem may_pick {P:Par}(hP:P.Ok)(ht:P.ticks≤200)(hn10:P.n≤10){now:Int}(n0:0≤now)(n1:now≤1000)(g:G P now)(hx:SX P.n g.s){k:Nat}(hk:k<P.n):mayPick g.s k=true:=by
 obtain⟨s,ph,rs,l,h,I⟩:=g
 obtain⟨c,hc,hat⟩:=I.conn k hk
 have o:=I.kok k hk
 have hw0:∀ i,ph 0 = .write i→P.write=1∧i<3:=fun i e=>((I.kok 0 (by omega)).w0 i e).2
 have hd:=d_ok hP hw0
 have hcore:=I.core
 obtain⟨hcx,hkx⟩:=hx
 simp only at hcx hkx hcore
 have hkx:=hkx k c hc
 rw[hcore] at hcx
 have hhub:h.length≤P.n:=by
  have:=nodup_len (l:=h.map (·.who)) (n:=P.n) I.hubn.nodup (fun x hx=>by
   obtain⟨y,hy,rfl⟩:=List.mem_map.1 hx
   exact hcx.hub y hy)
  simpa using this
 have hlk:l.readers.length+l.queue.length≤P.n:=by
  have hst:=state_eq l I.lok.wr
  have:=nodup_len (l:=l.readers++whos l.queue) (n:=P.n) (hcx.ln _ rfl) (fun x hx=>by
   have hne:l.state x≠0:=by
    rw[hst]
    rcases List.mem_append.1 hx with hx|hx
    ·split
     ·decide
     ·simp[hx]
    ·split
     ·decide
     ·split
      ·decide
      ·simp[hx]
   obtain⟨i,hi,rfl⟩:=I.rng x hne
   omega)
  simpa[whos] using this
 simp only[dOk,Bool.and_eq_true,decide_eq_true_eq] at hd
 obtain⟨⟨⟨⟨hd0,hd1,hd2⟩,hdc,hds⟩,hdl⟩,hdw⟩:=hd
 have hmc:mayCore (coreOf (dcur P (ph 0)) l h now P.ticks)=true:=by
  refine decide_eq_true ⟨rfl,rfl,rfl,rfl,hd0,hd1,n0,by show now≤1000000;omega,by show h.length≤90;omega,by show (h.map fun x=>(x.who,P.ticks)).length≤90;rw[List.length_map];omega⟩
 unfold mayPick
 simp only[hc,hcore,hmc,Bool.true_and]
 unfold mayConn
 have hs0:=hkx.s0
 have hs1:=hkx.s1
 have hs2:=hkx.s2
 have e1:decide (0≤c.seq∧c.seq≤100∧c.todo.length≤10∧c.out.length≤10)=true:=by
  rw[decide_eq_true_eq]
  split at hs2<;>omega
 have e2:c.todo.all reqOk=true:=by
  rw[List.all_eq_true]
  exact fun q hq=>(hkx.todo q hq).1
 have e3:c.out.all respOk=true:=by
  rw[List.all_eq_true]
  exact hkx.out
 rw[e1,e2,e3]
 simp only[Bool.true_and]
 have hz:∀ st,c.state=st→st=1∨st=2∨st=3→True:=fun _ _ _=>trivial
 clear hz
 by_cases h1:c.state=1
 ·rw[if_pos h1]
  cases htd:c.todo with
  | nil=>rfl
  | cons q r =>
   have:=(hkx.todo q (by simp[htd])).2
   simp[hkx.bound,this]
 rw[if_neg h1]
 by_cases h3:c.state=3
 ·rw[if_neg (by omega)]
  simp[h3,hkx.rep h3,hkx.turn (.inr h3)]
 have h2:c.state=2:=by
  revert hat
  cases ph k<;>intro hat<;>first|exact hat.1|exact absurd hat.1 h1|exact absurd hat.1 h3
 rw[if_pos h2,hkx.turn (.inl h2),hcore]
 simp only[Bool.true_and]
 have h4:k=0→P.write<4:=fun e=>by
  rcases Nat.lt_or_ge P.write 4 with h'|h'
  ·exact h'
  ·have:=o.nw e (by have:=hP.hwr;omega)
   rw[this] at hat
   exact absurd hat.1 h1
 obtain⟨q1,q2,q3,q4,q5⟩:=q_ok hP ht k h4
 have hpl:(coreOf (dcur P (ph 0)) l h now P.ticks).place=some { col:=(dcur P (ph 0)).col,lock:=l,alive:=(dcur P (ph 0)).alive,drawn:=(dcur P (ph 0)).drawn }:=rfl
 have hkb:0≤(P.q k).kind∧(P.q k).kind≤11:=by
  have:=q1
  unfold reqOk at this
  repeat' (first|(split at this;· omega))
  have:=of_decide_eq_true this
  rw[this]
  simp
 have he4:respOk { kind:=(P.q k).kind,err:=4 }=true:=by
  have hz:(⟨#[]⟩:BS).size=0:=rfl
  simp[respOk,hz]
  omega
 have key:∀ t:Task,c.task=t→t.q=P.q k→t.deadline=(P.q k).ticks→(t.stage=3→t.id=0)→(t.stage≠1→t.id=0)→(t.stage=1∨t.stage=3→t.pointed=false) →
   (t.stage=3→l.state k=2∨l.state k=3→(dcur P (ph 0)).alive=true→mayWork (dcur P (ph 0)).col (dcur P (ph 0)).found (dcur P (ph 0)).counter (some (dcur P (ph 0)).budget) (P.q k)=true∧respOk ((dcur P (ph 0)).work (P.q k)).2=true) →
   (t.stage=4→(0≤t.next∧t.next≤100)∧∃ o,(P.q k).ops[t.next.toNat]? = some o∧mayApply (dcur P (ph 0)).col o t.point.token=true)→(t.stage=5→t.next=0)→(t.stage=6→l.state k=3∨l.state k=2) →
   (t.stage=1∨t.stage=2∨t.stage=3∨t.stage=4∨t.stage=5∨t.stage=6∨t.stage=7) →
   (mayCan (coreOf (dcur P (ph 0)) l h now P.ticks) c.task&&(!c.task.can (coreOf (dcur P (ph 0)) l h now P.ticks) k||mayStep (coreOf (dcur P (ph 0)) l h now P.ticks) c.task k))=true:=by
  intro t e k1 k2 k3 k4 k5 k6 k7 k8 k9 k10
  have hpt:=hkx.pt h2
  rw[e] at hpt ⊢
  rw[Bool.and_eq_true]
  refine⟨?_,?_⟩
  ·unfold mayCan
   rw[hmc,hpl]
   by_cases h:t.stage=3
   ·simp[h,k3 h]
   ·simp[h]
  rw[Bool.or_eq_true]
  refine(Bool.eq_false_or_eq_true (t.can (coreOf (dcur P (ph 0)) l h now P.ticks) k)).elim (fun hcan=>.inr ?_) (fun hcan=>.inl (by rw[hcan];rfl))
  have hst3:t.stage=3→l.state k=2∨l.state k=3:=fun h3'=>by
   unfold Task.can at hcan
   rw[if_pos h3',k3 h3',held_coreOf] at hcan
   exact of_decide_eq_true hcan
  unfold mayStep
  rw[k1,q1,hmc,hpl]
  have e4:decide (0≤t.deadline∧t.deadline≤1000000)=true:=by
   rw[decide_eq_true_eq,k2]
   omega
  rw[e4]
  have e5:(!t.pointed||respOk t.point)=true:=by
   cases hp:t.pointed
   ·rfl
   ·simp[hpt hp]
  rw[e5]
  have e6:(!(t.step (coreOf (dcur P (ph 0)) l h now P.ticks) k).2.pointed||respOk (t.step (coreOf (dcur P (ph 0)) l h now P.ticks) k).2.point)=true:=by
   cases hp:(t.step (coreOf (dcur P (ph 0)) l h now P.ticks) k).2.pointed
   ·rfl
   ·simp only[Bool.not_true,Bool.false_or]
    by_cases s1:t.stage=1
    ·rcases step_pt1 t _ k s1 (k5 (.inl s1)) (by rw[k1];exact q3) hp with h|h
     ·rw[h,list_coreOf];exact hdl
     ·rw[h,k1];exact he4
    ·by_cases s3:t.stage=3
     ·obtain⟨ha,hpo⟩:=step_pt3 t _ k s3 (k5 (.inr s3)) hp
      rw[k3 s3,alive_coreOf] at ha
      rw[hpo,k1,work_coreOf]
      exact(k6 s3 (hst3 s3) ha).2
     ·obtain⟨a,b⟩:=step_pt t (coreOf (dcur P (ph 0)) l h now P.ticks) k s1 s3
      rw[a] at hp
      rw[b]
      exact hpt hp
  rw[e6]
  simp only[Bool.true_and]
  by_cases s1:t.stage=1
  ·rw[if_pos s1,if_neg q3]
   split<;>rfl
  rw[if_neg s1]
  have e7:decide (t.id=0∧l.readers.length+l.queue.length≤90)=true:=by
   rw[decide_eq_true_eq]
   exact⟨k4 s1,by omega⟩
  rw[e7,Bool.true_and]
  rcases k10 with k|k|k|k|k|k|k
  ·exact absurd k s1
  ·simp[k]
  ·rw[if_neg (by omega),if_pos k]
   cases ha:(dcur P (ph 0)).alive
   ·rfl
   ·simp only[Bool.not_true,Bool.false_or]
    exact(k6 k (hst3 k) ha).1
  ·rw[if_neg (by omega),if_neg (by omega),if_pos k]
   obtain⟨a,o',b1,b2⟩:=k7 k
   rw[b1]
   simp[a,b2]
  ·rw[if_neg (by omega),if_neg (by omega),if_neg (by omega),if_pos k,k8 k]
   decide
  ·rw[if_neg (by omega),if_neg (by omega),if_neg (by omega),if_neg (by omega),if_pos k]
   exact decide_eq_true (k9 k)
  ·simp[k]
 have hpos:=I.pos k hk
 cases hph:ph k with
 | unread=>rw[hph] at hat;exact absurd hat.1 h1
 | done=>rw[hph] at hat;exact absurd hat.1 h1
 | ans=>rw[hph] at hat;exact absurd hat.1 h3
 | seek=>rw[hph] at hat;exact key _ hat.2.2 rfl rfl (by simp[taskU]) (by simp[taskU]) (by simp[taskU]) (by simp[taskU]) (by simp[taskU]) (by simp[taskU]) (by simp[taskU]) (by simp[taskU])
 | queue=>rw[hph] at hat;exact key _ hat.2.2 rfl rfl (by simp[taskU]) (by simp[taskU]) (by simp[taskU]) (by simp[taskU]) (by simp[taskU]) (by simp[taskU]) (by simp[taskU]) (by simp[taskU])
 | rest=>rw[hph] at hat;exact key _ hat.2.2 rfl rfl (by simp[taskU]) (by simp[taskU]) (by simp[taskU]) (by simp[taskU]) (by simp[taskU]) (by simp[taskU]) (by simp[taskU]) (by simp[taskU])
 | sleep =>
  rw[hph] at hat hpos
  refine key _ hat.2.2 rfl rfl (by simp[taskU]) (by simp[taskU]) (by simp[taskU]) (by simp[taskU]) (by simp[taskU]) (by simp[taskU]) (fun _=>?_) (by simp[taskU])
  simp only[posOk] at hpos
  split at hpos<;>simp[hpos]
 | read =>
  rw[hph] at hat hpos
  exact key _ hat.2.2 rfl rfl (by simp[taskP]) (by simp[taskP]) (by simp[taskP]) (by simp[taskP]) (by simp[taskP]) (by simp[taskP]) (by simp[taskP]) (by simp[taskP])
 | free =>
  rw[hph] at hat hpos
  obtain⟨_,_,nx,hat⟩:=hat
  refine key _ hat rfl rfl (by simp[taskP]) (by simp[taskP]) (by simp[taskP]) (by simp[taskP]) (by simp[taskP]) (by simp[taskP]) (fun _=>?_) (by simp[taskP])
  simp only[posOk] at hpos
  split at hpos<;>simp[hpos]
 | write i =>
  rw[hph] at hat hpos
  obtain⟨e0,e1',e2'⟩:=o.w0 i hph
  refine key _ hat.2.2 rfl rfl (by simp[taskP]) (by simp[taskP]) (by simp[taskP]) (by simp[taskP]) (fun _=>?_) (by simp[taskP]) (by simp[taskP]) (by simp[taskP])
  subst e0
  have ha:=o.aw rfl (.inl ⟨i,hph⟩)
  have:=wr1_ok ⟨i,e2'⟩
  have hq:P.q 0=wr 1:=by unfold Par.q;rw[if_pos rfl,e1']
  have hdc:dcur P (ph 0)=dApp 1 i:=by
   unfold dcur
   rw[if_neg (by omega),hph]
   simp only[e1']
  refine⟨by simp[taskP];omega,?_⟩
  have hnx:(taskP (P.q 0) 4 (rs 0) (i:Int)).next.toNat=i:=by simp[taskP]
  rw[hnx,hq,hdc]
  simp only at this
  split at this
  ·rename_i o' ho'
   refine⟨o',ho',?_⟩
   show mayApply (dApp 1 i).col o' (rs 0).token=true
   rw[ha,e1']
   exact this
  ·cases this
 | act =>
  rw[hph] at hat hpos
  refine key _ hat.2.2 rfl rfl (by simp[taskU]) (by simp[taskU]) (by simp[taskU]) (fun _ hst hal=>?_) (by simp[taskU]) (by simp[taskU]) (by simp[taskU]) (by simp[taskU])
  by_cases e0:k=0
  ·subst e0
   have hlt:=h4 rfl
   have hdc:dcur P (ph 0)=d0:=by
    unfold dcur
    rw[if_neg (by omega),hph]
   have:=wr_ok ⟨P.write,hlt⟩
   simp only[Bool.and_eq_true] at this
   have hq:P.q 0=wr P.write:=by unfold Par.q;rw[if_pos rfl]
   rw[hdc,hq]
   exact⟨this.1.2,this.2⟩
  ·have hs:l.state k=2:=by
    rcases hst with h|h
    ·exact h
    ·simp only[posOk,if_neg e0] at hpos
     omega
   obtain⟨hcalm,_,_⟩:=calm_holds hP I e0 hs
   rw[hal] at hdw
   simp only[Bool.not_true,Bool.false_or,Bool.and_eq_true] at hdw
   by_cases hW:P.isW k
   ·rw[q_waiter hW]
    refine⟨by simp[mayWork],?_⟩
    rw[calm_wait hcalm hal]
    simp only
    split<;>decide
   ·rcases asks e0 hW with h|h|h|h
    ·rw[h]
     exact⟨by simp[mayWork,hdc,hds];omega,hdw.2⟩
    ·rw[h]
     exact⟨by simp[mayWork],hdw.1.2⟩
    ·exact absurd (by rw[h]) (o.li (.inr hph))
    ·rw[h]
     exact⟨by simp[mayWork],hdw.1.1⟩
end Go.Proofs.YtjmkkcckfbnmeaaGreatDoor.M
namespace Go.Proofs.YtjmkkcckfbnmeaaGreatDoor.M
def put1 : Req := { kind := 4, col := home, uid := bs "a", card := ann, ck := 1 }
def batch1 : Req := { kind := 7, col := home, ops := [⟨false, bs "b", bob, 0, 0⟩, ⟨true, bs "c", ⟨#[]⟩, 0, 0⟩] }
def wait1:Req:={ kind:=9,col:=home,token:=2,ticks:=9 }
def reqs1:List Req:=[hello,rCreate,put1,put1,batch1,wait1]
def f0:Srv:={ core:=core0,conns:=[{ todo:=reqs1 }] }
def Srv.take (s:Srv)(k:Nat):Srv:=match s.conns[k]? with|some c=>{ s with conns:=s.conns.set k { c with out:=[] } }|none=>s
def Srv.outs (s:Srv)(k:Nat):List Resp:=match s.conns[k]? with|some c=>c.out|none=>[]
def runF:Nat→Srv→List Resp→Srv × List Resp
 | 0,s,o=>(s,o)
 | t+1,s,o=>runF t ((s.pick 0).take 0) (o++(s.pick 0).outs 0)
def pend:List Ev→List Ev
 | []=>[]
 | e::l=>if e.kind=1∧¬ (l.any fun x=>x.kind==3&&x.conn==e.conn&&x.seq==e.seq)=true then e::pend l else pend l
def resps1:List Resp:=[{ kind:=1 },{ kind:=2,token:=1 },{ kind:=4,token:=2,version:=2 },{ kind:=4,err:=6 },{ kind:=7,err:=4,index:=1 }]
theorem run_first:(runF 80 f0 []).2=resps1∧(pend (runF 80 f0 []).1.events).length=1∧(runF 80 f0 []).1.conns.length=1:=by decide +kernel
theorem reqs1_ok:reqs1.all reqOk=true∧resps1.all respOk=true:=by decide +kernel
end Go.Proofs.YtjmkkcckfbnmeaaGreatDoor.M
namespace Go.Proofs.YtjmkkcckfbnmeaaGreatDoor.M
def Reach (P:Par)(now:Int)(s:Srv):Prop:=∃ g:G P now,g.s=s∧SX P.n s
def ReachR (P:Par)(now:Int)(s:Srv):Prop:=∃ g:G P now,g.s=s∧SX P.n s∧∀ k,k<P.n→g.ph k≠.unread
theorem ReachR.reach {P:Par}{now:Int}{s:Srv}(h:ReachR P now s):Reach P now s:=by
 obtain⟨g,h1,h2,_⟩:=h
 exact⟨g,h1,h2⟩
section
variable {P:Par} {now:Int} {s:Srv}
theorem reach_len (h:Reach P now s):s.conns.length=P.n:=by
 obtain⟨g,rfl,_⟩:=h
 exact g.I.len
theorem reach_pick (hP:P.Ok)(ht:P.ticks≤200)(hn10:P.n≤10)(n0:0≤now)(n1:now≤1000)(h:Reach P now s){k:Nat}(hk:k<P.n):mayPick s k=true∧Reach P now (s.pick k):=by
 obtain⟨g,rfl,hx⟩:=h
 have hm:=may_pick hP ht hn10 n0 n1 g hx hk
 obtain⟨g',hg',_⟩:=pk hP g hk
 exact⟨hm,g',hg',sx_pick hx hk hm⟩
theorem reach_picks (hP:P.Ok)(ht:P.ticks≤200)(hn10:P.n≤10)(n0:0≤now)(n1:now≤1000):∀ (L:List Nat),(∀ k∈L,k<P.n)→∀ {s:Srv},Reach P now s→mayPicks L s=true∧Reach P now (L.foldl Srv.pick s)
 | [],_,_,h=>⟨rfl,h⟩
 | k::L,hL,s,h=>by
  obtain⟨h1,h2⟩:=reach_pick hP ht hn10 n0 n1 h (hL k (by simp))
  obtain⟨h3,h4⟩:=reach_picks hP ht hn10 n0 n1 L (fun i hi=>hL i (by simp[hi])) h2
  exact⟨by simp[mayPicks,h1,h3],h4⟩
theorem reach_rounds (hP:P.Ok)(ht:P.ticks≤200)(hn10:P.n≤10)(n0:0≤now)(n1:now≤1000):∀ (t:Nat) {s:Srv},Reach P now s→mayRounds P.n t s=true∧Reach P now (rounds s P.n t)
 | 0,_,h=>⟨rfl,h⟩
 | t+1,s,h=>by
  obtain⟨h1,h2⟩:=reach_picks hP ht hn10 n0 n1 (List.range P.n) (by simp) h
  obtain⟨h3,h4⟩:=reach_rounds hP ht hn10 n0 n1 t h2
  exact⟨by simp[mayRounds,h1,h3],h4⟩
theorem reach_read (hP:P.Ok)(ht:P.ticks≤200)(hn10:P.n≤10)(n0:0≤now)(n1:now≤1000)(t:Nat)(h:Reach P now s):ReachR P now (rounds s P.n (t+1)):=by
 have h2:=(reach_rounds hP ht hn10 n0 n1 (t+1) h).2
 obtain⟨g,rfl,hx⟩:=h
 obtain⟨g',h3,_,h4⟩:=some_rounds hP (fun _=>True) (fun _ _ _ _ _ _=>trivial) (fun _=>True) (fun _ p=>unr p) read_lower (t+1) g trivial
 obtain⟨_,_,hx'⟩:=h2
 refine⟨g',h3,hx',fun k hk e=>?_⟩
 have:=h4 k hk trivial
 rw[e] at this
 have h5:unr (g.ph k)≤1:=by unfold unr;split<;>omega
 rw[show unr .unread=1 from rfl] at this
 omega
theorem sx_tick {n:Nat}(h:SX n s)(d:Int):SX n (s.tick d):=⟨⟨h.cx.ln,h.cx.hub⟩,h.kx⟩
theorem reach_tick (h4:P.write=4)(h:ReachR P now s)(d:Int):ReachR P (now+d) (s.tick d):=by
 obtain⟨g,rfl,hx,hu⟩:=h
 obtain⟨g',h1,h2⟩:=ticked h4 g hu d
 exact⟨g',h1,sx_tick hx d,by rw[h2];exact hu⟩
end
def goneOk2 (n:Nat):Bool:=(start n).conns.all (fun c=>decide ((c.out.length:Int)≤c.seq))&&decide ((start n).events.length≤100)
theorem gone2 (n:Nat)(h1:2≤n)(h2:n≤10):goneOk2 n=true:=by
 have:∀ m:Fin 11,2≤m.val→goneOk2 m.val=true:=by decide +kernel
 exact this ⟨n,by omega⟩ h1
theorem ask_ok (waits k:Nat){ticks:Int}(h1:1≤ticks)(h2:ticks≤200):reqOk (ask waits ticks k)=true∧(ask waits ticks k).kind≠1:=by
 unfold ask
 split
 ·split<;>decide
 ·refine⟨?_,by simp⟩
  simp[reqOk]
  omega
theorem wr_fine (write:Nat)(h:write<4):reqOk (wr write)=true∧(wr write).kind≠1:=by
 have:∀ m:Fin 4,reqOk (wr m.val)=true∧(wr m.val).kind≠1:=by decide +kernel
 exact this ⟨write,h⟩
def par (waits asks:Nat)(ticks:Int)(write:Nat):Par:=⟨1+waits+asks,waits,ticks,write,(start (1+waits+asks)).events⟩
def s2Of (waits asks:Nat)(ticks:Int)(write:Nat):Srv :=
 let s1:=asked (start (1+waits+asks)) waits ticks (1+waits+asks)
 if write<4 then s1.send 0 [wr write] else s1
theorem kx_send {c:Conn}(h:KX c){q:Req}(hq:reqOk q=true∧q.kind≠1)(h8:c.seq+c.todo.length+1≤8):KX { c with todo:=c.todo++[q] } :=
 have ht:∀ x∈c.todo++[q],reqOk x=true∧x.kind≠1:=fun x hx=>by
  rcases List.mem_append.1 hx with hx|hx
  ·exact h.todo x hx
  ·simp at hx
   subst hx
   exact hq
 ⟨h.bound,ht,h.out,h.rep,h.turn,h.pt,h.s0,(by simp;omega),h.s2⟩
theorem reach_begun {waits asks:Nat}{ticks:Int}{write:Nat}(hw:1≤waits)(hw5:waits≤5)(ha:asks≤4)(ht:1≤ticks)(ht2:ticks≤40)(hwr:write≤4) :
  (par waits asks ticks write).Ok∧Reach (par waits asks ticks write) 0 (s2Of waits asks ticks write):=by
 obtain⟨hP,_,g,hg,_⟩:=begun (asks:=asks) hw hw5 ha ht hwr
 refine⟨hP,g,hg,?_⟩
 generalize hn:1+waits+asks=n
 have hs:=start_ok n (by omega) (by omega)
 have hg1:=(may_start n (by omega) (by omega)).2
 have hg2:=gone2 n (by omega) (by omega)
 simp only[startOk,Bool.and_eq_true,decide_eq_true_eq,List.all_eq_true] at hs
 obtain⟨⟨hcore,hlen⟩,hall⟩:=hs
 simp only[goneOk,List.all_eq_true,Bool.and_eq_true,decide_eq_true_eq] at hg1
 simp only[goneOk2,List.all_eq_true,Bool.and_eq_true,decide_eq_true_eq] at hg2
 have hk0:∀ c,c∈(start n).conns→KX c∧c.seq+c.todo.length+1≤8:=fun c hc=>by
  have h1:=hall c hc
  simp only[fresh,Bool.and_eq_true,decide_eq_true_eq,List.isEmpty_iff] at h1
  obtain⟨⟨h2,h3,h4,h5⟩,h6⟩:=hg1 c hc
  have h7:=hg2.1 c hc
  refine⟨⟨h2,by simp[h1.2],h6,fun e=>(by omega),fun e=>(by omega),fun e=>(by omega),h3,(by simp[h1.2];omega),(by rw[if_pos h1.1];simpa using h7)⟩,(by simp[h1.2];omega)⟩
 obtain⟨b1,b2,b3,b4⟩:=sends waits ticks (start n) (n - 1)
 have e1:asked (start n) waits ticks n=(List.range (n - 1)).foldl (fun s i=>s.send (i+1) [ask waits ticks (i+1)]) (start n):=rfl
 rw[←e1] at b1 b2 b3 b4
 have hx1:∀ (k:Nat) c,(asked (start n) waits ticks n).conns[k]? = some c→KX c∧(k=0→c.seq+c.todo.length+1≤8):=fun k c hc=>by
  have hk:k<(start n).conns.length:=by rw[←b3];exact(List.getElem?_eq_some_iff.1 hc).1
  have h0:(start n).conns[k]? = some (start n).conns[k]:=List.getElem?_eq_getElem hk
  obtain⟨h1,h2⟩:=hk0 _ (List.getElem_mem hk)
  have h3:=b4 k _ h0
  rw[hc] at h3
  have h3:=Option.some.inj h3
  by_cases hk1:1≤k∧k≤n - 1
  ·rw[if_pos hk1] at h3
   rw[h3]
   exact⟨kx_send h1 (ask_ok waits k ht (by omega)) h2,fun e=>by omega⟩
  ·rw[if_neg hk1] at h3
   rw[h3]
   exact⟨h1,fun _=>h2⟩
 have hcx:CX n (asked (start n) waits ticks n).core:=by
  rw[b1,hcore]
  refine⟨fun p hp=>?_,by simp[coreOf]⟩
  simp[coreOf] at hp
  subst hp
  simp[LN,whos]
 show SX (1+waits+asks) (s2Of waits asks ticks write)
 unfold s2Of
 rw[hn]
 simp only[]
 by_cases h4:write<4
 ·rw[if_pos h4]
  unfold Srv.send
  cases hc:(asked (start n) waits ticks n).conns[0]? with
  | none=>exact⟨hcx,fun k c hc=>(hx1 k c hc).1⟩
  | some c0=>exact⟨hcx,kx_set (fun k c hc=>(hx1 k c hc).1) 0 (kx_send (hx1 0 c0 hc).1 (wr_fine write h4) ((hx1 0 c0 hc).2 rfl))⟩
 ·rw[if_neg h4]
  exact⟨hcx,fun k c hc=>(hx1 k c hc).1⟩
end Go.Proofs.YtjmkkcckfbnmeaaGreatDoor.M
