/- Texts PReader, PWriter, PLive, PEnd. -/
import Derived.Test.YtjmkkcckfbnmeaaGreatDoorM00
set_option maxRecDepth 100000
set_option maxHeartbeats 8000000
set_option linter.all false
namespace Go.Proofs.YtjmkkcckfbnmeaaGreatDoor.M
theorem hidden_reads {k:Nat}(h0:k≠0){p:Ph}{v:Int}(h:posOk k p v)(hp:p = .sleep∨p = .read∨p = .free):v=2:=by
 rcases hp with rfl|rfl|rfl<;>simpa[posOk,h0] using h
theorem calm_holds {P:Par}(hP:P.Ok){s:Srv}{ph:Nat→Ph}{rs:Nat→Resp}{now:Int}{l:Lk}{h:List Wt}(I:Inv P s ph rs now l h){k:Nat}(h0:k≠0)(hs:l.state k=2) :
  Calm (dcur P (ph 0))∧ph 0≠.free∧∀ i,ph 0≠.write i:=by
 have hn:0<P.n:=by have:=hP.hn;omega
 have h3:=reader_holds I.lok (k:=(k:Int)) (by omega) hs
 have hp0:=I.pos 0 hn
 have hw:∀ i,ph 0≠.write i:=fun i e=>by
  rw[e] at hp0
  exact h3 (by simpa[posOk] using hp0)
 refine⟨calm_of hP hw,fun e=>?_,hw⟩
 rw[e] at hp0
 exact h3 (by simpa[posOk] using hp0)
theorem others_left {P:Par}{s:Srv}{ph:Nat→Ph}{rs:Nat→Resp}{now:Int}{l:Lk}{h:List Wt}(I:Inv P s ph rs now l h){k:Nat}(h0:k≠0)(hs:l.state k=2) :
  LOK (l.leave k)∧(l.leave k).state k=0∧(∀ i:Nat,i<P.n→i≠k→posOk i (ph i) ((l.leave k).state i))∧∀ i:Int,(l.leave k).state i≠0→l.state i≠0∨i=k:=by
 obtain⟨h1,h2,h3,h4⟩:=leave_reader I.lok (k:=(k:Int)) (by omega) hs
 refine⟨h1,h2,?_,?_⟩
 ·intro i hi hne
  have hp:=I.pos i hi
  by_cases e0:i=0
  ·subst e0
   rcases h4 with h4|⟨h5,h6⟩
   ·have h4':(l.leave k).state ((0:Nat):Int)=l.state ((0:Nat):Int):=h4
    rw[h4']
    exact hp
   ·have h5':l.state ((0:Nat):Int)=1:=h5
    have h6':(l.leave k).state ((0:Nat):Int)=3:=h6
    rw[h5'] at hp
    rw[h6']
    cases hq:ph 0<;>rw[hq] at hp<;>simp[posOk] at hp ⊢
  ·rw[h3 i (by omega) (by omega)]
   exact hp
 ·intro i hi
  by_cases e:i=k
  ·exact .inr e
  ·left
   by_cases e0:i=0
   ·subst e0
    rcases h4 with h4|⟨h5,_⟩
    ·rw[h4] at hi
     exact hi
    ·rw[h5]
     decide
   ·rw[h3 i e e0] at hi
    exact hi
theorem reader_step {P:Par}(hP:P.Ok){s:Srv}{ph:Nat→Ph}{rs:Nat→Resp}{now:Int}{l:Lk}{h:List Wt}(I:Inv P s ph rs now l h){k:Nat}(hk:k<P.n)(h0:k≠0) :
  (s.can k=false∧Stuck P (ph 0) now l k (ph k))∨(s.can k=true∧∃ p' a' l' h',Inv P (s.pick k) (upd ph k p') (upd rs k a') now l' h'∧Tr P (ph 0) now k (ph k) p'):=by
 obtain⟨c,hc,hat⟩:=I.conn k hk
 have hpos:=I.pos k hk
 have hhub:=I.hub k hk
 have hkok:=I.kok k hk
 have hcore:=I.core
 have hu0:∀ p',upd ph k p' 0=ph 0:=fun p'=>upd_ne _ _ (fun e=>h0 e.symm)
 have hpo:∀ i:Nat,i<P.n→i≠k→posOk i (ph i) (l.state i):=fun i hi _=>I.pos i hi
 have hho:∀ p',∀ i:Nat,i<P.n→i≠k→hubOk P (upd ph k p' 0) i (ph i) h:=fun p' i hi _=>by rw[hu0];exact I.hub i hi
 have hko:∀ p',∀ i:Nat,i<P.n→i≠k→ph i = .sleep→freed P (upd ph k p' 0)=false:=fun p' i hi _ hp=>by rw[hu0];exact(I.kok i hi).sf hp
 have hrng:∀ i:Int,l.state i≠0→l.state i≠0∨i=k:=fun i hi=>.inl hi
 obtain⟨k1,k2,k7,kw⟩:=q_kind (P:=P) h0
 have hnw:∀ i,ph k≠.write i:=fun i e=>h0 (hkok.w0 i e).1
 have hfa:=found_alive hP (p0:=ph 0) (fun i e=>(I.kok 0 (by omega)).w0 i e |>.2)
 cases hp:ph k with
 | unread =>
  rw[hp] at hat hpos hhub hkok
  obtain⟨a1,a2⟩:=hat
  obtain⟨g1,g2⟩:=pick_read hc a1 a2 k1
  have hn:=hkok.un rfl
  refine .inr ⟨g1,.seek,rs k,l,h,?_,.read⟩
  refine I.upd hk (c':={ c with todo:=[],seq:=c.seq+1,turn:=P.q k,task:=Task.start s.core (P.q k),state:=2 }) (E':=[⟨1,k,c.seq+1,{ kind:=0 }⟩]) ?_ ?_ I.lok ?_ hpo hrng I.hubn ?_ (hho _) ?_ (hko _) ?_ ?_ (by rw[hp];decide)
  ·rw[g2,hu0,hcore]
  ·exact⟨rfl,rfl,by rw[hcore];exact start_taskU _ _ _ _ _ _ hn⟩
  ·exact hpos
  ·exact hhub
  ·exact kok_reader h0 (by simp) (by simp) (by simp) (by simp) (by simp) (by simp) (by simp) (by simp)
  ·intro e he h3
   simp at he
   subst he
   cases h3
  ·intro h;cases h
 | seek =>
  rw[hp] at hat hpos hhub hkok
  obtain⟨a1,a2,a3⟩:=hat
  have hcan:c.task.can s.core k=true:=by rw[a3,hcore];exact can_plain _ _ _ _ _ _ _ _ (by decide) (by decide) (by decide)
  by_cases h10:(P.q k).kind=10
  ·have hst:c.task.step s.core k=(s.core,(taskU (P.q k) 1).settle s.core.list 8):=by rw[a3,hcore];exact step_list _ _ _ _ _ _ _ h10
   obtain⟨g1,g2⟩:=pick_over hc a1 hcan hst rfl
   have hnW:¬ P.isW k:=fun hw=>by rw[q_waiter hw] at h10;cases h10
   refine .inr ⟨g1,.ans,s.core.list,l,h,?_,.list h0 hnW⟩
   refine I.upd hk (E':=_) (by rw[g2,hu0,hcore]) ?_ I.lok ?_ hpo hrng I.hubn ?_ (hho _) ?_ (hko _) ?_ ?_ (by rw[hp];decide)
   ·exact⟨rfl,a2,by rw[hcore];rfl⟩
   ·exact hpos
   ·exact hhub
   ·exact kok_reader h0 (by simp) (by simp) (by simp) (fun hw=>absurd hw hnW) (by simp) (by simp) (by simp) (by simp)
   ·intro e he h3
    simp[Task.settle,a3,taskU] at he
    subst he
    cases h3
   ·intro h;cases h
  ·cases hf:(dcur P (ph 0)).found
   ·have hst:c.task.step s.core k=(s.core,{ (taskU (P.q k) 1).settle { kind:=(P.q k).kind,err:=4 } 8 with id:=-1 }):=by rw[a3,hcore];exact step_none _ _ _ _ _ _ _ k2 h10 hf
    obtain⟨g1,g2⟩:=pick_over hc a1 hcan hst rfl
    refine .inr ⟨g1,.ans,{ kind:=(P.q k).kind,err:=4 },l,h,?_,.none h0 hf⟩
    refine I.upd hk (E':=_) (by rw[g2,hu0,hcore]) ?_ I.lok ?_ hpo hrng I.hubn ?_ (hho _) ?_ (hko _) ?_ ?_ (by rw[hp];decide)
    ·exact⟨rfl,a2,rfl⟩
    ·exact hpos
    ·exact hhub
    ·refine kok_reader h0 (by simp) (by simp) (by simp) (fun hw _=>?_) (by simp) (by simp) (by simp) (by simp)
     rw[q_waiter hw]
     have h3:P.write=3:=by
      apply Classical.byContradiction
      intro h3
      have:(dcur P (ph 0)).found=true:=by
       unfold dcur
       split
       ·decide
       ·have hlt:P.write<4:=by have:=hP.hwr;omega
        have hE:=((dEnd_facts P.write hlt).2 h3).1
        split
        ·rename_i i hi
         obtain⟨_,e1,e2⟩:=(I.kok 0 (by omega)).w0 i hi
         rw[e1]
         exact(dApp_facts i e2).1
        all_goals first|exact hE|decide
      rw[this] at hf
      cases hf
     rw[h3]
     rfl
    ·intro e he h3
     simp[Task.settle,a3,taskU] at he
     subst he
     cases h3
    ·intro h;cases h
   ·have hst:c.task.step s.core k=(s.core,taskU (P.q k) 2):=by rw[a3,hcore];exact step_found _ _ _ _ _ _ _ k2 h10 hf
    obtain⟨g1,g2⟩:=pick_busy hc a1 hcan hst (by simp[taskU,taskP])
    refine .inr ⟨g1,.queue,rs k,l,h,?_,.found hf⟩
    refine I.upd hk (E':=_) (by rw[g2,hu0,hcore]) ?_ I.lok ?_ hpo hrng I.hubn ?_ (hho _) ?_ (hko _) ?_ ?_ (by rw[hp];decide)
    ·exact⟨a1,a2,rfl⟩
    ·exact hpos
    ·exact hhub
    ·exact kok_reader h0 (by simp) (by simp) (by simp) (by simp) (by simp) (by simp) (by simp) (fun _=>h10)
    ·intro e he h3
     simp[taskU] at he
    ·intro h;cases h
 | queue =>
  rw[hp] at hat hpos hhub hkok
  obtain⟨a1,a2,a3⟩:=hat
  have hcan:c.task.can s.core k=true:=by rw[a3,hcore];exact can_plain _ _ _ _ _ _ _ _ (by decide) (by decide) (by decide)
  have hst:c.task.step s.core k=(coreOf (dcur P (ph 0)) (l.ask k false) h now P.ticks,taskU (P.q k) 3):=by rw[a3,hcore,step_queue,kw]
  obtain⟨g1,g2⟩:=pick_busy hc a1 hcan hst (by simp[taskU,taskP])
  obtain⟨m1,m2,m3,_⟩:=ask_reader I.lok (k:=(k:Int)) (by omega) hpos
  refine .inr ⟨g1,.act,rs k,l.ask k false,h,?_,.ask⟩
  refine I.upd hk (E':=_) (by rw[g2,hu0]) ?_ m1 ?_ ?_ ?_ I.hubn ?_ (hho _) ?_ (hko _) ?_ ?_ (by rw[hp];decide)
  ·exact⟨a1,a2,rfl⟩
  ·simpa[posOk,h0] using m2
  ·intro i hi hne
   rw[m3 i (by omega)]
   exact I.pos i hi
  ·intro i hi
   by_cases e:i=k
   ·exact .inr e
   ·rw[m3 i e] at hi
    exact .inl hi
  ·exact hhub
  ·exact kok_reader h0 (by simp) (by simp) (by simp) (by simp) (by simp) (by simp) (by simp) (fun _=>hkok.li (.inl rfl))
  ·intro e he h3
   simp[taskU] at he
  ·intro h;cases h
 | act =>
  rw[hp] at hat hpos hhub hkok
  obtain⟨a1,a2,a3⟩:=hat
  simp only[posOk,h0,if_false] at hpos
  rcases hpos with hpos|hpos
  ·left
   refine⟨?_,.inr (.inl ⟨rfl,hpos⟩)⟩
   simp[Srv.can,hc,a1,a3,hcore,can_act,hpos]
  obtain⟨hcalm,hnf,hnw0⟩:=calm_holds hP I h0 hpos
  have hcan:c.task.can s.core k=true:=by rw[a3,hcore,can_act,hpos];decide
  cases hal:(dcur P (ph 0)).alive
  ·have hst:c.task.step s.core k=(coreOf (dcur P (ph 0)) (l.leave k) h now P.ticks,taskU (P.q k) 1):=by rw[a3,hcore];exact step_gone _ _ _ _ _ _ _ hal
   obtain⟨g1,g2⟩:=pick_busy hc a1 hcan hst (by simp[taskU,taskP])
   obtain⟨m1,m2,m3,m4⟩:=others_left I h0 hpos
   refine .inr ⟨g1,.seek,rs k,l.leave k,h,?_,.gone h0 hal hnf hnw0⟩
   refine I.upd hk (E':=_) (by rw[g2,hu0]) ?_ m1 ?_ m3 m4 I.hubn ?_ (hho _) ?_ (hko _) ?_ ?_ (by rw[hp];decide)
   ·exact⟨a1,a2,rfl⟩
   ·exact m2
   ·exact hhub
   ·exact kok_reader h0 (by simp) (by simp) (by simp) (by simp) (by simp) (by simp) (by simp) (by simp)
   ·intro e he h3
    simp[taskU] at he
   ·intro h;cases h
  ·by_cases hw:P.isW k
   ·have hq:=q_waiter hw
    have hwk:=calm_wait hcalm hal P.ticks
    rw[←hq] at hwk
    by_cases hlate:(dcur P (ph 0)).col.latest=2
    ·rw[if_pos hlate] at hwk
     by_cases hnow:now<P.ticks
     ·have hst:c.task.step s.core k=(coreOf (dcur P (ph 0)) l (h++[⟨k,0,false⟩]) now P.ticks,taskU (P.q k) 6):=by
       rw[a3,hcore,step_sleep _ _ _ _ _ _ _ hal (by rw[hq]) (by rw[hwk]) (by rw[hq];exact hnow) (by rw[hq]) hhub,hwk]
      obtain⟨g1,g2⟩:=pick_busy hc a1 hcan hst (by simp[taskU,taskP])
      obtain⟨n1,n2,n3⟩:=add_ok I.hubn (k:=(k:Int)) hhub
      have hfr:freed P (ph 0)=false:=by
       cases hb:freed P (ph 0)
       ·rfl
       ·exfalso
        simp only[freed,Bool.and_eq_true,decide_eq_true_eq,Bool.or_eq_true] at hb
        obtain⟨hlt,hb⟩:=hb
        have hd:dcur P (ph 0)=dEnd P.write:=by
         unfold dcur
         rw[if_neg (by omega)]
         rcases hb with hb|hb<;>rw[hb]
        rw[hd] at hlate hal
        have:=dEnd_facts P.write hlt
        by_cases h3:P.write=3
        ·rw[(this.1 h3).2] at hal
         cases hal
        ·rw[(this.2 h3).2.2] at hlate
         omega
      refine .inr ⟨g1,.sleep,rs k,l,h++[⟨k,0,false⟩],?_,.sleep hw hal hlate hnow⟩
      refine I.upd hk (E':=_) (by rw[g2,hu0]) ?_ I.lok ?_ hpo hrng n1 ?_ ?_ ?_ (hko _) ?_ ?_ (by rw[hp];decide)
      ·exact⟨a1,a2,rfl⟩
      ·simpa[posOk,h0] using hpos
      ·exact n2
      ·intro i hi hne
       have:=hho .sleep i hi hne
       revert this
       unfold hubOk
       rw[n3 i (by omega)]
       exact id
      ·refine kok_reader h0 (by simp) (fun _=>hw) (fun _=>by rw[hu0];exact hfr) (by simp) (by simp) (by simp) (by simp) (by simp)
      ·intro e he h3
       simp[taskU] at he
      ·intro h;cases h
     ·have hst:c.task.step s.core k=(coreOf (dcur P (ph 0)) l h now P.ticks,taskP (P.q k) 6 { kind:=9,err:=15 } 0):=by
       rw[a3,hcore,step_late _ _ _ _ _ _ _ hal (by rw[hq]) (by rw[hwk]) (by rw[hq];show now ≥ P.ticks;omega),hwk]
      obtain⟨g1,g2⟩:=pick_busy hc a1 hcan hst (by simp[taskU,taskP])
      refine .inr ⟨g1,.free,{ kind:=9,err:=15 },l,h,?_,.got h0 hal hnf hnw0 (fun _=>.inr (by omega))⟩
      refine I.upd hk (E':=_) (by rw[g2,hu0]) ?_ I.lok ?_ hpo hrng I.hubn ?_ (hho _) ?_ (hko _) ?_ ?_ (by rw[hp];decide)
      ·exact⟨a1,a2,0,rfl⟩
      ·simpa[posOk,h0] using hpos
      ·exact hhub
      ·refine kok_reader h0 (by simp) (by simp) (by simp) (fun _ _=>?_) (by simp) (by simp) (by simp) (by simp)
       have h4:P.write=4:=by
        have h1:=hP.hwr
        have h2:=hP.ht
        rcases Nat.lt_or_ge P.write 4 with h|h
        ·have:=I.nowz h
         omega
        ·omega
       rw[h4]
       rfl
      ·intro e he h3
       simp[taskP,taskU,a3] at he
       subst he
       cases h3
      ·intro h;cases h
    ·rw[if_neg hlate] at hwk
     have hl3:(dcur P (ph 0)).col.latest=3:=by
      rcases calm_latest hcalm hal with h|h
      ·exact absurd h hlate
      ·exact h
     have hst:c.task.step s.core k=(coreOf (dcur P (ph 0)) l h now P.ticks,taskP (P.q k) 6 { kind:=9,token:=3 } 0):=by
      rw[a3,hcore,step_plain _ _ _ _ _ _ _ hal (by rw[hwk];simp) k7 (by rw[hwk]),hwk]
     obtain⟨g1,g2⟩:=pick_busy hc a1 hcan hst (by simp[taskU,taskP])
     refine .inr ⟨g1,.free,{ kind:=9,token:=3 },l,h,?_,.got h0 hal hnf hnw0 (fun _=>.inl hl3)⟩
     refine I.upd hk (E':=_) (by rw[g2,hu0]) ?_ I.lok ?_ hpo hrng I.hubn ?_ (hho _) ?_ (hko _) ?_ ?_ (by rw[hp];decide)
     ·exact⟨a1,a2,0,rfl⟩
     ·simpa[posOk,h0] using hpos
     ·exact hhub
     ·refine kok_reader h0 (by simp) (by simp) (by simp) (fun _ _=>?_) (by simp) (by simp) (by simp) (by simp)
      have hne4:P.write≠4:=fun e=>by
       unfold dcur at hl3
       rw[if_pos e,d0_facts.2.2] at hl3
       omega
      have hlt:P.write<4:=by have:=hP.hwr;omega
      have hne3:P.write≠3:=fun e=>by
       have hE:=(dEnd_facts P.write hlt).1 e
       unfold dcur at hal hl3
       rw[if_neg hne4] at hal hl3
       revert hal hl3
       split
       ·rename_i i hi
        exact absurd hi (hnw0 i)
       all_goals first|(rw[hE.2];intro h;cases h)|(intro h1 h2;rw[d0_facts.2.2] at h2;omega)
      unfold want
      rw[if_neg hne3,if_pos hlt]
     ·intro e he h3
      simp[taskP,taskU,a3] at he
      subst he
      cases h3
     ·intro h;cases h
   ·have h10:(P.q k).kind≠10:=hkok.li (.inr rfl)
    obtain⟨w1,w2,w3,w4⟩:=calm_ask hcalm hal h0 hw h10
    by_cases hit:((dcur P (ph 0)).work (P.q k)).2.items=[]
    ·have hst:c.task.step s.core k=(coreOf (dcur P (ph 0)) l h now P.ticks,taskP (P.q k) 6 ((dcur P (ph 0)).work (P.q k)).2 0):=by
      rw[a3,hcore,step_plain _ _ _ _ _ _ _ hal w2 k7 hit,w1]
     obtain⟨g1,g2⟩:=pick_busy hc a1 hcan hst (by simp[taskU,taskP])
     refine .inr ⟨g1,.free,((dcur P (ph 0)).work (P.q k)).2,l,h,?_,.got h0 hal hnf hnw0 (fun h=>absurd h hw)⟩
     refine I.upd hk (E':=_) (by rw[g2,hu0]) ?_ I.lok ?_ hpo hrng I.hubn ?_ (hho _) ?_ (hko _) ?_ ?_ (by rw[hp];decide)
     ·exact⟨a1,a2,0,rfl⟩
     ·simpa[posOk,h0] using hpos
     ·exact hhub
     ·exact kok_reader h0 (by simp) (by simp) (by simp) (fun h=>absurd h hw) (by simp) (by simp) (by simp) (by simp)
     ·intro e he h3
      simp[taskP,taskU,a3] at he
      subst he
      cases h3
     ·intro h;cases h
    ·have h8:(P.q k).kind=8:=Classical.byContradiction fun h=>hit (w4 h)
     have hst:c.task.step s.core k=(coreOf (dcur P (ph 0)) l h now P.ticks,taskP (P.q k) 5 ((dcur P (ph 0)).work (P.q k)).2 0):=by
      rw[a3,hcore,step_items _ _ _ _ _ _ _ hal w2 k7 (List.length_pos_iff.2 hit),w1]
     obtain⟨g1,g2⟩:=pick_busy hc a1 hcan hst (by simp[taskU,taskP])
     refine .inr ⟨g1,.read,((dcur P (ph 0)).work (P.q k)).2,l,h,?_,.items h0 hw h8⟩
     refine I.upd hk (E':=_) (by rw[g2,hu0]) ?_ I.lok ?_ hpo hrng I.hubn ?_ (hho _) ?_ (hko _) ?_ ?_ (by rw[hp];decide)
     ·exact⟨a1,a2,rfl⟩
     ·simpa[posOk,h0] using hpos
     ·exact hhub
     ·exact kok_reader h0 (by simp) (by simp) (by simp) (fun h=>absurd h hw) (fun h=>absurd h hw) (fun _=>w3) (by simp) (by simp)
     ·intro e he h3
      simp[taskP,taskU,a3] at he
      subst he
      cases h3
     ·intro h;cases h
 | sleep =>
  rw[hp] at hat hpos hhub hkok
  obtain⟨a1,a2,a3⟩:=hat
  have hs:=hidden_reads h0 hpos (.inl rfl)
  have hcan:c.task.can s.core k=true:=by rw[a3,hcore];exact can_plain _ _ _ _ _ _ _ _ (by decide) (by decide) (by decide)
  have hst:c.task.step s.core k=(coreOf (dcur P (ph 0)) (l.leave k) h now P.ticks,taskU (P.q k) 7):=by rw[a3,hcore];exact step_asleep _ _ _ _ _ _ _
  obtain⟨g1,g2⟩:=pick_busy hc a1 hcan hst (by simp[taskU,taskP])
  obtain⟨m1,m2,m3,m4⟩:=others_left I h0 hs
  refine .inr ⟨g1,.rest,rs k,l.leave k,h,?_,.rest⟩
  refine I.upd hk (E':=_) (by rw[g2,hu0]) ?_ m1 ?_ m3 m4 I.hubn ?_ (hho _) ?_ (hko _) ?_ ?_ (by rw[hp];decide)
  ·exact⟨a1,a2,rfl⟩
  ·exact m2
  ·show M.hst h k=_
   rw[hu0,hkok.sf rfl]
   exact hhub
  ·exact kok_reader h0 (by simp) (fun _=>hkok.sl (.inl rfl)) (by simp) (by simp) (by simp) (by simp) (by simp) (by simp)
  ·intro e he h3
   simp[taskU] at he
  ·intro h;cases h
 | rest =>
  rw[hp] at hat hpos hhub hkok
  obtain⟨a1,a2,a3⟩:=hat
  have hW:=hkok.sl (.inr rfl)
  have hcr:=can_rest (dcur P (ph 0)) l h now P.ticks (P.q k) k
  have hhub':hst h k=some (freed P (ph 0)):=hhub
  rw[hhub'] at hcr
  by_cases haw:freed P (ph 0)=true∨P.ticks≤now
  ·have hcan:c.task.can s.core k=true:=by
    rw[a3,hcore,hcr]
    rcases haw with h|h<;>simp[h]
   have hst:c.task.step s.core k=(coreOf (dcur P (ph 0)) l (remL h k) now P.ticks,taskU (P.q k) 1):=by rw[a3,hcore];exact step_rise _ _ _ _ _ _ _
   obtain⟨g1,g2⟩:=pick_busy hc a1 hcan hst (by simp[taskU,taskP])
   obtain⟨n1,n2⟩:=hst_rem h I.hubn k
   refine .inr ⟨g1,.seek,rs k,l,remL h k,?_,.rise hW haw⟩
   refine I.upd hk (E':=_) (by rw[g2,hu0]) ?_ I.lok ?_ hpo hrng n1 ?_ ?_ ?_ (hko _) ?_ ?_ (by rw[hp];decide)
   ·exact⟨a1,a2,rfl⟩
   ·exact hpos
   ·exact n2
   ·intro i hi hne
    have:=hho .seek i hi hne
    revert this
    unfold hubOk
    rw[hst_rem_ne h k i (by omega)]
    exact id
   ·exact kok_reader h0 (by simp) (by simp) (by simp) (by simp) (by simp) (by simp) (by simp) (by simp)
   ·intro e he h3
    simp[taskU] at he
   ·intro h;cases h
  ·left
   have h1:freed P (ph 0)=false:=by
    cases hb:freed P (ph 0)
    ·rfl
    ·exact absurd (.inl hb) haw
   have h2:now<P.ticks:=by
    rcases Classical.em (now<P.ticks) with h|h
    ·exact h
    ·exact absurd (.inr (by omega)) haw
   refine⟨?_,.inr (.inr ⟨rfl,h1,h2⟩)⟩
   have h2':¬ P.ticks≤now:=by omega
   simp only[h1,Option.getD_some,Option.isSome_some,Bool.true_and,Bool.false_or,h2',decide_false] at hcr
   simp[Srv.can,hc,a1,a3,hcore,hcr]
 | read =>
  rw[hp] at hat hpos hhub hkok
  obtain⟨a1,a2,a3⟩:=hat
  have hcan:c.task.can s.core k=true:=by rw[a3,hcore];exact can_pointed _ _ _ _ _ _ _ _ _ _ (by decide) (by decide) (by decide)
  have hst:c.task.step s.core k=(s.core,taskP (P.q k) 6 (rs k) 3):=by rw[a3,hcore];exact step_read _ _ _ _ _ _ _ _ (hkok.it rfl)
  obtain⟨g1,g2⟩:=pick_busy hc a1 hcan hst (by simp[taskU,taskP])
  refine .inr ⟨g1,.free,rs k,l,h,?_,.readd⟩
  refine I.upd hk (E':=_) (by rw[g2,hu0,hcore]) ?_ I.lok ?_ hpo hrng I.hubn ?_ (hho _) ?_ (hko _) ?_ ?_ (by rw[hp];decide)
  ·exact⟨a1,a2,_,rfl⟩
  ·exact hpos
  ·exact hhub
  ·exact kok_reader h0 (by simp) (by simp) (by simp) (fun hw=>absurd rfl (hkok.wr hw)) (by simp) (by simp) (by simp) (by simp)
  ·intro e he h3
   simp[taskP,a3] at he
  ·intro h;cases h
 | write i=>exact absurd hp (hnw i)
 | free =>
  rw[hp] at hat hpos hhub hkok
  obtain⟨a1,a2,nx,a3⟩:=hat
  have hs:=hidden_reads h0 hpos (.inr (.inr rfl))
  have hcan:c.task.can s.core k=true:=by rw[a3,hcore];exact can_pointed _ _ _ _ _ _ _ _ _ _ (by decide) (by decide) (by decide)
  have hst:c.task.step s.core k=(coreOf (dcur P (ph 0)) (l.leave k) h now P.ticks,taskP (P.q k) 8 (rs k) nx):=by rw[a3,hcore];exact step_free _ _ _ _ _ _ _ _ _ kw
  obtain⟨g1,g2⟩:=pick_over hc a1 hcan hst rfl
  obtain⟨m1,m2,m3,m4⟩:=others_left I h0 hs
  refine .inr ⟨g1,.ans,rs k,l.leave k,h,?_,.freed⟩
  refine I.upd hk (E':=_) (by rw[g2,hu0]) ?_ m1 ?_ m3 m4 I.hubn ?_ (hho _) ?_ (hko _) ?_ ?_ (by rw[hp];decide)
  ·exact⟨rfl,a2,rfl⟩
  ·exact m2
  ·exact hhub
  ·exact kok_reader h0 (by simp) (by simp) (by simp) (fun hw _=>hkok.wt hw (.inl rfl)) (by simp) (by simp) (by simp) (by simp)
  ·intro e he h3
   simp[taskP,a3] at he
  ·intro h;cases h
 | ans =>
  rw[hp] at hat hpos hhub hkok
  obtain⟨a1,a2,a3⟩:=hat
  obtain⟨g1,g2⟩:=pick_ans hc a1
  refine .inr ⟨g1,.done,rs k,l,h,?_,.told⟩
  refine I.upd hk (E':=_) (by rw[g2,hu0,hcore]) ?_ I.lok ?_ hpo hrng I.hubn ?_ (hho _) ?_ (hko _) ?_ ?_ (by rw[hp];decide)
  ·exact⟨rfl,a2⟩
  ·exact hpos
  ·exact hhub
  ·exact kok_reader h0 (by simp) (by simp) (by simp) (by simp) (by simp) (by simp) (by simp) (by simp)
  ·intro e he h3
   simp at he
   subst he
   exact⟨rfl,rfl,fun hw=>by rw[a3];exact hkok.wt hw (.inr rfl)⟩
  ·intro _
   exact⟨_,List.mem_singleton.2 rfl,rfl,rfl⟩
 | done =>
  rw[hp] at hat
  obtain⟨a1,a2⟩:=hat
  left
  refine⟨?_,.inl rfl⟩
  simp[Srv.can,hc,a1,a2]
end Go.Proofs.YtjmkkcckfbnmeaaGreatDoor.M
namespace Go.Proofs.YtjmkkcckfbnmeaaGreatDoor.M
theorem wr_kind (w:Nat)(h:w<4):(wr w).kind≠1∧(wr w).kind≠2∧(wr w).kind≠10∧(wr w).kind≠9∧writes (wr w).kind=true∧((wr w).kind=7 ↔ w=1)∧(w≠1→(wr w).ops=[]):=by
 match w,h with
 | 0,_=>decide
 | 1,_=>decide
 | 2,_=>decide
 | 3,_=>decide
theorem wr_ops (i:Nat)(h:i<3):∃ o,(wr 1).ops[i]? = some o∧dApp 1 (i+1)=(dApp 1 i).applyOp o (aW 1).token:=by
 match i,h with
 | 0,_=>exact⟨_,rfl,rfl⟩
 | 1,_=>exact⟨_,rfl,rfl⟩
 | 2,_=>exact⟨_,rfl,rfl⟩
theorem kok_writer {P:Par}{p0:Ph}{now:Int}{p:Ph}{a:Resp}(hlt:P.write<4)(sl:p≠.sleep)(sr:p≠.rest)(k0:p≠.read)(w0:∀ i,p = .write i→P.write=1∧i<3)(aw:(∃ i,p = .write i)∨p = .free→a=aW P.write)
  (un:p = .unread→now=0) (li:p = .queue∨p = .act→(P.q 0).kind≠10):KOk P p0 now 0 p a :=
 ⟨fun h=>(h.elim (fun h=>absurd h sl) (fun h=>absurd h sr)),fun h=>absurd h sl,fun h=>absurd h.1 (by omega),fun h=>absurd h.1 (by omega),fun i hi=>⟨rfl,w0 i hi⟩,fun _=>k0,fun _=>aw,fun _ h=>absurd h (by omega),fun h=>absurd h k0,un,li⟩
theorem writer_step {P:Par}(hP:P.Ok)(hlt:P.write<4){s:Srv}{ph:Nat→Ph}{rs:Nat→Resp}{now:Int}{l:Lk}{h:List Wt}(I:Inv P s ph rs now l h) :
  (s.can 0=false∧Stuck P (ph 0) now l 0 (ph 0))∨(s.can 0=true∧∃ p' a' l' h',Inv P (s.pick 0) (upd ph 0 p') (upd rs 0 a') now l' h'∧Tr P (ph 0) now 0 (ph 0) p'):=by
 have hk:0<P.n:=by have:=hP.hn;omega
 obtain⟨c,hc,hat⟩:=I.conn 0 hk
 have hpos:=I.pos 0 hk
 have hhub:=I.hub 0 hk
 have hkok:=I.kok 0 hk
 have hcore:=I.core
 have hpo:∀ i:Nat,i<P.n→i≠0→posOk i (ph i) (l.state i):=fun i hi _=>I.pos i hi
 have hho:∀ p',freed P p'=freed P (ph 0)→∀ i:Nat,i<P.n→i≠0→hubOk P (upd ph 0 p' 0) i (ph i) h:=fun p' hf i hi _=>by
  have:=I.hub i hi
  rw[upd_same]
  cases hpi:ph i<;>rw[hpi] at this<;>simp only[hubOk] at this ⊢<;>first|exact this|(rw[hf];exact this)
 have hko:∀ p',freed P p'=freed P (ph 0)→∀ i:Nat,i<P.n→i≠0→ph i = .sleep→freed P (upd ph 0 p' 0)=false:=fun p' hf i hi _ hp=>by rw[upd_same,hf];exact(I.kok i hi).sf hp
 have hrng:∀ i:Int,l.state i≠0→l.state i≠0∨i=((0:Nat):Int):=fun i hi=>.inl hi
 have hq:P.q 0=wr P.write:=rfl
 obtain⟨k1,k2,k10,k9,kw,k7,kops⟩:=wr_kind P.write hlt
 have hne4:P.write≠4:=by omega
 obtain⟨e1,e2⟩:=aW_err P.write hlt
 have hd:dcur P (ph 0)=match ph 0 with|.write i=>dApp P.write i|.free|.ans|.done=>dEnd P.write|_=>d0:=by
  unfold dcur
  rw[if_neg hne4]
  cases ph 0<;>rfl
 have hdc:∀ p,dcur P p=match p with|.write i=>dApp P.write i|.free|.ans|.done=>dEnd P.write|_=>d0:=by
  intro p
  unfold dcur
  rw[if_neg hne4]
  cases p<;>rfl
 cases hp:ph 0 with
 | unread =>
  rw[hp] at hat hpos hhub hkok hcore hho hko
  obtain⟨a1,a2⟩:=hat
  obtain⟨g1,g2⟩:=pick_read hc a1 a2 (by rw[hq];exact k1)
  have hn:=hkok.un rfl
  refine .inr ⟨g1,.seek,rs 0,l,h,?_,.read⟩
  refine I.upd hk (E':=_) (by rw[g2,upd_same,hdc,hcore,hdc]) ?_ I.lok hpos hpo hrng I.hubn hhub (hho _ (by simp[freed])) ?_ (hko _ (by simp[freed])) ?_ ?_ (by rw[hp];decide)
  ·exact⟨rfl,rfl,start_taskU _ _ _ _ _ _ hn⟩
  ·exact kok_writer hlt (by simp) (by simp) (by simp) (by simp) (by simp) (by simp) (by simp)
  ·intro e he h3
   simp at he
   subst he
   cases h3
  ·intro h;cases h
 | seek =>
  rw[hp] at hat hpos hhub hkok hcore hho hko
  obtain⟨a1,a2,a3⟩:=hat
  have hcan:c.task.can s.core (0:Nat)=true:=by rw[a3,hcore];exact can_plain _ _ _ _ _ _ _ _ (by decide) (by decide) (by decide)
  have hst:c.task.step s.core (0:Nat)=(s.core,taskU (P.q 0) 2):=by rw[a3,hcore];exact step_found _ _ _ _ _ _ _ k2 k10 (by rw[hdc];exact d0_facts.1)
  obtain⟨g1,g2⟩:=pick_busy hc a1 hcan hst (by simp[taskU])
  refine .inr ⟨g1,.queue,rs 0,l,h,?_,.found (by rw[hdc];exact d0_facts.1)⟩
  refine I.upd hk (E':=_) (by rw[g2,upd_same,hdc,hcore,hdc]) ?_ I.lok hpos hpo hrng I.hubn hhub (hho _ (by simp[freed])) ?_ (hko _ (by simp[freed])) ?_ ?_ (by rw[hp];decide)
  ·exact⟨a1,a2,rfl⟩
  ·exact kok_writer hlt (by simp) (by simp) (by simp) (by simp) (by simp) (by simp) (fun _=>k10)
  ·intro e he h3
   simp[taskU] at he
  ·intro h;cases h
 | queue =>
  rw[hp] at hat hpos hhub hkok hcore hho hko
  obtain⟨a1,a2,a3⟩:=hat
  have hcan:c.task.can s.core (0:Nat)=true:=by rw[a3,hcore];exact can_plain _ _ _ _ _ _ _ _ (by decide) (by decide) (by decide)
  have hst:c.task.step s.core (0:Nat)=(coreOf d0 (l.ask 0 true) h now P.ticks,taskU (P.q 0) 3):=by rw[a3,hcore,step_queue,hdc,hq,kw];rfl
  obtain⟨g1,g2⟩:=pick_busy hc a1 hcan hst (by simp[taskU])
  obtain⟨m1,m2,m3⟩:=ask_writer I.lok hpos
  refine .inr ⟨g1,.act,rs 0,l.ask 0 true,h,?_,.ask⟩
  refine I.upd hk (E':=_) (by rw[g2,upd_same,hdc]) ?_ m1 ?_ ?_ ?_ I.hubn hhub (hho _ (by simp[freed])) ?_ (hko _ (by simp[freed])) ?_ ?_ (by rw[hp];decide)
  ·exact⟨a1,a2,rfl⟩
  ·exact m2
  ·intro i hi hne
   rw[m3 i (by omega)]
   exact I.pos i hi
  ·intro i hi
   by_cases e:i=0
   ·exact .inr e
   ·rw[m3 i e] at hi
    exact .inl hi
  ·exact kok_writer hlt (by simp) (by simp) (by simp) (by simp) (by simp) (by simp) (fun _=>k10)
  ·intro e he h3
   simp[taskU] at he
  ·intro h;cases h
 | act =>
  rw[hp] at hat hpos hhub hkok hcore hho hko
  obtain⟨a1,a2,a3⟩:=hat
  simp only[posOk,if_true] at hpos
  rw[hdc] at hcore
  simp only at hcore
  rw[hq] at a3
  rcases hpos with hpos|hpos
  ·left
   refine⟨?_,.inr (.inl ⟨rfl,hpos⟩)⟩
   simp only[Int.ofNat_zero,Int.natCast_zero] at hpos
   simp[Srv.can,hc,a1,a3,hcore,can_act,hpos]
  have hcan:c.task.can s.core (0:Nat)=true:=by rw[a3,hcore,can_act,hpos];decide
  by_cases h1:P.write=1
  ·have hst:c.task.step s.core (0:Nat)=(coreOf (dApp P.write 0) l h now P.ticks,taskP (wr P.write) 4 (aW P.write) 0):=by
    rw[a3,hcore,step_batch _ _ _ _ _ _ _ d0_facts.2.1 (k7.2 h1) e1]
    rfl
   obtain⟨g1,g2⟩:=pick_busy hc a1 hcan hst (by simp[taskP])
   refine .inr ⟨g1,.write 0,aW P.write,l,h,?_,.batch rfl⟩
   refine I.upd hk (E':=_) (by rw[g2,upd_same,hdc]) ?_ I.lok ?_ hpo hrng I.hubn hhub (hho _ (by simp[freed])) ?_ (hko _ (by simp[freed])) ?_ ?_ (by rw[hp];decide)
   ·exact⟨a1,a2,rfl⟩
   ·exact hpos
   ·exact kok_writer hlt (by simp) (by simp) (by simp) (fun i hi=>by cases hi;exact⟨h1,by omega⟩) (by simp) (by simp) (by simp)
   ·intro e he h3
    simp[taskP,taskU,a3] at he
    subst he
    cases h3
   ·intro h;cases h
  ·have hst:c.task.step s.core (0:Nat)=(coreOf (dEnd P.write) l h now P.ticks,taskP (wr P.write) 6 (aW P.write) 0):=by
    rw[a3,hcore,step_plain _ _ _ _ _ _ _ d0_facts.2.1 (fun h=>absurd h k9) (fun h=>h1 (k7.1 h)) e2]
    unfold dEnd
    rw[kops h1]
    rfl
   obtain⟨g1,g2⟩:=pick_busy hc a1 hcan hst (by simp[taskP])
   refine .inr ⟨g1,.free,aW P.write,l,h,?_,.wrote rfl⟩
   refine I.upd hk (E':=_) (by rw[g2,upd_same,hdc]) ?_ I.lok ?_ hpo hrng I.hubn hhub (hho _ (by simp[freed])) ?_ (hko _ (by simp[freed])) ?_ ?_ (by rw[hp];decide)
   ·exact⟨a1,a2,0,rfl⟩
   ·exact hpos
   ·exact kok_writer hlt (by simp) (by simp) (by simp) (by simp) (by simp) (by simp) (by simp)
   ·intro e he h3
    simp[taskP,taskU,a3] at he
    subst he
    cases h3
   ·intro h;cases h
 | sleep=>exact absurd (hkok.sl (.inl hp)).1 (by omega)
 | rest=>exact absurd (hkok.sl (.inr hp)).1 (by omega)
 | read=>exact absurd hp (hkok.k0 rfl)
 | write i =>
  rw[hp] at hat hpos hhub hkok hcore hho hko
  obtain⟨a1,a2,a3⟩:=hat
  rw[hdc] at hcore
  simp only at hcore
  obtain⟨_,h1,hi⟩:=hkok.w0 i rfl
  have ha:=hkok.aw rfl (.inl ⟨i,rfl⟩)
  obtain⟨o,ho1,ho2⟩:=wr_ops i hi
  have hcan:c.task.can s.core (0:Nat)=true:=by rw[a3,hcore];exact can_pointed _ _ _ _ _ _ _ _ _ _ (by decide) (by decide) (by decide)
  have hlen:(P.q 0).ops.length=3:=by rw[hq,h1];rfl
  have hst:c.task.step s.core (0:Nat)=(coreOf (dApp 1 (i+1)) l h now P.ticks,taskP (P.q 0) (if i+1=3 then 6 else 4) (rs 0) (i+1:Nat)):=by
   rw[a3,hcore,step_write (dApp P.write i) l h now P.ticks (P.q 0) _ (rs 0) i o (by rw[hq,h1];exact ho1),hlen,ho2,h1,ha,h1]
  by_cases h3:i+1=3
  ·rw[if_pos h3] at hst
   obtain⟨g1,g2⟩:=pick_busy hc a1 hcan hst (by simp[taskP])
   refine .inr ⟨g1,.free,rs 0,l,h,?_,.applied i⟩
   refine I.upd hk (E':=_) (by rw[g2,upd_same,hdc,h1,h3];rfl) ?_ I.lok ?_ hpo hrng I.hubn hhub (hho _ (by simp[freed])) ?_ (hko _ (by simp[freed])) ?_ ?_ (by rw[hp];simp)
   ·exact⟨a1,a2,_,rfl⟩
   ·exact hpos
   ·exact kok_writer hlt (by simp) (by simp) (by simp) (by simp) (fun _=>ha) (by simp) (by simp)
   ·intro e he h3
    simp[taskP,a3] at he
   ·intro h;cases h
  ·rw[if_neg h3] at hst
   obtain⟨g1,g2⟩:=pick_busy hc a1 hcan hst (by simp[taskP])
   refine .inr ⟨g1,.write (i+1),rs 0,l,h,?_,.apply i⟩
   refine I.upd hk (E':=_) (by rw[g2,upd_same,hdc,h1]) ?_ I.lok ?_ hpo hrng I.hubn hhub (hho _ (by simp[freed])) ?_ (hko _ (by simp[freed])) ?_ ?_ (by rw[hp];simp)
   ·exact⟨a1,a2,rfl⟩
   ·exact hpos
   ·exact kok_writer hlt (by simp) (by simp) (by simp) (fun j hj=>by cases hj;exact⟨h1,by omega⟩) (fun _=>ha) (by simp) (by simp)
   ·intro e he h3
    simp[taskP,a3] at he
   ·intro h;cases h
 | free =>
  rw[hp] at hat hpos hhub hkok hcore hho hko
  obtain⟨a1,a2,nx,a3⟩:=hat
  rw[hdc] at hcore
  simp only at hcore
  have ha:=hkok.aw rfl (.inr rfl)
  have hpos':l.state 0=3:=by simpa[posOk] using hpos
  have hcan:c.task.can s.core (0:Nat)=true:=by rw[a3,hcore];exact can_pointed _ _ _ _ _ _ _ _ _ _ (by decide) (by decide) (by decide)
  have hst:c.task.step s.core (0:Nat)=(coreOf (dEnd P.write) (l.leave 0) (wakeL h 0) now P.ticks,taskP (P.q 0) 8 (rs 0) nx):=by
   rw[a3,hcore];exact step_wake _ _ _ _ _ _ _ _ _ kw (by rw[ha];exact e1)
  obtain⟨g1,g2⟩:=pick_over hc a1 hcan hst rfl
  obtain⟨m1,m2,m3⟩:=leave_writer I.lok hpos'
  obtain⟨n1,n2⟩:=wake_ok I.hubn
  have hno2:∀ i:Nat,i≠0→l.state i≠2:=fun i hi e=>by
   rcases m3 i (by omega) with⟨_,h⟩|⟨_,h⟩<;>rw[h] at e<;>cases e
  refine .inr ⟨g1,.ans,rs 0,l.leave 0,wakeL h 0,?_,.freed⟩
  refine I.upd hk (E':=_) (by rw[g2,upd_same,hdc]) ?_ m1 ?_ ?_ ?_ n1 ?_ ?_ ?_ ?_ ?_ ?_ (by rw[hp];simp)
  ·exact⟨rfl,a2,rfl⟩
  ·exact m2
  ·intro i hi hne
   have hpi:=I.pos i hi
   rcases m3 i (by omega) with⟨g,h⟩|⟨g,h⟩
   ·rw[g]
    rw[h] at hpi
    cases hq:ph i<;>rw[hq] at hpi<;>simp[posOk,hne] at hpi ⊢
   ·rw[g]
    rw[h] at hpi
    exact hpi
  ·intro i hi
   by_cases e:i=0
   ·exact .inr e
   ·left
    rcases m3 i e with⟨_,h⟩|⟨g,_⟩
    ·rw[h];decide
    ·exact absurd g hi
  ·show M.hst (wakeL h 0) (0:Nat)=none
   rw[n2]
   have:M.hst h (0:Nat)=none:=hhub
   rw[this]
   rfl
  ·intro i hi hne
   have hhi:=I.hub i hi
   have hpi:=I.pos i hi
   rw[upd_same]
   have hold:freed P (ph 0)=false:=by rw[hp];simp[freed]
   have hnew:freed P .ans=true:=by simp[freed,hlt]
   cases hq:ph i<;>rw[hq] at hhi hpi<;>simp only[hubOk] at hhi ⊢
   all_goals first
    | (rw[n2,hhi];rfl)
    | (rw[n2,hhi,hnew];rfl)
    | (exact absurd (hidden_reads hne hpi (.inl rfl)) (hno2 i hne))
  ·exact kok_writer hlt (by simp) (by simp) (by simp) (by simp) (by simp) (by simp) (by simp)
  ·intro i hi hne hs
   have hpi:=I.pos i hi
   rw[hs] at hpi
   exact absurd (hidden_reads hne hpi (.inl rfl)) (hno2 i hne)
  ·intro e he h3
   simp[taskP,a3] at he
  ·intro h;cases h
 | ans =>
  rw[hp] at hat hpos hhub hkok hcore hho hko
  obtain⟨a1,a2,a3⟩:=hat
  obtain⟨g1,g2⟩:=pick_ans hc a1
  refine .inr ⟨g1,.done,rs 0,l,h,?_,.told⟩
  refine I.upd hk (E':=_) (by rw[g2,upd_same,hdc,hcore,hdc]) ?_ I.lok hpos hpo hrng I.hubn hhub (hho _ (by simp[freed])) ?_ (hko _ (by simp[freed])) ?_ ?_ (by rw[hp];decide)
  ·exact⟨rfl,a2⟩
  ·exact kok_writer hlt (by simp) (by simp) (by simp) (by simp) (by simp) (by simp) (by simp)
  ·intro e he h3
   simp at he
   subst he
   exact⟨rfl,rfl,fun hw=>absurd hw.1 (by omega)⟩
  ·intro _
   exact⟨_,List.mem_singleton.2 rfl,rfl,rfl⟩
 | done =>
  rw[hp] at hat
  obtain⟨a1,a2⟩:=hat
  left
  refine⟨?_,.inl rfl⟩
  simp[Srv.can,hc,a1,a2]
end Go.Proofs.YtjmkkcckfbnmeaaGreatDoor.M
namespace Go.Proofs.YtjmkkcckfbnmeaaGreatDoor.M
theorem step {P:Par}(hP:P.Ok){s:Srv}{ph:Nat→Ph}{rs:Nat→Resp}{now:Int}{l:Lk}{h:List Wt}(I:Inv P s ph rs now l h){k:Nat}(hk:k<P.n) :
  (s.can k=false∧s.pick k=s∧Stuck P (ph 0) now l k (ph k))∨(s.can k=true∧∃ p' a' l' h',Inv P (s.pick k) (upd ph k p') (upd rs k a') now l' h'∧Tr P (ph 0) now k (ph k) p'):=by
 by_cases h0:k=0
 ·subst h0
  by_cases hlt:P.write<4
  ·rcases writer_step hP hlt I with⟨h1,h2⟩|h
   ·exact .inl ⟨h1,pick_cannot h1,h2⟩
   ·exact .inr h
  ·have hd:=(I.kok 0 hk).nw rfl (by have:=hP.hwr;omega)
   obtain⟨c,hc,hat⟩:=I.conn 0 hk
   rw[hd] at hat
   have hcan:s.can 0=false:=by simp[Srv.can,hc,hat.1,hat.2]
   exact .inl ⟨hcan,pick_cannot hcan,.inl hd⟩
 ·rcases reader_step hP I hk h0 with⟨h1,h2⟩|h
  ·exact .inl ⟨h1,pick_cannot h1,h2⟩
  ·exact .inr h
structure G (P:Par)(now:Int) where
 s:Srv
 ph:Nat→Ph
 rs:Nat→Resp
 l:Lk
 h:List Wt
 I:Inv P s ph rs now l h
def Pk (P:Par)(now:Int)(g g':G P now)(k:Nat):Prop :=
 g'.s=g.s.pick k∧((g.s.can k=false∧g'=g∧Stuck P (g.ph 0) now g.l k (g.ph k))∨(g.s.can k=true∧(∀ i,i≠k→g'.ph i=g.ph i)∧Tr P (g.ph 0) now k (g.ph k) (g'.ph k)))
theorem pk {P:Par}(hP:P.Ok){now:Int}(g:G P now){k:Nat}(hk:k<P.n):∃ g',Pk P now g g' k:=by
 rcases step hP g.I hk with⟨h1,h2,h3⟩|⟨h1,p',a',l',h',I',t⟩
 ·exact⟨g,h2.symm,.inl ⟨h1,rfl,h3⟩⟩
 ·exact⟨⟨_,_,_,_,_,I'⟩,rfl,.inr ⟨h1,fun i hi=>upd_ne _ _ hi,by simpa using t⟩⟩
theorem picks_keep {P:Par}(hP:P.Ok){now:Int}(C:G P now→Prop)(hC:∀ g g' k,k<P.n→C g→Pk P now g g' k→C g')(L:List Nat)(hL:∀ k∈L,k<P.n)(g:G P now)(hg:C g) :
  ∃ g':G P now,g'.s=L.foldl Srv.pick g.s∧C g':=by
 induction L generalizing g with
 | nil=>exact⟨g,rfl,hg⟩
 | cons k L ih =>
  obtain⟨g1,h1⟩:=pk hP g (hL k (by simp))
  obtain⟨g2,h2,h3⟩:=ih (fun i hi=>hL i (by simp[hi])) g1 (hC g g1 k (hL k (by simp)) hg h1)
  exact⟨g2,by rw[h2,h1.1];rfl,h3⟩
theorem one_round {P:Par}(hP:P.Ok){now:Int}(C:G P now→Prop)(hC:∀ g g' k,k<P.n→C g→Pk P now g g' k→C g')
  (S:Nat→Prop) (F:Nat→Ph→Nat) (hF:∀ g g' k,k<P.n→C g→S k→Pk P now g g' k→F k (g'.ph k)≤F k (g.ph k) - 1) :
  ∀ (L:List Nat),(∀ k∈L,k<P.n)→L.Nodup→∀ (g:G P now),C g →
  ∃ g':G P now,g'.s=L.foldl Srv.pick g.s∧C g'∧(∀ k,k∈L→S k→F k (g'.ph k)≤F k (g.ph k) - 1)∧(∀ k,k∉L→g'.ph k=g.ph k):=by
 intro L
 induction L with
 | nil=>intro _ _ g hg;exact⟨g,rfl,hg,by simp,fun _ _=>rfl⟩
 | cons k L ih =>
  intro hL hn g hg
  simp only[List.nodup_cons] at hn
  obtain⟨g1,h1⟩:=pk hP g (hL k (by simp))
  have hg1:=hC g g1 k (hL k (by simp)) hg h1
  have hoth:∀ i,i≠k→g1.ph i=g.ph i:=by
   rcases h1.2 with⟨_,rfl,_⟩|⟨_,h,_⟩
   ·intro i _;rfl
   ·exact h
  obtain⟨g2,h2,h3,h4,h5⟩:=ih (fun i hi=>hL i (by simp[hi])) hn.2 g1 hg1
  refine⟨g2,by rw[h2,h1.1];rfl,h3,?_,?_⟩
  ·intro i hi hS
   by_cases e:i=k
   ·subst e
    rw[h5 i hn.1]
    exact hF g g1 i (hL i (by simp)) hg hS h1
   ·have hi':i∈L:=by simpa[e] using hi
    have:=h4 i hi' hS
    rw[hoth i e] at this
    exact this
  ·intro i hi
   simp only[List.mem_cons,not_or] at hi
   rw[h5 i hi.2,hoth i hi.1]
theorem some_rounds {P:Par}(hP:P.Ok){now:Int}(C:G P now→Prop)(hC:∀ g g' k,k<P.n→C g→Pk P now g g' k→C g')
  (S:Nat→Prop) (F:Nat→Ph→Nat) (hF:∀ g g' k,k<P.n→C g→S k→Pk P now g g' k→F k (g'.ph k)≤F k (g.ph k) - 1) (t:Nat) (g:G P now) (hg:C g) :
  ∃ g':G P now,g'.s=rounds g.s P.n t∧C g'∧(∀ k,k<P.n→S k→F k (g'.ph k)≤F k (g.ph k) - t):=by
 induction t generalizing g with
 | zero=>exact⟨g,rfl,hg,fun k _ _=>by omega⟩
 | succ t ih =>
  obtain⟨g1,h1,h2,h3,_⟩:=one_round hP C hC S F hF (List.range P.n) (by simp) List.nodup_range g hg
  obtain⟨g2,h4,h5,h6⟩:=ih g1 h2
  refine⟨g2,by rw[h4,h1];rfl,h5,fun k hk hS=>?_⟩
  have a:=h3 k (by simpa using hk) hS
  have b:=h6 k hk hS
  omega
def Post (P:Par)(now:Int)(g:G P now):Prop:=g.ph 0 = .done
theorem post_keep {P:Par}{now:Int} : ∀ g g' k,k<P.n→Post P now g→Pk P now g g' k→Post P now g':=by
 intro g g' k _ hg h
 rcases h.2 with⟨_,rfl,_⟩|⟨_,h,t⟩
 ·exact hg
 ·by_cases e:k=0
  ·subst e
   unfold Post at hg
   rw[hg] at t
   cases t
  ·unfold Post
   rw[h 0 (fun e'=>e e'.symm)]
   exact hg
def fin (found:Bool)(p:Ph):Nat:=match p with
 | .done=>0
 | .ans=>1
 | .free=>2
 | .act=>3
 | .queue=>4
 | .seek=>if found then 5 else 2
 | .rest=>if found then 6 else 3
 | .unread=>if found then 6 else 3
 | .sleep=>7
 | .read=>3
 | .write _=>3
theorem fin_le (b:Bool)(p:Ph):fin b p≤7:=by cases p<;>cases b<;>simp[fin]
theorem pos0_done {P:Par}(hP:P.Ok){now:Int}(g:G P now)(h0:g.ph 0 = .done){k:Nat}(hk:k≠0):g.l.state k≠1:=by
 intro h
 have hn:0<P.n:=by have:=hP.hn;omega
 have hp:=g.I.pos 0 hn
 rw[h0] at hp
 have hp':g.l.state 0=0:=hp
 rcases reader_waits g.I.lok (k:=(k:Int)) (by omega) h with h|h<;>rw[hp'] at h<;>cases h
theorem post_lower {P:Par}(hP:P.Ok)(hlt:P.write<4){now:Int} : ∀ g g' k,k<P.n→Post P now g→P.isW k→Pk P now g g' k→fin (dEnd P.write).found (g'.ph k)≤fin (dEnd P.write).found (g.ph k) - 1:=by
 intro g g' k hk hg hw h
 have hd:dcur P (g.ph 0)=dEnd P.write:=by
  unfold Post at hg
  unfold dcur
  rw[if_neg (by omega),hg]
 have hf:freed P (g.ph 0)=true:=by
  unfold Post at hg
  rw[hg]
  simp[freed,hlt]
 have hE:=dEnd_facts P.write hlt
 have h0:k≠0:=by have:=hw.1;omega
 rcases h.2 with⟨_,rfl,h⟩|⟨_,_,t⟩
 ·rcases h with h|⟨h1,h2⟩|⟨_,h2,_⟩
  ·rw[h];simp[fin]
  ·exact absurd h2 (pos0_done hP g' hg h0)
  ·rw[hf] at h2;cases h2
 ·have hsl:g.ph k≠.sleep:=fun e=>by
   have:=(g.I.kok k hk).sf e
   rw[hf] at this
   cases this
  have hwr:∀ i,g.ph k≠.write i:=fun i e=>h0 ((g.I.kok k hk).w0 i e).1
  generalize hp:g.ph k=p at t hsl hwr
  generalize hp':g'.ph k=p' at t
  cases hb:(dEnd P.write).found
  ·have h3:P.write=3:=Classical.byContradiction fun h=>by rw[(hE.2 h).1] at hb;cases hb
   have hal:=(hE.1 h3).2
   cases t<;>simp_all [fin]
  ·have h3:P.write≠3:=fun h=>by rw[(hE.1 h).1] at hb;cases hb
   obtain⟨_,hal,hla⟩:=hE.2 h3
   cases t<;>simp_all [fin]
theorem done0 {P:Par}(hP:P.Ok)(h4:P.write=4){now:Int}(g:G P now):g.ph 0 = .done∧dcur P (g.ph 0)=d0∧freed P (g.ph 0)=false:=by
 refine⟨(g.I.kok 0 (by have:=hP.hn;omega)).nw rfl h4,?_,?_⟩
 ·unfold dcur
  rw[if_pos h4]
 ·simp[freed,h4]
theorem late_lower {P:Par}(hP:P.Ok)(h4:P.write=4){now:Int}(hl:P.ticks≤now):∀ g g' k,k<P.n→True→P.isW k→Pk P now g g' k→fin true (g'.ph k)≤fin true (g.ph k) - 1:=by
 intro g g' k hk _ hw h
 obtain⟨e1,hd,hf⟩:=done0 hP h4 g
 obtain⟨f1,f2,f3⟩:=d0_facts
 have h0:k≠0:=by have:=hw.1;omega
 rcases h.2 with⟨_,rfl,h⟩|⟨_,_,t⟩
 ·rcases h with h|⟨h1,h2⟩|⟨_,_,h3⟩
  ·rw[h];simp[fin]
  ·exact absurd h2 (pos0_done hP g' e1 h0)
  ·omega
 ·have hwr:∀ i,g.ph k≠.write i:=fun i e=>h0 ((g.I.kok k hk).w0 i e).1
  have hrd:g.ph k≠.read:=(g.I.kok k hk).wr hw
  have hnl:¬ now<P.ticks:=by omega
  generalize hp:g.ph k=p at t hwr hrd
  generalize hp':g'.ph k=p' at t
  cases t<;>simp_all [fin]
def low (p:Ph):Nat:=match p with
 | .unread=>5
 | .seek=>4
 | .queue=>3
 | .act=>2
 | .sleep=>1
 | .rest=>0
 | _=>100
def Early (P:Par)(now:Int)(g:G P now):Prop:=∀ k,k<P.n→P.isW k→low (g.ph k)≤5
theorem early_both {P:Par}(hP:P.Ok)(h4:P.write=4){now:Int}(hl:now<P.ticks):∀ g g' k,k<P.n→Early P now g→P.isW k→Pk P now g g' k→low (g'.ph k)≤low (g.ph k) - 1∧low (g'.ph k)≤5:=by
 intro g g' k hk hg hw h
 obtain⟨e1,hd,hf⟩:=done0 hP h4 g
 obtain⟨f1,f2,f3⟩:=d0_facts
 have h0:k≠0:=by have:=hw.1;omega
 have hlo:=hg k hk hw
 rcases h.2 with⟨_,rfl,h⟩|⟨_,_,t⟩
 ·rcases h with h|⟨h1,h2⟩|⟨h,_,h3⟩
  ·rw[h] at hlo;simp[low] at hlo
  ·exact absurd h2 (pos0_done hP g' e1 h0)
  ·rw[h];simp[low]
 ·have hnl:¬ P.ticks≤now:=by omega
  generalize hp:g.ph k=p at t hlo
  generalize hp':g'.ph k=p' at t
  cases t<;>simp_all [low]<;>omega
theorem early_keep {P:Par}(hP:P.Ok)(h4:P.write=4){now:Int}(hl:now<P.ticks):∀ g g' k,k<P.n→Early P now g→Pk P now g g' k→Early P now g':=by
 intro g g' k hk hg h i hi hw
 by_cases e:i=k
 ·subst e
  exact(early_both hP h4 hl g g' i hi hg hw h).2
 ·rcases h.2 with⟨_,rfl,_⟩|⟨_,h,_⟩
  ·exact hg i hi hw
  ·rw[h i e]
   exact hg i hi hw
def Read (P:Par)(now:Int)(g:G P now):Prop:=∀ k,k<P.n→g.ph k≠.unread
def unr (p:Ph):Nat:=if p = .unread then 1 else 0
theorem read_lower {P:Par}{now:Int} : ∀ g g' k,k<P.n→True→True→Pk P now g g' k→unr (g'.ph k)≤unr (g.ph k) - 1:=by
 intro g g' k hk _ _ h
 rcases h.2 with⟨_,rfl,h⟩|⟨_,_,t⟩
 ·rcases h with h|⟨h,_⟩|⟨h,_⟩<;>rw[h]<;>decide
 ·generalize hp:g.ph k=p at t
  generalize hp':g'.ph k=p' at t
  cases t<;>simp[unr]
def isDelta (P:Par)(k:Nat):Nat:=if (P.q k).kind=8 then 1 else 0
def wW (p:Ph):Nat:=match p with
 | .unread=>8
 | .seek=>7
 | .queue=>6
 | .act=>5
 | .write i=>4 - i
 | .free=>1
 | _=>0
def wR (p:Ph):Nat:=match p with
 | .unread=>5
 | .seek=>4
 | .queue=>3
 | .act=>2
 | .sleep=>1
 | .free=>2
 | .ans=>1
 | _=>0
def wA (d:Nat)(p:Ph):Nat:=match p with
 | .unread=>6+d
 | .seek=>5+d
 | .queue=>4+d
 | .act=>3+d
 | .read=>3
 | .free=>2
 | .ans=>1
 | _=>0
def wgt (P:Par)(k:Nat)(p:Ph):Nat:=if k=0 then wW p else if P.isW k then wR p else wA (isDelta P k) p
def Win (p:Ph):Prop:=p≠.ans∧p≠.done
theorem win_lower {P:Par}(hP:P.Ok)(hlt:P.write<4){now:Int}{g g':G P now}{k:Nat}(hk:k<P.n)(hw:Win (g.ph 0))(hc:g.s.can k=true)(h:Pk P now g g' k):(k=0∧¬ Win (g'.ph 0))∨wgt P k (g'.ph k)+1≤wgt P k (g.ph k):=by
 rcases h.2 with⟨h,_,_⟩|⟨_,_,t⟩
 ·rw[hc] at h;cases h
 ·have hn:0<P.n:=by have:=hP.hn;omega
  have hnow:=g.I.nowz hlt
  have hwr:=(g.I.kok k hk).w0
  have hrd:=(g.I.kok k hk).wr
  have hk0:=(g.I.kok k hk).k0
  have hsl:=(g.I.kok k hk).sl
  have hfr:freed P (g.ph 0)=false:=by
   obtain⟨h1,h2⟩:=hw
   simp[freed,h1,h2]
  have htk:=hP.ht
  by_cases h0:k=0
  ·subst h0
   by_cases hw':Win (g'.ph 0)
   ·right
    have hne:¬ P.isW 0:=fun h=>by have:=h.1;omega
    unfold wgt
    rw[if_pos rfl,if_pos rfl]
    generalize hp:g.ph 0=p at t hwr hw hk0 hsl
    generalize hp':g'.ph 0=p' at t hw'
    cases t<;>simp_all [wW,Win]
    all_goals omega
   ·exact .inl ⟨rfl,hw'⟩
  ·right
   have hd:g.ph 0≠.free→(∀ i,g.ph 0≠.write i)→dcur P (g.ph 0)=d0:=by
    intro h1 h2
    unfold dcur
    rw[if_neg (by omega)]
    revert hw h1 h2
    cases g.ph 0<;>simp[Win]
   obtain⟨f1,f2,f3⟩:=d0_facts
   unfold wgt
   rw[if_neg h0,if_neg h0]
   generalize hp:g.ph k=p at t hwr hrd hsl
   generalize hp':g'.ph k=p' at t
   by_cases hW:P.isW k
   ·rw[if_pos hW,if_pos hW]
    cases t with
    | gone _ ha q1 q2=>rw[hd q1 q2,f2] at ha;cases ha
    | got _ _ q1 q2 hl=>have:=hl hW;rw[hd q1 q2,f3] at this;omega
    | rise _ hq =>
     rcases hq with hq|hq
     ·rw[hfr] at hq;cases hq
     ·omega
    | apply i=>exact absurd (hwr i rfl).1 h0
    | applied i=>exact absurd (hwr i rfl).1 h0
    | wrote h=>exact absurd h h0
    | batch h=>exact absurd h h0
    | items _ h _=>exact absurd hW h
    | readd=>exact absurd rfl (hrd hW)
    | _=>simp[wR]
   ·rw[if_neg hW,if_neg hW]
    cases t with
    | gone _ ha q1 q2=>rw[hd q1 q2,f2] at ha;cases ha
    | rise h _=>exact absurd h hW
    | sleep h=>exact absurd h hW
    | rest=>exact absurd (hsl (.inl rfl)) hW
    | apply i=>exact absurd (hwr i rfl).1 h0
    | applied i=>exact absurd (hwr i rfl).1 h0
    | wrote h=>exact absurd h h0
    | batch h=>exact absurd h h0
    | items _ _ h8=>simp[wA,isDelta,h8]
    | _=>simp[wA];try omega
end Go.Proofs.YtjmkkcckfbnmeaaGreatDoor.M
namespace Go.Proofs.YtjmkkcckfbnmeaaGreatDoor.M
theorem some_can {P:Par}(hP:P.Ok){now:Int}(g:G P now)(hw:Win (g.ph 0)):∃ k,k<P.n∧g.s.can k=true:=by
 have hn:0<P.n:=by have:=hP.hn;omega
 rcases step hP g.I hn with⟨_,_,h⟩|⟨h,_⟩
 ·rcases h with h|⟨h1,h2⟩|⟨h,_⟩
  ·exact absurd h hw.2
  ·obtain⟨i,hi,h3⟩:=writer_waits g.I.lok h2
   obtain⟨k,hk,rfl⟩:=g.I.rng i (by rw[h3];decide)
   refine⟨k,hk,?_⟩
   have hp:=g.I.pos k hk
   rw[h3] at hp
   rcases step hP g.I hk with⟨_,_,h⟩|⟨h,_⟩
   ·rcases h with h|⟨_,h⟩|⟨h,_⟩
    ·rw[h] at hp;cases hp
    ·rw[h3] at h;cases h
    ·rw[h] at hp;cases hp
   ·exact h
  ·have:=((g.I.kok 0 hn).sl (.inr h)).1
   omega
 ·exact⟨0,hn,h⟩
def totTo (P:Par)(ph:Nat→Ph):Nat→Nat
 | 0=>0
 | m+1=>totTo P ph m+wgt P m (ph m)
theorem tot_upd (P:Par)(ph ph':Nat→Ph)(k:Nat)(h:∀ i,i≠k→ph' i=ph i)(m:Nat) :
  (k<m→totTo P ph' m+wgt P k (ph k)=totTo P ph m+wgt P k (ph' k))∧(m≤k→totTo P ph' m=totTo P ph m):=by
 induction m with
 | zero=>exact⟨fun h=>by omega,fun _=>rfl⟩
 | succ m ih =>
  simp only[totTo]
  by_cases e:m=k
  ·subst e
   have:=ih.2 (Nat.le_refl _)
   exact⟨fun _=>by omega,fun h=>by omega⟩
  ·rw[h m e]
   exact⟨fun hk=>by have:=ih.1 (by omega);omega,fun hk=>by have:=ih.2 (by omega);omega⟩
theorem win_picks {P:Par}(hP:P.Ok)(hlt:P.write<4){now:Int} : ∀ (L:List Nat),(∀ k∈L,k<P.n)→∀ (g:G P now),Win (g.ph 0) →
  ∃ g':G P now,g'.s=L.foldl Srv.pick g.s∧(¬ Win (g'.ph 0)∨totTo P g'.ph P.n+1≤totTo P g.ph P.n∨(g'=g∧∀ k∈L,g.s.can k=false)):=by
 intro L
 induction L with
 | nil=>intro _ g _;exact⟨g,rfl,.inr (.inr ⟨rfl,by simp⟩)⟩
 | cons k L ih =>
  intro hL g hw
  have hk:=hL k (by simp)
  obtain⟨g1,h1⟩:=pk hP g hk
  have keep:∀ g1:G P now,¬ Win (g1.ph 0)→∃ g':G P now,g'.s=L.foldl Srv.pick g1.s∧¬ Win (g'.ph 0):=by
   intro g1 h1
   refine picks_keep hP (fun g=>¬ Win (g.ph 0)) ?_ L (fun i hi=>hL i (by simp[hi])) g1 h1
   intro a b i hi ha hb
   rcases hb.2 with⟨_,rfl,_⟩|⟨_,h,t⟩
   ·exact ha
   ·by_cases e:i=0
    ·subst e
     intro hb'
     apply ha
     constructor
     ·intro e;rw[e] at t;generalize hq:b.ph 0=q at t hb';cases t;exact hb'.2 rfl
     ·intro e;rw[e] at t;cases t
    ·simp only[h 0 (fun e'=>e e'.symm)]
     exact ha
  by_cases hc:g.s.can k=true
  ·have hlow:=win_lower hP hlt hk hw hc h1
   have hoth:∀ i,i≠k→g1.ph i=g.ph i:=by
    rcases h1.2 with⟨h,_,_⟩|⟨_,h,_⟩
    ·rw[hc] at h;cases h
    ·exact h
   by_cases hw1:Win (g1.ph 0)
   ·have hlow':wgt P k (g1.ph k)+1≤wgt P k (g.ph k):=by
     rcases hlow with⟨_,h⟩|h
     ·exact absurd hw1 h
     ·exact h
    have htot:=(tot_upd P g.ph g1.ph k hoth P.n).1 hk
    obtain⟨g2,h2,h3⟩:=ih (fun i hi=>hL i (by simp[hi])) g1 hw1
    refine⟨g2,by rw[h2,h1.1];rfl,?_⟩
    rcases h3 with h|h|⟨rfl,_⟩
    ·exact .inl h
    ·exact .inr (.inl (by omega))
    ·exact .inr (.inl (by omega))
   ·obtain⟨g2,h2,h3⟩:=keep g1 hw1
    exact⟨g2,by rw[h2,h1.1];rfl,.inl h3⟩
  ·have hc':g.s.can k=false:=by simpa using hc
   have e1:g1=g:=by
    rcases h1.2 with⟨_,h,_⟩|⟨h,_,_⟩
    ·exact h
    ·rw[hc'] at h;cases h
   subst e1
   obtain⟨g2,h2,h3⟩:=ih (fun i hi=>hL i (by simp[hi])) g1 hw
   refine⟨g2,by rw[h2,List.foldl_cons,←h1.1],?_⟩
   rcases h3 with h|h|⟨rfl,h⟩
   ·exact .inl h
   ·exact .inr (.inl h)
   ·refine .inr (.inr ⟨rfl,fun i hi=>?_⟩)
    rcases List.mem_cons.1 hi with rfl|hi
    ·exact hc'
    ·exact h i hi
theorem nowin_pick {P:Par}{now:Int} : ∀ g g' k,k<P.n→¬ Win (G.ph (P:=P) (now:=now) g 0)→Pk P now g g' k→¬ Win (g'.ph 0):=by
 intro a b i hi ha hb
 rcases hb.2 with⟨_,rfl,_⟩|⟨_,h,t⟩
 ·exact ha
 ·by_cases e:i=0
  ·subst e
   intro hb'
   apply ha
   constructor
   ·intro e;rw[e] at t;generalize hq:b.ph 0=q at t hb';cases t;exact hb'.2 rfl
   ·intro e;rw[e] at t;cases t
  ·simp only[h 0 (fun e'=>e e'.symm)]
   exact ha
theorem keep_rounds {P:Par}(hP:P.Ok){now:Int}(C:G P now→Prop)(hC:∀ g g' k,k<P.n→C g→Pk P now g g' k→C g')(t:Nat)(g:G P now)(hg:C g) :
  ∃ g':G P now,g'.s=rounds g.s P.n t∧C g':=by
 induction t generalizing g with
 | zero=>exact⟨g,rfl,hg⟩
 | succ t ih =>
  obtain⟨g1,h1,h2⟩:=picks_keep hP C hC (List.range P.n) (by simp) g hg
  obtain⟨g2,h3,h4⟩:=ih g1 h2
  exact⟨g2,by rw[h3,h1];rfl,h4⟩
theorem win_rounds {P:Par}(hP:P.Ok)(hlt:P.write<4){now:Int}(t:Nat)(g:G P now) :
  ∃ g':G P now,g'.s=rounds g.s P.n t∧(¬ Win (g'.ph 0)∨totTo P g'.ph P.n+t≤totTo P g.ph P.n):=by
 induction t generalizing g with
 | zero=>exact⟨g,rfl,.inr (by omega)⟩
 | succ t ih =>
  by_cases hw:Win (g.ph 0)
  ·obtain⟨g1,h1,h2⟩:=win_picks hP hlt (List.range P.n) (by simp) g hw
   by_cases hw1:Win (g1.ph 0)
   ·obtain⟨g2,h3,h4⟩:=ih g1
    refine⟨g2,by rw[h3,h1];rfl,?_⟩
    rcases h2 with h2|h2|⟨rfl,h2⟩
    ·exact absurd hw1 h2
    ·rcases h4 with h4|h4
     ·exact .inl h4
     ·exact .inr (by omega)
    ·obtain⟨k,hk,hc⟩:=some_can hP g1 hw
     have:=h2 k (by simpa using hk)
     rw[hc] at this
     cases this
   ·obtain⟨g2,h3,h4⟩:=keep_rounds hP (fun g=>¬ Win (g.ph 0)) nowin_pick t g1 hw1
    exact⟨g2,by rw[h3,h1];rfl,.inl h4⟩
  ·obtain⟨g2,h3,h4⟩:=keep_rounds hP (fun g=>¬ Win (g.ph 0)) nowin_pick (t+1) g hw
   exact⟨g2,h3,.inl h4⟩
def bk (waits k:Nat):Nat:=if k=0 then 8 else if k≤waits then 5 else if k=waits+4 then 7 else 6
def bkTo (waits:Nat):Nat→Nat
 | 0=>0
 | m+1=>bkTo waits m+bk waits m
theorem bk_small:∀ waits:Fin 6,∀ n:Fin 12,n.val≤waits.val+5→bkTo waits.val n.val≤58:=by decide
theorem wgt_le {P:Par}(hP:P.Ok)(k:Nat)(hk:k<P.n)(p:Ph):wgt P k p≤bk P.waits k:=by
 unfold wgt bk
 by_cases h0:k=0
 ·rw[if_pos h0,if_pos h0]
  cases p<;>simp[wW]
  omega
 ·rw[if_neg h0,if_neg h0]
  by_cases hw:P.isW k
  ·rw[if_pos hw,if_pos hw.2]
   cases p<;>simp[wR]
  ·have hgt:¬ k≤P.waits:=fun h=>hw ⟨by omega,h⟩
   rw[if_neg hw,if_neg hgt]
   have hle:wA (isDelta P k) p≤6+isDelta P k:=by cases p<;>simp[wA]<;>omega
   have hd:isDelta P k≤1:=by unfold isDelta;split<;>omega
   by_cases h4:k=P.waits+4
   ·rw[if_pos h4]
    omega
   ·rw[if_neg h4]
    have:isDelta P k=0:=by
     unfold isDelta
     rw[if_neg]
     unfold Par.q ask
     rw[if_neg h0,if_pos (by omega)]
     have:=hP.hm
     have hm:k - P.waits=1∨k - P.waits=2∨k - P.waits=3:=by omega
     rcases hm with h|h|h<;>rw[h]<;>decide
    omega
theorem tot_le {P:Par}(hP:P.Ok)(ph:Nat→Ph):totTo P ph P.n≤58:=by
 have h:∀ m,m≤P.n→totTo P ph m≤bkTo P.waits m:=by
  intro m
  induction m with
  | zero=>intro _;exact Nat.le_refl _
  | succ m ih =>
   intro hm
   have:=ih (by omega)
   have:=wgt_le hP m (by omega) (ph m)
   simp only[totTo,bkTo]
   omega
 have hx:=hP.hx
 have hm:=hP.hm
 have:=bk_small ⟨P.waits,by omega⟩ ⟨P.n,by omega⟩ hm
 exact Nat.le_trans (h P.n (Nat.le_refl _)) this
theorem writer_done {P:Par}(hP:P.Ok)(hlt:P.write<4){now:Int}(g:G P now):∃ g':G P now,g'.s=rounds g.s P.n 60∧g'.ph 0 = .done:=by
 have hn:0<P.n:=by have:=hP.hn;omega
 obtain⟨g1,h1,h2⟩:=win_rounds hP hlt 58 g
 have hw:¬ Win (g1.ph 0):=by
  rcases h2 with h2|h2
  ·exact h2
  ·intro hw
   have htot:=tot_le hP g.ph
   have h0:totTo P g1.ph P.n=0:=by omega
   have hge:∀ m,0<m→wgt P 0 (g1.ph 0)≤totTo P g1.ph m:=by
    intro m
    induction m with
    | zero=>intro h;omega
    | succ m ih =>
     intro _
     simp only[totTo]
     rcases Nat.eq_zero_or_pos m with rfl|hm
     ·omega
     ·have:=ih hm;omega
   have:=hge P.n hn
   have hpos:0<wgt P 0 (g1.ph 0):=by
    have hk:=(g1.I.kok 0 hn).w0
    have hsl:=(g1.I.kok 0 hn).sl
    have hk0:=(g1.I.kok 0 hn).k0
    unfold wgt
    rw[if_pos rfl]
    obtain⟨w1,w2⟩:=hw
    have hne:¬ P.isW 0:=fun h=>by have:=h.1;omega
    generalize g1.ph 0=p at *
    cases p with
    | sleep=>exact absurd (hsl (.inl rfl)) hne
    | rest=>exact absurd (hsl (.inr rfl)) hne
    | read=>exact absurd rfl (hk0 rfl)
    | write i=>have:=(hk i rfl).2.2;simp[wW];omega
    | ans=>exact absurd rfl w1
    | done=>exact absurd rfl w2
    | _=>simp[wW]
   omega
 obtain⟨g2,h3,h4⟩:∃ g2:G P now,g2.s=rounds g1.s P.n 1∧g2.ph 0 = .done:=by
  obtain⟨ga,ha1,ha2⟩:=pk hP g1 hn
  have hd:ga.ph 0 = .done:=by
   have hcase:g1.ph 0 = .ans∨g1.ph 0 = .done:=by
    apply Classical.byContradiction
    intro h
    exact hw ⟨fun e=>h (.inl e),fun e=>h (.inr e)⟩
   rcases ha2 with⟨hc,rfl,hs⟩|⟨hc,_,t⟩
   ·rcases hcase with e|e
    ·rw[e] at hs
     rcases hs with h|⟨h,_⟩|⟨h,_⟩<;>cases h
    ·exact e
   ·rcases hcase with e|e
    ·rw[e] at t
     generalize hq:ga.ph 0=q at t
     cases t
     rfl
    ·rw[e] at t
     cases t
  obtain⟨gb,hb1,hb2⟩:=picks_keep hP (Post P now) post_keep ((List.range P.n).drop 1) (fun k hk=>by simpa using List.mem_of_mem_drop hk) ga hd
  refine⟨gb,?_,hb2⟩
  rw[hb1,ha1]
  show _=(List.range P.n).foldl Srv.pick g1.s
  obtain⟨m,hm⟩:∃ m,P.n=m+1:=⟨P.n - 1,by omega⟩
  rw[hm,List.range_succ_eq_map]
  rfl
 obtain⟨g3,h5,h6⟩:=keep_rounds hP (Post P now) post_keep 1 g2 h4
 refine⟨g3,?_,h6⟩
 rw[h5,h3,h1]
 rfl
theorem till_or (had n:Nat):∀ (m i:Nat) (s:Srv),answered (till s had n m i) had 0=true∨till s had n m i=(List.range m).foldl (fun s j=>s.pick ((i+j) % n)) s:=by
 intro m
 induction m with
 | zero=>intro i s;exact .inr rfl
 | succ m ih =>
  intro i s
  rw[till]
  by_cases h:answered s had 0=true
  ·rw[if_pos h]
   exact .inl h
  ·rw[if_neg h]
   rcases ih (i+1) (s.pick (i % n)) with h1|h1
   ·exact .inl h1
   ·right
    rw[h1,List.range_succ_eq_map,List.foldl_cons,List.foldl_map]
    congr 1
    funext s j
    congr 2
    omega
theorem till_picks (had n:Nat)(hn:0<n):∀ (m i:Nat) (s:Srv),∃ L:List Nat,(∀ k∈L,k<n)∧till s had n m i=L.foldl Srv.pick s:=by
 intro m
 induction m with
 | zero=>intro i s;exact⟨[],by simp,rfl⟩
 | succ m ih =>
  intro i s
  rw[till]
  split
  ·exact⟨[],by simp,rfl⟩
  ·obtain⟨L,h1,h2⟩:=ih (i+1) (s.pick (i % n))
   refine⟨i % n::L,fun k hk=>?_,by rw[h2];rfl⟩
   rcases List.mem_cons.1 hk with rfl|hk
   ·exact Nat.mod_lt _ hn
   ·exact h1 k hk
theorem fold_rounds (n:Nat)(hn:0<n):∀ (t:Nat) (s:Srv),(List.range (t*n)).foldl (fun s j=>s.pick ((0+j) % n)) s=rounds s n t:=by
 intro t
 induction t with
 | zero=>intro s;simp[rounds]
 | succ t ih =>
  intro s
  rw[Nat.succ_mul,Nat.add_comm,List.range_add,List.foldl_append,List.foldl_map]
  rw[rounds,←ih]
  have h1:(List.range n).foldl (fun s j=>s.pick ((0+j) % n)) s=(List.range n).foldl Srv.pick s:=by
   have:∀ (L:List Nat) (s:Srv),(∀ k∈L,k<n)→L.foldl (fun s j=>s.pick ((0+j) % n)) s=L.foldl Srv.pick s:=by
    intro L
    induction L with
    | nil=>intro s _;rfl
    | cons k L ih =>
     intro s h
     rw[List.foldl_cons,List.foldl_cons,Nat.zero_add,Nat.mod_eq_of_lt (h k (by simp)),ih _ (fun i hi=>h i (by simp[hi]))]
   exact this _ _ (by simp)
  rw[h1]
  congr 1
  funext s j
  congr 1
  rw[Nat.zero_add,Nat.zero_add,Nat.add_mod_left]
end Go.Proofs.YtjmkkcckfbnmeaaGreatDoor.M
