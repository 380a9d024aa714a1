/- Walks. -/
import Derived.Test.YtocppjcocnckmaaGreatDoorM23
import Derived.Test.YtocppjcocnckmaaGreatDoorM39
import Derived.Deep.QuietTactic
import Derived.Deep.Cut
import Derived.BigQuiet
set_option maxRecDepth 100000
set_option maxHeartbeats 8000000
set_option linter.all false
open Go.Lib (hid)
namespace Go.Proofs.YtocppjcocnckmaaGreatDoor
open Go.Proofs.Tryz
namespace Se
open Go.RowKit Fm Pk
def gM (s:Int)(q:M.Req)(vo:Value):List Value:=[.int .i64 1,.int .i64 s,.int .i64 q.kind,.int .i64 q.kind,.string q.aR,.string q.col,.string q.uid,.string q.au,.int .i64 q.ck,.int .i64 q.cv,vo,.int .i64 q.token,.int .i64 q.aD,.int .i64 q.bj,.int .i64 0]
def uj (W:World)(g:Nat)(q:M.Req)(v:Value):World:=(((((((((((W.setCell ⟨g,3,none⟩ (.int .i64 q.kind)).setCell ⟨g,4,none⟩ (.string q.aR)).setCell ⟨g,5,none⟩ (.string q.col)).setCell ⟨g,6,none⟩ (.string q.uid)).setCell ⟨g,7,none⟩ (.string q.au)).setCell ⟨g,8,none⟩ (.int .i64 q.ck)).setCell ⟨g,9,none⟩ (.int .i64 q.cv)).setCell ⟨g,10,none⟩ v).setCell ⟨g,11,none⟩ (.int .i64 q.token)).setCell ⟨g,12,none⟩ (.int .i64 q.aD)).setCell ⟨g,13,none⟩ (.int .i64 q.bj))
def Aw (W:World)(g:Nat)(s:Int)(q:M.Req)(v:Value):World:=(((((((((((((((W.setCell ⟨g,0,none⟩ (.int .i64 1)).setCell ⟨g,1,none⟩ (.int .i64 s)).setCell ⟨g,2,none⟩ (.int .i64 q.kind)).setCell ⟨g,3,none⟩ (.int .i64 q.kind)).setCell ⟨g,4,none⟩ (.string q.aR)).setCell ⟨g,5,none⟩ (.string q.col)).setCell ⟨g,6,none⟩ (.string q.uid)).setCell ⟨g,7,none⟩ (.string q.au)).setCell ⟨g,8,none⟩ (.int .i64 q.ck)).setCell ⟨g,9,none⟩ (.int .i64 q.cv)).setCell ⟨g,10,none⟩ v).setCell ⟨g,11,none⟩ (.int .i64 q.token)).setCell ⟨g,12,none⟩ (.int .i64 q.aD)).setCell ⟨g,13,none⟩ (.int .i64 q.bj)).setCell ⟨g,14,none⟩ (.int .i64 0))
theorem nB {W:World}{g t:Nat}{s:Int}{q:M.Req}{v:Value}(h:Holds W g t ([.int .i64 1,.int .i64 s,.int .i64 q.kind,.int .i64 0,.string ⟨#[]⟩,.string ⟨#[]⟩,.string ⟨#[]⟩,.string ⟨#[]⟩,.int .i64 0,.int .i64 0,.slice none 0 0,.int .i64 0,.int .i64 0,.int .i64 0,.int .i64 0]:List Value).toArray):Holds (uj W g q v) g t (gM s q v).toArray:=by
 have:=(((((((((((h.set 3 (.int .i64 q.kind)).set 4 (.string q.aR)).set 5 (.string q.col)).set 6 (.string q.uid)).set 7 (.string q.au)).set 8 (.int .i64 q.ck)).set 9 (.int .i64 q.cv)).set 10 v).set 11 (.int .i64 q.token)).set 12 (.int .i64 q.aD)).set 13 (.int .i64 q.bj))
 simpa[gM,uj] using this
theorem ui {W:World}{g t:Nat}{s:Int}{q:M.Req}{v:Value}(h:Holds W g t ([.int .i64 0,.int .i64 0,.int .i64 0,.int .i64 0,.string ⟨#[]⟩,.string ⟨#[]⟩,.string ⟨#[]⟩,.string ⟨#[]⟩,.int .i64 0,.int .i64 0,.slice none 0 0,.int .i64 0,.int .i64 0,.int .i64 0,.int .i64 0]:List Value).toArray):Holds (Aw W g s q v) g t (gM s q v).toArray:=by
 have:=(((((((((((((((h.set 0 (.int .i64 1)).set 1 (.int .i64 s)).set 2 (.int .i64 q.kind)).set 3 (.int .i64 q.kind)).set 4 (.string q.aR)).set 5 (.string q.col)).set 6 (.string q.uid)).set 7 (.string q.au)).set 8 (.int .i64 q.ck)).set 9 (.int .i64 q.cv)).set 10 v).set 11 (.int .i64 q.token)).set 12 (.int .i64 q.aD)).set 13 (.int .i64 q.bj)).set 14 (.int .i64 0))
 simpa[gM,Aw] using this
theorem vV {W:World}{g:Nat}{q:M.Req}{v:Value} : Fr [g] W (uj W g q v):=((((((((((((Fr.refl [g] W).setCell (p:=⟨g,3,none⟩) (by simp) _).setCell (p:=⟨g,4,none⟩) (by simp) _).setCell (p:=⟨g,5,none⟩) (by simp) _).setCell (p:=⟨g,6,none⟩) (by simp) _).setCell (p:=⟨g,7,none⟩) (by simp) _).setCell (p:=⟨g,8,none⟩) (by simp) _).setCell (p:=⟨g,9,none⟩) (by simp) _).setCell (p:=⟨g,10,none⟩) (by simp) _).setCell (p:=⟨g,11,none⟩) (by simp) _).setCell (p:=⟨g,12,none⟩) (by simp) _).setCell (p:=⟨g,13,none⟩) (by simp) _)
theorem C6 {W:World}{g:Nat}{s:Int}{q:M.Req}{v:Value} : Fr [g] W (Aw W g s q v):=((((((((((((((((Fr.refl [g] W).setCell (p:=⟨g,0,none⟩) (by simp) _).setCell (p:=⟨g,1,none⟩) (by simp) _).setCell (p:=⟨g,2,none⟩) (by simp) _).setCell (p:=⟨g,3,none⟩) (by simp) _).setCell (p:=⟨g,4,none⟩) (by simp) _).setCell (p:=⟨g,5,none⟩) (by simp) _).setCell (p:=⟨g,6,none⟩) (by simp) _).setCell (p:=⟨g,7,none⟩) (by simp) _).setCell (p:=⟨g,8,none⟩) (by simp) _).setCell (p:=⟨g,9,none⟩) (by simp) _).setCell (p:=⟨g,10,none⟩) (by simp) _).setCell (p:=⟨g,11,none⟩) (by simp) _).setCell (p:=⟨g,12,none⟩) (by simp) _).setCell (p:=⟨g,13,none⟩) (by simp) _).setCell (p:=⟨g,14,none⟩) (by simp) _)
theorem Am (W:World)(tmps:Array Value)(g:Nat)(s:Int)(q:M.Req)(v:Value)(hp:Holds W g 110 (gM s q v).toArray)(h2:tmps[2]?.getD undef = .pointer (some ⟨g,0,none⟩)) :
  (results f78 tmps).run prog W = .ok (.agg (gM s q v).toArray) W:=by
 have hr:f78.results=#[.cell 2 110]:=rfl
 obtain⟨q0,q1,q2,q3,q4,q5,q6,q7,q8,q9,q10,q11,q12,q13,q14⟩:=hp.BM
 simp[gM] at q0 q1 q2 q3 q4 q5 q6 q7 q8 q9 q10 q11 q12 q13 q14
 simp[results,h2,go_sem,gM,q0,q1,q2,q3,q4,q5,q6,q7,q8,q9,q10,q11,q12,q13,q14]
theorem rX {w W:World}{tmps:Array Value}{B se pi:Nat}{s room:Int}{q:M.Req}{v:Value}{tt rest:ByteArray}(hb:Holds W w.heap.size 110 #[.int .i64 0,.int .i64 0,.int .i64 0,.int .i64 0,.string ⟨#[]⟩,.string ⟨#[]⟩,.string ⟨#[]⟩,.string ⟨#[]⟩,.int .i64 0,.int .i64 0,.slice none 0 0,.int .i64 0,.int .i64 0,.int .i64 0,.int .i64 0])
  (hs:eO W se pi tt s) (hp:Pi.bw W pi room rest false) (ho:Ev.bD W B v q.ops) (hf:Fr [se,pi] w W) (hB:B<=w.heap.size) (hsl:se<w.heap.size) (hpl:pi<w.heap.size) (h2:tmps[2]?.getD undef = .pointer (some ⟨w.heap.size,0,none⟩)) :
  bodyPost prog f78 (λe w'=>∃ vo,e = .returned (.agg (gM s q vo).toArray)/\Ev.bD w' B vo q.ops/\eO w' se pi tt s/\Pi.bw w' pi room rest false/\Fr [se,pi] w w') Exit.ret ⟨tmps,[]⟩ (Aw W w.heap.size s q v):=by
 have f:Fr [w.heap.size] W (Aw W w.heap.size s q v):=C6
 exact bodyPost_ret (Am _ _ w.heap.size s q v (ui hb) h2) rfl ⟨v,rfl,ho.bf (FrX.aB (Ts:=[110]) f (by simpa using hB) (λy hy=>⟨110,by simp,by simp at hy;subst hy;exact hb.ty⟩)) (by decide),hs.fr f (by simp;omega),Holds.fr hp f (by simp;omega),hf.step f (λy hy=>.inr (by simp at hy;omega))⟩
theorem qS {q:M.Req}(l:List M.Req):(En.bytesOf ((q::l).flatMap En.bU)).extract 0 (Pi.gD (((En.bytesOf (En.dm q)).size:Int)+6) (En.bytesOf ((q::l).flatMap En.bU)))=En.bytesOf (En.bU q) /\
  (En.bytesOf ((q::l).flatMap En.bU)).extract (Pi.gD (((En.bytesOf (En.dm q)).size:Int)+6) (En.bytesOf ((q::l).flatMap En.bU))) (En.bytesOf ((q::l).flatMap En.bU)).size=En.bytesOf (l.flatMap En.bU):=by
 have hlen:(En.bU q).length=(En.bytesOf (En.dm q)).size+6:=En.dS _ _
 have ht:Pi.gD (((En.bytesOf (En.dm q)).size:Int)+6) (En.bytesOf ((q::l).flatMap En.bU))=(En.bU q).length:=by
  unfold Pi.gD
  rw[En.aK (((q::l).flatMap En.bU))]
  simp only[List.flatMap_cons,List.length_append]
  omega
 rw[ht]
 constructor
 ·apply ByteArray.ext
  apply Array.ext'
  simp[En.bytesOf,ByteArray.data_extract]
 apply ByteArray.ext
 apply Array.ext'
 simp[En.bytesOf,ByteArray.data_extract,ByteArray.size]
 exact List.take_of_length_le (by simp[List.length_flatMap])
theorem xe {q:M.Req}(h:M.bF q=true)(h1:q.kind=1):q.aR=Cr.tn:=by
 have hs:=(Rq.iy h).1
 revert h1
 generalize q.kind=k at *
 generalize q.aR=a at *
 generalize q.col=b at *
 generalize q.uid=c at *
 generalize q.au=d at *
 generalize q.ck=e at *
 generalize q.cv=f at *
 generalize q.ops.length=g at *
 generalize q.token=i at *
 generalize q.aD=j at *
 generalize q.bj=l at *
 intro h1
 cases hs<;>first|rfl|cases h1
theorem kJ (w:World)(B se pi:Nat)(seq room:Int)(bound:Bool)(q:M.Req)(l:List M.Req)(h:eO w se pi (Sv.jX bound) seq)(hp:Pi.bw w pi room (En.bytesOf ((q::l).flatMap En.bU)) false)(hq:∀ x,x∈q::l->M.bF x=true)(hl:l.length<=99)
  (hb:((q.kind==1) != bound)=true) (h0:0<=seq) (h1:seq<=1000) (hB:B<=w.heap.size) (hbs:B<=se) (hbp:B<=pi) (hG:Sh.Gl w) (hB4g:4<=B) :
  Calls prog 78 #[.pointer (some ⟨se,0,none⟩)] w λe w'=>∃ vo,e = .returned (.agg (gM (seq+1) q vo).toArray)/\Ev.bD w' B vo q.ops/\eO w' se pi (Sv.jX (bound||q.kind==1)) (seq+1)/\Pi.bw w' pi room (En.bytesOf (l.flatMap En.bU)) false/\Fr [se,pi] w w':=by
 have hqo:=hq q (by simp)
 have hsz:(En.bytesOf ((q::l).flatMap En.bU)).size<=100000:=by
  have:=mX hq
  rw[En.aK]
  simp only[List.length_cons] at this
  omega
 obtain⟨hk1,hk2⟩:=Rq.bd (Rq.iy hqo).1
 have hne:se≠pi:=h.ne hp (by decide)
 have hne':pi≠se:=Ne.symm hne
 have hsl:=h.lt
 have hpl:=Holds.lt hp
 have HT:=hid (qS (q:=q) l)
 obtain⟨body,hbody⟩:∃ body,body=En.bytesOf (En.dm q):=⟨_,rfl⟩
 have HBL:=hid (show body.data.toList=En.dm q by rw[hbody,En.cX])
 have hbl:body.size<=600:=by rw[hbody,En.aK];exact Nat.le_trans (jx hqo) (by decide)
 have hlk:∀ W,Fr [] w W->Calls prog 102 #[.pointer (some ⟨se,0,none⟩)] W λe w'=>e = .returned (.tuple #[.int .i64 1,.agg #[.int .i64 q.kind,.string body],.int .i64 ((body.size:Int)+6),.int .i64 0])/\Fr [] W w':=by
  intro W f
  rw[hbody]
  exact sj W se pi _ _ _ _ _ seq room (h.fr f (by simp)) (Holds.fr hp f (by simp)) hsz (oW hqo)
 rw[<-hbody] at HT
 obtain⟨s,hs⟩:∃ s,s=En.bytesOf ((q::l).flatMap En.bU):=⟨_,rfl⟩
 rw[<-hs] at HT hp hsz
 have HLk:=hid hlk
 have HS:=hid h
 have HP:=hid hp
 have HQ:=hid hqo
 have HBd:=hid hb
 have HG:=hid hG
 have kc:=λ(W:World)=>run_bytes_of_string (P:=prog) W 9 69 5 body underlying9 underlying69 underlying5
 have c2:=h.cell 2
 have c0:=h.cell 0
 have z2:=h.frozen 2
 simp at c2 c0
 clear h hp hlk hq hqo hb hbody hs hG
 go_enter func78,ntmps78
 go_wp2_with fail
 refine uu (HLk _ (rZ.alloc _)) λw1 f1=>?_
 have b1:=(Holds.new w 110 _).fr f1 (by simp)
 have F1:=hid (((Fr.refl [] w).alloc _).trans f1)
 have B1:=hid b1
 have hs1:=HS.fr F1 (by simp)
 have hp1:=Holds.fr HP F1 (by simp)
 have d0:=hs1.cell 0
 have d2:=hs1.cell 2
 have y2:=hs1.frozen 2
 have l1:=hs1.lt
 simp at d0 d2
 have S1:=hid hs1
 have P1:=hid hp1
 clear f1 b1 hs1 hp1 c0 c2 z2
 go_wp2_with fail
 obtain⟨W2,hW2⟩:∃ W2,W2=(((w1.setCell ⟨se,2,none⟩ (.int .i64 (seq+1))).alloc (.cells #[.int .i64 q.kind,.string body] 161)).alloc (.cells #[.int .i64 1,.int .i64 (seq+1),.int .i64 0,.int .i64 0,.string ⟨#[]⟩,.string ⟨#[]⟩,.string ⟨#[]⟩,.string ⟨#[]⟩,.int .i64 0,.int .i64 0,.slice none 0 0,.int .i64 0,.int .i64 0,.int .i64 0,.int .i64 0] 110)):=⟨_,rfl⟩
 have F2:=hid (show Fr [se] w W2 by rw[hW2];exact((((F1.mono (T:=[se]) (by simp)).setCell (p:=⟨se,2,none⟩) (by simp) _).alloc _).alloc _))
 have S2:=hid (show eO W2 se pi (Sv.jX bound) (seq+1) by rw[hW2];simpa[eO] using (((S1.set 2 (.int .i64 (seq+1))).alloc _).alloc _))
 have P2:=hid (show Pi.bw W2 pi room s false by rw[hW2];exact Holds.alloc (Holds.alloc (Holds.far P1 hne' _) _) _)
 have B2:=hid (show Holds W2 w.heap.size 110 _ by rw[hW2];exact((B1.far (Nat.ne_of_gt hsl) _).alloc _).alloc _)
 have FB2:=hid (show Holds W2 w1.heap.size 161 #[.int .i64 q.kind,.string body] by rw[hW2];exact(aE (by simp)).alloc _)
 have TB2:=hid (show Holds W2 (w1.heap.size+1) 110 _ by rw[hW2];exact aE (by simp))
 rw[<-hW2]
 have HTk:=hid (Pi.qT W2 pi room s false ((body.size:Int)+6) P2.out (by omega) _ _ HT.1 HT.2)
 have hws:=F1.size
 clear hW2 d0 d2 y2
 refine HTk.mono ?_
 rintro e w3 ⟨rfl,p3,f3⟩
 have hn3:∀ {g t:Nat} {cs:Array Value},Holds W2 g t cs->t≠145->g∉[pi]:=λhg ht hm=>by
  simp at hm
  exact(hg.ne P2.out ht) hm
 have S3:=hid (S2.fr f3 (hn3 S2 (by decide)))
 have B3:=hid (B2.fr f3 (hn3 B2 (by decide)))
 have FB3:=hid (FB2.fr f3 (hn3 FB2 (by decide)))
 have TB3:=hid (TB2.fr f3 (hn3 TB2 (by decide)))
 have F3:=hid (show Fr [se,pi] w w3 from (F2.mono (by simp)).trans (f3.mono (by simp)))
 have P3:=hid p3
 have x0:=FB3.cell 0
 have x1:=FB3.cell 1
 have y2:=TB3.cell 2
 have z2:=TB3.frozen 2
 have l1:=FB3.lt
 have l2:=TB3.lt
 simp at x0 x1 y2
 clear p3 f3
 go_wp2_with fail
 generalize hcap:grownCap (w3.setCell ⟨w1.heap.size+1,2,none⟩ (.int .i64 q.kind)) body.size 0 5=cap
 obtain⟨W4,hW4⟩:∃ W4,W4=((w3.setCell ⟨w1.heap.size+1,2,none⟩ (.int .i64 q.kind)).alloc (.cells (bytesRow body cap) 5 ((bytesRow body cap).size,(bytesRow body cap).size+1))).drew:=⟨_,rfl⟩
 have F4:=hid (show Fr [se,pi] w W4 by rw[hW4];exact((Ev.Fr.aw (p:=⟨w1.heap.size+1,2,none⟩) F3.out (show w.heap.size<=w1.heap.size+1 by omega) _).alloc _).drew)
 have S4:=hid (show eO W4 se pi (Sv.jX bound) (seq+1) by rw[hW4];exact((S3.far (S3.ne TB3.out (by decide)) _).alloc _).drew)
 have P4:=hid (show Pi.bw W4 pi room _ false by rw[hW4];exact Holds.drew (Holds.alloc (Holds.far P3 (Holds.ne P3.out TB3.out (by decide)) _) _))
 have B4:=hid (show Holds W4 w.heap.size 110 _ by rw[hW4];exact((B3.far (show w.heap.size≠w1.heap.size+1 by omega) _).alloc _).drew)
 have TB4:=hid (show Holds W4 (w1.heap.size+1) 110 _ by rw[hW4];exact((TB3.set 2 (.int .i64 q.kind)).alloc _).drew)
 have hbin:BIn W4 (.slice (some ⟨w3.heap.size,0,none⟩) body.size cap) (En.dm q):=by
  refine⟨_,_,_,rfl,?_,?_⟩
  ·rw[<-HBL];simp
  rw[<-HBL,hW4]
  have h:=jc (w3.setCell ⟨w1.heap.size+1,2,none⟩ (.int .i64 q.kind)) body cap ((bytesRow body cap).size,(bytesRow body cap).size+1)
  have h2:=h.fr ((Fr.refl [] _).drew) (by simp) (by simp)
  simpa using h2
 rw[<-hW4]
 have hB4:B<=W4.heap.size:=Nat.le_trans hB F4.size
 have HD:=hid (Rq.uX W4 B _ q HQ hbin (HG.fr F4 (λz hz=>by simp only[List.mem_cons,List.not_mem_nil,or_false] at hz;omega)) hB4)
 have hl4:=TB4.lt
 clear hbin hW4 hcap x0 x1 y2 z2
 refine HD.mono ?_
 rintro e w5 ⟨vo,rfl,ho5,f5⟩
 obtain⟨oa,oc,rfl⟩:=Own.form ho5
 have O5:=hid ho5
 have S5:=hid (S4.fr f5 (by simp))
 have P5:=hid (Holds.fr P4 f5 (by simp))
 have B5:=hid (B4.fr f5 (by simp))
 have TB5:=hid (TB4.fr f5 (by simp))
 have F5:=hid (F4.trans (f5.mono (by simp)))
 have hl5:=TB5.lt
 have g1:=S5.cell 1
 simp at g1
 clear ho5 f5
 simp only[Ev.rqc]
 go_wp2_with fail
 obtain⟨W6,hW6⟩:∃ W6,W6=w5.alloc (.cells #[.int .i64 q.kind,.string q.aR,.string q.col,.string q.uid,.string q.au,.int .i64 q.ck,.int .i64 q.cv,.slice oa q.ops.length oc,.int .i64 q.token,.int .i64 q.aD,.int .i64 q.bj] 37):=⟨_,rfl⟩
 have f6:Fr [] w5 W6:=by rw[hW6];exact rZ.alloc _
 have S6:=hid (S5.fr f6 (by simp))
 have P6:=hid (Holds.fr P5 f6 (by simp))
 have B6:=hid (B5.fr f6 (by simp))
 have TB6:=hid (TB5.fr f6 (by simp))
 have O6:=hid (Own.fr0 O5 f6)
 have F6:=hid (F5.trans (f6.mono (by simp)))
 have Q6:=hid (show Holds W6 w5.heap.size 37 (Ev.rqc q (.slice oa q.ops.length oc)).toArray by rw[hW6];exact Holds.new _ _ _)
 rw[<-hW6]
 clear hW6 g1 f6
 have m0:=Q6.cell 0
 have g1:=S6.cell 1
 simp[Ev.rqc] at m0
 simp at g1
 cases bound with
 | false =>
  have hk:q.kind=1:=by simpa using HBd.out
  have HTn:=hid (xe HQ hk)
  have hkb:(q.kind==1)=true:=by simpa using hk
  simp only[Sv.jX,Bool.false_eq_true,if_false] at g1
  clear hk
  go_quiet (fail)
  obtain⟨W7,hW7⟩:∃ W7,W7=W6.drewN nq:=⟨_,rfl⟩
  have f7:Fr [] W6 W7:=by rw[hW7];exact rZ.drewN _
  rw[<-hW7]
  have S7:=hid (S6.fr f7 (by simp))
  have P7:=hid (Holds.fr P6 f7 (by simp))
  have B7:=hid (B6.fr f7 (by simp))
  have TB7:=hid (TB6.fr f7 (by simp))
  have Q7:=hid (Q6.fr f7 (by simp))
  have O7:=hid (Own.fr0 O6 f7)
  have F7:=hid (F6.trans (f7.mono (by simp)))
  clear hW7 f7
  clear m0 g1
  have v0:=Q7.cell 0
  have v1:=Q7.cell 1
  have s1:=S7.cell 1
  have sz1:=S7.frozen 1
  simp[Ev.rqc] at v0 v1
  simp at s1
  have l3:=Q7.lt
  have l4:=TB7.lt
  have l5:=B7.lt
  have l6:=S7.lt
  go_upto_region 20 with fail
  obtain⟨W8,hW8⟩:∃ W8,W8=W7.setCell ⟨se,1,none⟩ (.string q.aR):=⟨_,rfl⟩
  have f8:Fr [se,pi] W7 W8:=by rw[hW8];exact rZ.setCell (by simp) _
  have hn8:∀ {g t:Nat} {cs:Array Value},Holds W7 g t cs->t≠184->Holds W8 g t cs:=λhg ht=>by rw[hW8];exact hg.far (hg.ne S7.out ht) _
  have S8:=hid (show eO W8 se pi (Sv.jX true) (seq+1) by rw[hW8];have:=S7.set 1 (.string q.aR);rw[HTn] at this ⊢;simpa[eO,Sv.jX] using this)
  have P8:=hid (show Pi.bw W8 pi room _ false from hn8 P7 (by decide))
  have B8:=hid (hn8 B7 (by decide))
  have TB8:=hid (hn8 TB7 (by decide))
  have Q8:=hid (hn8 Q7 (by decide))
  have O8:=hid (show Ev.bD W8 B (.slice oa q.ops.length oc) q.ops by rw[hW8];exact O7.bf (FrX.aB (Ts:=[184]) ((Fr.refl [se] _).setCell (by simp) _) (by simpa using hbs) (λy hy=>⟨184,by simp,by simp at hy;subst hy;exact S7.ty⟩)) (by decide))
  have F8:=hid (F7.trans f8)
  rw[<-hW8]
  clear hW8 f8 hn8
  clear v0 v1 s1 sz1 l3 l4 l5 l6
  obtain⟨v0,v1,v2,v3,v4,v5,v6,v7,v8,v9,v10⟩:=Q8.out.dW
  have u3:=TB8.out.cell 3
  have u4:=TB8.out.cell 4
  have u5:=TB8.out.cell 5
  have u6:=TB8.out.cell 6
  have u7:=TB8.out.cell 7
  have u8:=TB8.out.cell 8
  have u9:=TB8.out.cell 9
  have u10:=TB8.out.cell 10
  have u11:=TB8.out.cell 11
  have u12:=TB8.out.cell 12
  have u13:=TB8.out.cell 13
  have uz3:=TB8.out.frozen 3
  have uz4:=TB8.out.frozen 4
  have uz5:=TB8.out.frozen 5
  have uz6:=TB8.out.frozen 6
  have uz7:=TB8.out.frozen 7
  have uz8:=TB8.out.frozen 8
  have uz9:=TB8.out.frozen 9
  have uz10:=TB8.out.frozen 10
  have uz11:=TB8.out.frozen 11
  have uz12:=TB8.out.frozen 12
  have uz13:=TB8.out.frozen 13
  have l3:=Q8.out.lt
  have l4:=TB8.out.lt
  simp[Ev.rqc] at v0 v1 v2 v3 v4 v5 v6 v7 v8 v9 v10
  simp at u3 u4 u5 u6 u7 u8 u9 u10 u11 u12 u13
  go_upto_region 21 with fail
  obtain⟨W9,hW9⟩:∃ W9,W9=uj W8 (w1.heap.size+1) q (.slice oa q.ops.length oc):=⟨_,rfl⟩
  have f9:Fr [w1.heap.size+1] W8 W9:=by rw[hW9];exact vV
  have hn9:∀ {g t:Nat} {cs:Array Value},Holds W8 g t cs->t≠110->Holds W9 g t cs:=λhg ht=>hg.fr f9 (by simpa using hg.ne TB8.out ht)
  have S9:=hid (show eO W9 se pi _ (seq+1) from hn9 S8.out (by decide))
  have P9:=hid (show Pi.bw W9 pi room _ false from hn9 P8.out (by decide))
  have B9:=hid (B8.out.fr f9 (by simp;omega))
  have TB9:=hid (show Holds W9 (w1.heap.size+1) 110 (gM (seq+1) q (.slice oa q.ops.length oc)).toArray by rw[hW9];exact nB TB8.out)
  have O9:=hid (show Ev.bD W9 B (.slice oa q.ops.length oc) q.ops from O8.out.bf (FrX.aB (Ts:=[110]) f9 (by simp;omega) (λy hy=>⟨110,by simp,by simp at hy;subst hy;exact TB8.out.ty⟩)) (by decide))
  have F9:=hid (show Fr [se,pi] w W9 from F8.out.step f9 (λy hy=>.inr (by simp at hy;omega)))
  simp only[uj] at hW9
  rw[<-hW9]
  clear hW9 f9 hn9 l3 l4 v0 v1 v2 v3 v4 v5 v6 v7 v8 v9 v10 u3 uz3 u4 uz4 u5 uz5 u6 uz6 u7 uz7 u8 uz8 u9 uz9 u10 uz10 u11 uz11 u12 uz12 u13 uz13
  obtain⟨u0,u1,u2,u3,u4,u5,u6,u7,u8,u9,u10,u11,u12,u13,u14⟩:=TB9.BM
  obtain⟨r0,r1,r2,r3,r4,r5,r6,r7,r8,r9,r10,r11,r12,r13,r14⟩:=B9.BM
  obtain⟨rz0,rz1,rz2,rz3,rz4,rz5,rz6,rz7,rz8,rz9,rz10,rz11,rz12,rz13,rz14⟩:=B9.Gj
  have l4:=TB9.lt
  have l5:=B9.lt
  simp[gM] at u0 u1 u2 u3 u4 u5 u6 u7 u8 u9 u10 u11 u12 u13 u14
  simp at r0 r1 r2 r3 r4 r5 r6 r7 r8 r9 r10 r11 r12 r13 r14
  go_wp2_with fail
  exact rX B9 (by rw[hkb];exact S9) P9 O9 F9 hB hsl hpl rfl
 | true =>
  have hkb:(q.kind==1)=false:=by simpa using HBd.out
  have htn:Cr.tn.toList.isEmpty=false:=by decide +kernel
  simp only[Sv.jX,if_true] at g1
  go_quiet (fail)
  obtain⟨W7,hW7⟩:∃ W7,W7=W6.drewN nq:=⟨_,rfl⟩
  have f7:Fr [] W6 W7:=by rw[hW7];exact rZ.drewN _
  rw[<-hW7]
  have S7:=hid (S6.fr f7 (by simp))
  have P7:=hid (Holds.fr P6 f7 (by simp))
  have B7:=hid (B6.fr f7 (by simp))
  have TB7:=hid (TB6.fr f7 (by simp))
  have Q7:=hid (Q6.fr f7 (by simp))
  have O7:=hid (Own.fr0 O6 f7)
  have F7:=hid (F6.trans (f7.mono (by simp)))
  clear hW7 f7
  clear m0 g1
  have v0:=Q7.cell 0
  have v1:=Q7.cell 1
  have s1:=S7.cell 1
  have sz1:=S7.frozen 1
  simp[Ev.rqc] at v0 v1
  simp at s1
  have l3:=Q7.lt
  have l4:=TB7.lt
  have l5:=B7.lt
  have l6:=S7.lt
  go_upto_region 20 with fail
  obtain⟨W8,hW8⟩:∃ W8,W8=W7:=⟨_,rfl⟩
  subst hW8
  have S8:=S7
  have P8:=P7
  have B8:=B7
  have TB8:=TB7
  have Q8:=Q7
  have O8:=O7
  have F8:=F7
  clear v0 v1 s1 sz1 l3 l4 l5 l6
  obtain⟨v0,v1,v2,v3,v4,v5,v6,v7,v8,v9,v10⟩:=Q8.out.dW
  have u3:=TB8.out.cell 3
  have u4:=TB8.out.cell 4
  have u5:=TB8.out.cell 5
  have u6:=TB8.out.cell 6
  have u7:=TB8.out.cell 7
  have u8:=TB8.out.cell 8
  have u9:=TB8.out.cell 9
  have u10:=TB8.out.cell 10
  have u11:=TB8.out.cell 11
  have u12:=TB8.out.cell 12
  have u13:=TB8.out.cell 13
  have uz3:=TB8.out.frozen 3
  have uz4:=TB8.out.frozen 4
  have uz5:=TB8.out.frozen 5
  have uz6:=TB8.out.frozen 6
  have uz7:=TB8.out.frozen 7
  have uz8:=TB8.out.frozen 8
  have uz9:=TB8.out.frozen 9
  have uz10:=TB8.out.frozen 10
  have uz11:=TB8.out.frozen 11
  have uz12:=TB8.out.frozen 12
  have uz13:=TB8.out.frozen 13
  have l3:=Q8.out.lt
  have l4:=TB8.out.lt
  simp[Ev.rqc] at v0 v1 v2 v3 v4 v5 v6 v7 v8 v9 v10
  simp at u3 u4 u5 u6 u7 u8 u9 u10 u11 u12 u13
  go_upto_region 21 with fail
  obtain⟨W9,hW9⟩:∃ W9,W9=uj W8 (w1.heap.size+1) q (.slice oa q.ops.length oc):=⟨_,rfl⟩
  have f9:Fr [w1.heap.size+1] W8 W9:=by rw[hW9];exact vV
  have hn9:∀ {g t:Nat} {cs:Array Value},Holds W8 g t cs->t≠110->Holds W9 g t cs:=λhg ht=>hg.fr f9 (by simpa using hg.ne TB8.out ht)
  have S9:=hid (show eO W9 se pi _ (seq+1) from hn9 S8.out (by decide))
  have P9:=hid (show Pi.bw W9 pi room _ false from hn9 P8.out (by decide))
  have B9:=hid (B8.out.fr f9 (by simp;omega))
  have TB9:=hid (show Holds W9 (w1.heap.size+1) 110 (gM (seq+1) q (.slice oa q.ops.length oc)).toArray by rw[hW9];exact nB TB8.out)
  have O9:=hid (show Ev.bD W9 B (.slice oa q.ops.length oc) q.ops from O8.out.bf (FrX.aB (Ts:=[110]) f9 (by simp;omega) (λy hy=>⟨110,by simp,by simp at hy;subst hy;exact TB8.out.ty⟩)) (by decide))
  have F9:=hid (show Fr [se,pi] w W9 from F8.out.step f9 (λy hy=>.inr (by simp at hy;omega)))
  simp only[uj] at hW9
  rw[<-hW9]
  clear hW9 f9 hn9 l3 l4 v0 v1 v2 v3 v4 v5 v6 v7 v8 v9 v10 u3 uz3 u4 uz4 u5 uz5 u6 uz6 u7 uz7 u8 uz8 u9 uz9 u10 uz10 u11 uz11 u12 uz12 u13 uz13
  obtain⟨u0,u1,u2,u3,u4,u5,u6,u7,u8,u9,u10,u11,u12,u13,u14⟩:=TB9.BM
  obtain⟨r0,r1,r2,r3,r4,r5,r6,r7,r8,r9,r10,r11,r12,r13,r14⟩:=B9.BM
  obtain⟨rz0,rz1,rz2,rz3,rz4,rz5,rz6,rz7,rz8,rz9,rz10,rz11,rz12,rz13,rz14⟩:=B9.Gj
  have l4:=TB9.lt
  have l5:=B9.lt
  simp[gM] at u0 u1 u2 u3 u4 u5 u6 u7 u8 u9 u10 u11 u12 u13 u14
  simp at r0 r1 r2 r3 r4 r5 r6 r7 r8 r9 r10 r11 r12 r13 r14
  go_wp2_with fail
  exact rX B9 S9 P9 O9 F9 hB hsl hpl rfl
end Se
namespace Pr
open Go.RowKit Fm Pk
def rcl (a:M.aU):List Value:=(rc0 a).toList
theorem C5 (a:M.aU):∀ u∈rcl a,u.oneCell'=true:=by
 intro u hu
 simp only[rcl,rc0,List.mem_cons,List.not_mem_nil,or_false] at hu
 rcases hu with rfl|rfl|rfl|rfl|rfl|rfl|rfl|rfl<;>rfl
theorem Gc:(prog.info? 55).map (λi=>(i.zero,i.size,i.bytes))=some (some (.agg #[.int .i64 0,.int .i64 0,.int .i64 0,.int .i64 0,.string ByteArray.empty,.int .i64 0,.bool false,.slice none 0 0]),8,88):=by kernel_rfl
def Em (v:Value):Nat:=match v with|.string s=>s.size|_=>0
theorem rB {a:M.aU}(ok:Sm a/\a.items=[]):(En.eu a).length<=400:=by rw[uf ok.2 ok.1];exact Nat.le_trans (pL a ok.1.c1) (by decide)
theorem ru {a:M.aU}(ok:Sm a/\a.items=[]):(En.bE a).length<=406/\6<=(En.bE a).length:=by
 have:=rB ok
 rw[show En.bE a=En.jy (128+a.kind) (En.bytesOf (En.eu a)) from rfl,En.dS,En.aK]
 omega
theorem xo {l:List M.aU}(h:∀ a∈l,Sm a/\a.items=[]):(l.flatMap En.bE).length<=406*l.length:=by
 induction l with
 | nil=>simp
 | cons a l ih =>
  have h1:=(ru (h a (by simp))).1
  have h2:=ih λx hx=>h x (by simp[hx])
  simp only[List.flatMap_cons,List.length_append,List.length_cons]
  omega
theorem vF (a b:List UInt8):(En.bytesOf (a++b)).extract a.length (En.bytesOf (a++b)).size=En.bytesOf b:=by
 apply Ct.gC
 rw[Ct.bJ,En.cX,En.cX,En.aK,List.take_of_length_le (Nat.le_refl _),List.drop_left]
theorem rP {α:Type}{f:α->List Value}{T sz:Nat}{w0 W W' w7:World}{Z:Nat}{L:List α}{o v7:Value}{x:α}{news:List Value}{own7:Option Nat}(h0:w0.heap.size=Z)(f0:Fr [] w0 W)(hown:Own W Z T sz o L.length (flat f L))(f1:Fr [] W W')(hn:news=f x)
  (hs:Sl w7 T sz v7 (L.length+1) (flat f L++news) own7) (hf:Fr (ay o).toList W' w7) (ho:own7=ay o∨∃ g,own7=some g/\W'.heap.size<=g) (hm:0<1->∃ g,own7=some g) :
  Own w7 Z T sz v7 (L++[x]).length (flat f (L++[x]))/\Fr [] w0 w7:=by
 have hB:Z<=W'.heap.size:=by rw[<-h0];exact(f0.trans f1).size
 have hown':=Own.fr0 hown f1
 have hb:∀ y,y∈(ay o).toList->cB W' y=some T/\Z<=y:=λy hy=>hown'.ty (by simpa using hy)
 obtain⟨oo,-⟩:=bn (B:=Z) hB (λg hg=>(hown'.ty hg).2) hs ho (hm (by omega))
 have e:flat f (L++[x])=flat f L++f x:=by rw[aP,bS]
 exact⟨by rw[e,<-hn];simpa using oo,(f0.trans f1).step hf (λy hy=>.inr (by rw[h0];exact(hb y hy).2))⟩
theorem td (w:World)(l:List M.aU)(hok:∀ a∈l,Sm a/\a.items=[])(hl:l.length<=20) :
  Calls prog 11 #[.string (En.bytesOf (l.flatMap En.bE))] w λe w'=>∃ v,e = .returned (.tuple #[v,.bool true])/\Own w' w.heap.size 55 8 v l.length (flat rcl l)/\Fr [] w w':=by
 obtain⟨i3,hi,hz0,hz1,hz2⟩:=info_parts Gc
 obtain⟨Z,hZ⟩:∃ Z,w.heap.size=Z:=⟨_,rfl⟩
 have HZ:=hid hZ
 have HOK:=hid hok
 rw[hZ]
 obtain⟨S0,hS0⟩:∃ S0,En.bytesOf (l.flatMap En.bE)=S0:=⟨_,rfl⟩
 have HS0:=hid hS0
 rw[hS0]
 clear hok hS0
 go_enter func11,ntmps11
 go_wp2_with fail
 go_loopw [0,4] (λs o wr=>∃ (dn rest:List M.aU),dn++rest=l/\s = .string (En.bytesOf (rest.flatMap En.bE))/\Own wr Z 55 8 o dn.length (flat rcl dn)/\Fr [] w wr) (λs _ _=>Em s)
 case atStart=>exact⟨[],l,rfl,by rw[HS0],Own.nil _ _ _ _,rZ⟩
 obtain⟨dn,rest,hdr,rfl,own',fr⟩:=hrel
 cases rest with
 | nil =>
  have e0:En.bytesOf (([]:List M.aU).flatMap En.bE)=⟨#[]⟩:=rfl
  rw[e0]
  have HD:=hid (And.intro hdr (And.intro own' fr))
  clear hdr own' fr e0
  go_wp2_with fail
  go_ret2
  obtain⟨h1,h2,h3⟩:=HD.out
  rw[List.append_nil] at h1
  subst h1
  exact⟨_,rfl,h2,h3⟩
 | cons a rest =>
  have hal:a∈l:=by rw[<-hdr];simp
  obtain⟨ok,hit⟩:=HOK.out a hal
  have hlen:dn.length+rest.length+1=l.length:=by rw[<-hdr];simp;omega
  have hrl:=xo (l:=rest) λx hx=>HOK x (by rw[<-hdr];simp[hx])
  have hal2:=ru ⟨ok,hit⟩
  have e1:(a::rest).flatMap En.bE=En.bE a++rest.flatMap En.bE:=by simp
  rw[e1]
  have HN:=hid (λW=>tQ W (En.bE a++rest.flatMap En.bE) (by rw[List.length_append];omega))
  have hbk:=En.back (128+a.kind) (En.bytesOf (En.eu a)) (rest.flatMap En.bE) (by have:=ok.k0;omega) (by have:=ok.k1;omega) (by rw[En.aK];have:=rB ⟨ok,hit⟩;omega)
  rw[show En.jy (128+a.kind) (En.bytesOf (En.eu a))=En.bE a from rfl] at hbk
  rw[hbk] at HN
  have hfl:(En.bE a).length=(En.bytesOf (En.eu a)).size+6:=by
   rw[show En.bE a=En.jy (128+a.kind) (En.bytesOf (En.eu a)) from rfl,En.dS]
  have hEX:=hid (vF (En.bE a) (rest.flatMap En.bE))
  rw[hfl] at hEX
  have hsz:(En.bytesOf (En.bE a++rest.flatMap En.bE)).size=(En.bytesOf (En.eu a)).size+6+(rest.flatMap En.bE).length:=by rw[En.aK,List.length_append,hfl]
  have hrb:(r0B a).length=(En.bytesOf (En.eu a)).size:=by rw[En.aK,uf hit ok]
  have hbs:(En.bytesOf (En.eu a)).data.toList=r0B a:=by rw[En.cX,uf hit ok]
  obtain⟨body,hbody⟩:∃ body,En.bytesOf (En.eu a)=body:=⟨_,rfl⟩
  obtain⟨S,hS⟩:∃ S,En.bytesOf (En.bE a++rest.flatMap En.bE)=S:=⟨_,rfl⟩
  have hS':(⟨(En.bE a++rest.flatMap En.bE).toArray⟩:ByteArray)=S:=hS
  rw[hbody] at HN hEX hsz hrb hbs
  rw[hS] at hEX hsz ⊢
  rw[hS'] at HN
  simp only[lo] at HN
  have kc:=λ(W:World)=>run_bytes_of_string (P:=prog) W 9 69 5 body underlying9 underlying69 underlying5
  obtain⟨R,hR⟩:∃ R,(rest.flatMap En.bE).length=R:=⟨_,rfl⟩
  rw[hR] at hsz hrl
  have hszp:(0:Int)<(S.size:Int):=by omega
  have hb6:body.size+6<=S.size:=by omega
  have HDR:=hid (And.intro hdr (And.intro hrb hbs))
  have HOw:=hid own'
  have HF:=hid fr
  have HOKa:=hid ok
  have hk0:=ok.k0
  have HSZ:=hid hsz
  clear own' fr hdr hbk hfl hS hS' hbody e1 hal hit ok hrb hbs hR hsz hrl hal2
  obtain⟨ao,co,rfl⟩:=Own.form HOw
  go_wp2_with fail
  refine uu (HN _) λw1 f1=>?_
  have HF1:=hid (HF.trans f1)
  have HOw1:=hid (Own.fr0 HOw f1)
  clear HF HOw f1 HN
  go_wp2_with fail
  generalize hcap:grownCap (w1.alloc (.cells #[.int .i64 (128+a.kind),.string body] 74)) body.size 0 5=cap
  have hge:body.size<=cap:=by rw[<-hcap];exact grownCap_ge _ _ _ _
  obtain⟨W1,hW1⟩:∃ W1,W1=((w1.alloc (.cells #[.int .i64 (128+a.kind),.string body] 74)).alloc (.cells (bytesRow body cap) 5 ((bytesRow body cap).size,(bytesRow body cap).size+1))).drew:=⟨_,rfl⟩
  have f1:Fr [] w1 W1:=by rw[hW1];exact((rZ.alloc _).alloc _).drew
  have hby:Cells W1 (some ⟨w1.heap.size+1,0,none⟩) (bc (r0B a)):=by
   have h0:=(Se.jc (w1.alloc (.cells #[.int .i64 (128+a.kind),.string body] 74)) body cap ((bytesRow body cap).size,(bytesRow body cap).size+1)).fr ((Fr.refl [] _).drew) (by simp) (by simp)
   rw[<-hW1,HDR.2.2] at h0
   simpa using h0.cells
  rw[<-hW1]
  have HDC:=hid (CZ W1 a HOKa _ body.size cap HDR.2.1 hge hby)
  have HF2:=hid (HF1.trans f1)
  have HOw2:=hid (Own.fr0 HOw1 f1)
  clear hW1 hby hcap hge f1 HF1 HOw1 kc
  refine uu HDC λw2 f2=>?_
  have HF3:=hid (HF2.trans f2)
  have HOw3:=hid (Own.fr0 HOw2 f2)
  clear HF2 HOw2 f2 HDC
  have hd20:dn.length+1<=20:=by omega
  go_wp2_with (at_builtin;(refine af rfl (.tmp 36) (.tmp 38) 64 rfl i3 _ 88 underlying64 hi hz0 hz1 hz2 rfl (by decide) (.slice ao dn.length co) (ay (.slice ao dn.length co)) rfl (Own.fr0 HOw3 ((rZ.alloc _).alloc _)).sl _ 1 1 _ rfl (by rfl) (Fm.Cells.bO (aE (by simp))) (λu hu=>C5 a u (by simpa[rcl] using hu)) (by unfold maxLen;omega) (by omega) ?_;intro v7 w7 own7 hs7 hf7 ho7 hm7;have P:=rP (f:=rcl) (x:=a) HZ HF3 HOw3 ((rZ.alloc _).alloc _) rfl hs7 hf7 ho7 hm7;have PH:=hid P;clear hs7 hf7 ho7 hm7 P))
  go_roundw
  case rel =>
   refine⟨dn++[a],rest,by rw[<-HDR.1];simp,?_,PH.1,PH.2⟩
   rw[<-hEX]
  have:=HSZ.out
  simp[Em]
  omega
end Pr
