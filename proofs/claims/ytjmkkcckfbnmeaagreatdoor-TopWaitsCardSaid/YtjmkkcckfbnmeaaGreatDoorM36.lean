/- Texts SessB, RAns, REncA1, REncA2, REncA3. -/
import Derived.Test.YtjmkkcckfbnmeaaGreatDoorM18
import Derived.Test.YtjmkkcckfbnmeaaGreatDoorM21
import Derived.Test.YtjmkkcckfbnmeaaGreatDoorM35
import Derived.Test.YtjmkkcckfbnmeaaGreatDoorM51
import Derived.Deep.QuietTactic
import Derived.Deep.Cut
import Derived.BigQuiet
set_option maxRecDepth 100000
set_option maxHeartbeats 8000000
set_option linter.all false
open Go.Lib (hid)
namespace Go.Proofs.YtjmkkcckfbnmeaaGreatDoor.Se
open Go.RowKit Fm Pk
def turnC (s:Int)(q:M.Req)(vo:Value):List Value:=[.int .i64 1,.int .i64 s,.int .i64 q.kind,.int .i64 q.kind,.string q.tenant,.string q.col,.string q.uid,.string q.card,.int .i64 q.ck,.int .i64 q.cv,vo,.int .i64 q.token,.int .i64 q.most,.int .i64 q.ticks,.int .i64 0]
def putQ (W:World)(g:Nat)(q:M.Req)(v:Value):World:=(((((((((((W.setCell ⟨g,3,none⟩ (.int .i64 q.kind)).setCell ⟨g,4,none⟩ (.string q.tenant)).setCell ⟨g,5,none⟩ (.string q.col)).setCell ⟨g,6,none⟩ (.string q.uid)).setCell ⟨g,7,none⟩ (.string q.card)).setCell ⟨g,8,none⟩ (.int .i64 q.ck)).setCell ⟨g,9,none⟩ (.int .i64 q.cv)).setCell ⟨g,10,none⟩ v).setCell ⟨g,11,none⟩ (.int .i64 q.token)).setCell ⟨g,12,none⟩ (.int .i64 q.most)).setCell ⟨g,13,none⟩ (.int .i64 q.ticks))
def putT (W:World)(g:Nat)(s:Int)(q:M.Req)(v:Value):World:=(((((((((((((((W.setCell ⟨g,0,none⟩ (.int .i64 1)).setCell ⟨g,1,none⟩ (.int .i64 s)).setCell ⟨g,2,none⟩ (.int .i64 q.kind)).setCell ⟨g,3,none⟩ (.int .i64 q.kind)).setCell ⟨g,4,none⟩ (.string q.tenant)).setCell ⟨g,5,none⟩ (.string q.col)).setCell ⟨g,6,none⟩ (.string q.uid)).setCell ⟨g,7,none⟩ (.string q.card)).setCell ⟨g,8,none⟩ (.int .i64 q.ck)).setCell ⟨g,9,none⟩ (.int .i64 q.cv)).setCell ⟨g,10,none⟩ v).setCell ⟨g,11,none⟩ (.int .i64 q.token)).setCell ⟨g,12,none⟩ (.int .i64 q.most)).setCell ⟨g,13,none⟩ (.int .i64 q.ticks)).setCell ⟨g,14,none⟩ (.int .i64 0))
theorem putQ_holds {W:World}{g t:Nat}{s:Int}{q:M.Req}{v:Value}(h:Holds W g t ([.int .i64 1,.int .i64 s,.int .i64 q.kind,.int .i64 0,.string ⟨#[]⟩,.string ⟨#[]⟩,.string ⟨#[]⟩,.string ⟨#[]⟩,.int .i64 0,.int .i64 0,.slice none 0 0,.int .i64 0,.int .i64 0,.int .i64 0,.int .i64 0]:List Value).toArray):Holds (putQ W g q v) g t (turnC s q v).toArray:=by
 have:=(((((((((((h.set 3 (.int .i64 q.kind)).set 4 (.string q.tenant)).set 5 (.string q.col)).set 6 (.string q.uid)).set 7 (.string q.card)).set 8 (.int .i64 q.ck)).set 9 (.int .i64 q.cv)).set 10 v).set 11 (.int .i64 q.token)).set 12 (.int .i64 q.most)).set 13 (.int .i64 q.ticks))
 simpa[turnC,putQ] using this
theorem putT_holds {W:World}{g t:Nat}{s:Int}{q:M.Req}{v:Value}(h:Holds W g t ([.int .i64 0,.int .i64 0,.int .i64 0,.int .i64 0,.string ⟨#[]⟩,.string ⟨#[]⟩,.string ⟨#[]⟩,.string ⟨#[]⟩,.int .i64 0,.int .i64 0,.slice none 0 0,.int .i64 0,.int .i64 0,.int .i64 0,.int .i64 0]:List Value).toArray):Holds (putT W g s q v) g t (turnC s q v).toArray:=by
 have:=(((((((((((((((h.set 0 (.int .i64 1)).set 1 (.int .i64 s)).set 2 (.int .i64 q.kind)).set 3 (.int .i64 q.kind)).set 4 (.string q.tenant)).set 5 (.string q.col)).set 6 (.string q.uid)).set 7 (.string q.card)).set 8 (.int .i64 q.ck)).set 9 (.int .i64 q.cv)).set 10 v).set 11 (.int .i64 q.token)).set 12 (.int .i64 q.most)).set 13 (.int .i64 q.ticks)).set 14 (.int .i64 0))
 simpa[turnC,putT] using this
theorem putQ_fr {W:World}{g:Nat}{q:M.Req}{v:Value} : Fr [g] W (putQ W g q v):=((((((((((((Fr.refl [g] W).setCell (p:=⟨g,3,none⟩) (by simp) _).setCell (p:=⟨g,4,none⟩) (by simp) _).setCell (p:=⟨g,5,none⟩) (by simp) _).setCell (p:=⟨g,6,none⟩) (by simp) _).setCell (p:=⟨g,7,none⟩) (by simp) _).setCell (p:=⟨g,8,none⟩) (by simp) _).setCell (p:=⟨g,9,none⟩) (by simp) _).setCell (p:=⟨g,10,none⟩) (by simp) _).setCell (p:=⟨g,11,none⟩) (by simp) _).setCell (p:=⟨g,12,none⟩) (by simp) _).setCell (p:=⟨g,13,none⟩) (by simp) _)
theorem putT_fr {W:World}{g:Nat}{s:Int}{q:M.Req}{v:Value} : Fr [g] W (putT W g s q v):=((((((((((((((((Fr.refl [g] W).setCell (p:=⟨g,0,none⟩) (by simp) _).setCell (p:=⟨g,1,none⟩) (by simp) _).setCell (p:=⟨g,2,none⟩) (by simp) _).setCell (p:=⟨g,3,none⟩) (by simp) _).setCell (p:=⟨g,4,none⟩) (by simp) _).setCell (p:=⟨g,5,none⟩) (by simp) _).setCell (p:=⟨g,6,none⟩) (by simp) _).setCell (p:=⟨g,7,none⟩) (by simp) _).setCell (p:=⟨g,8,none⟩) (by simp) _).setCell (p:=⟨g,9,none⟩) (by simp) _).setCell (p:=⟨g,10,none⟩) (by simp) _).setCell (p:=⟨g,11,none⟩) (by simp) _).setCell (p:=⟨g,12,none⟩) (by simp) _).setCell (p:=⟨g,13,none⟩) (by simp) _).setCell (p:=⟨g,14,none⟩) (by simp) _)
theorem ret_next (W:World)(tmps:Array Value)(g:Nat)(s:Int)(q:M.Req)(v:Value)(hp:Holds W g 83 (turnC s q v).toArray)(h2:tmps[2]?.getD undef = .pointer (some ⟨g,0,none⟩)) :
  (results Tryz.f62 tmps).run Tryz.prog W = .ok (.agg (turnC s q v).toArray) W:=by
 have hr:Tryz.f62.results=#[.cell 2 83]:=rfl
 obtain⟨q0,q1,q2,q3,q4,q5,q6,q7,q8,q9,q10,q11,q12,q13,q14⟩:=hp.cs15
 simp[turnC] at q0 q1 q2 q3 q4 q5 q6 q7 q8 q9 q10 q11 q12 q13 q14
 simp[results,h2,go_sem,turnC,q0,q1,q2,q3,q4,q5,q6,q7,q8,q9,q10,q11,q12,q13,q14]
theorem next_end {w W:World}{tmps:Array Value}{B se pi:Nat}{s room:Int}{q:M.Req}{v:Value}{tt rest:ByteArray}(hb:Holds W w.heap.size 83 #[.int .i64 0,.int .i64 0,.int .i64 0,.int .i64 0,.string ⟨#[]⟩,.string ⟨#[]⟩,.string ⟨#[]⟩,.string ⟨#[]⟩,.int .i64 0,.int .i64 0,.slice none 0 0,.int .i64 0,.int .i64 0,.int .i64 0,.int .i64 0])
  (hs:SeAt W se pi tt s) (hp:Pi.PipeAt W pi room rest false) (ho:Ev.OpsAt W B v q.ops) (hf:Fr [se,pi] w W) (hB:B≤w.heap.size) (hsl:se<w.heap.size) (hpl:pi<w.heap.size) (h2:tmps[2]?.getD undef = .pointer (some ⟨w.heap.size,0,none⟩)) :
  bodyPost Tryz.prog Tryz.f62 (fun e w'=>∃ vo,e = .returned (.agg (turnC s q vo).toArray)∧Ev.OpsAt w' B vo q.ops∧SeAt w' se pi tt s∧Pi.PipeAt w' pi room rest false∧Fr [se,pi] w w') Exit.ret ⟨tmps,[]⟩ (putT W w.heap.size s q v):=by
 have f:Fr [w.heap.size] W (putT W w.heap.size s q v):=putT_fr
 exact bodyPost_ret (ret_next _ _ w.heap.size s q v (putT_holds hb) h2) rfl ⟨v,rfl,ho.frx0 (FrX.of_frT (Ts:=[83]) f (by simpa using hB) (fun y hy=>⟨83,by simp,by simp at hy;subst hy;exact hb.ty⟩)) (by decide),hs.fr f (by simp;omega),Holds.fr hp f (by simp;omega),hf.step f (fun y hy=>.inr (by simp at hy;omega))⟩
theorem takes_frame {q:M.Req}(l:List M.Req):(En.bytesOf ((q::l).flatMap En.reqF)).extract 0 (Pi.takes (((En.bytesOf (En.reqB q)).size:Int)+6) (En.bytesOf ((q::l).flatMap En.reqF)))=En.bytesOf (En.reqF q) ∧
  (En.bytesOf ((q::l).flatMap En.reqF)).extract (Pi.takes (((En.bytesOf (En.reqB q)).size:Int)+6) (En.bytesOf ((q::l).flatMap En.reqF))) (En.bytesOf ((q::l).flatMap En.reqF)).size=En.bytesOf (l.flatMap En.reqF):=by
 have hlen:(En.reqF q).length=(En.bytesOf (En.reqB q)).size+6:=En.putL_length _ _
 have ht:Pi.takes (((En.bytesOf (En.reqB q)).size:Int)+6) (En.bytesOf ((q::l).flatMap En.reqF))=(En.reqF q).length:=by
  unfold Pi.takes
  rw[En.bytesOf_size (((q::l).flatMap En.reqF))]
  simp only[List.flatMap_cons,List.length_append]
  omega
 rw[ht]
 constructor
 ·apply ByteArray.ext
  apply Array.ext'
  simp[En.bytesOf,ByteArray.data_extract]
 ·apply ByteArray.ext
  apply Array.ext'
  simp[En.bytesOf,ByteArray.data_extract,ByteArray.size]
  exact List.take_of_length_le (by simp[List.length_flatMap])
theorem sh_tenant {q:M.Req}(h:M.reqOk q=true)(h1:q.kind=1):q.tenant=Cr.tn:=by
 have hs:=(Rq.sh_of h).1
 revert h1
 generalize q.kind=k at *
 generalize q.tenant=a at *
 generalize q.col=b at *
 generalize q.uid=c at *
 generalize q.card=d at *
 generalize q.ck=e at *
 generalize q.cv=f at *
 generalize q.ops.length=g at *
 generalize q.token=i at *
 generalize q.most=j at *
 generalize q.ticks=l at *
 intro h1
 cases hs<;>first|rfl|cases h1
theorem next_any (w:World)(B se pi:Nat)(seq room:Int)(bound:Bool)(q:M.Req)(l:List M.Req)(h:SeAt w se pi (Sv.tnOf bound) seq)(hp:Pi.PipeAt w pi room (En.bytesOf ((q::l).flatMap En.reqF)) false)(hq:∀ x,x∈q::l→M.reqOk x=true)(hl:l.length≤99)
  (hb:((q.kind==1) != bound)=true) (h0:0≤seq) (h1:seq≤1000) (hB:B≤w.heap.size) (hbs:B≤se) (hbp:B≤pi) :
  Calls Tryz.prog 62 #[.pointer (some ⟨se,0,none⟩)] w fun e w'=>∃ vo,e = .returned (.agg (turnC (seq+1) q vo).toArray)∧Ev.OpsAt w' B vo q.ops∧SeAt w' se pi (Sv.tnOf (bound||q.kind==1)) (seq+1)∧Pi.PipeAt w' pi room (En.bytesOf (l.flatMap En.reqF)) false∧Fr [se,pi] w w':=by
 have hqo:=hq q (by simp)
 have hsz:(En.bytesOf ((q::l).flatMap En.reqF)).size≤100000:=by
  have:=todo_len hq
  rw[En.bytesOf_size]
  simp only[List.length_cons] at this
  omega
 obtain⟨hk1,hk2⟩:=Rq.sh_kind (Rq.sh_of hqo).1
 have hne:se≠pi:=h.ne hp (by decide)
 have hne':pi≠se:=Ne.symm hne
 have hsl:=h.lt
 have hpl:=Holds.lt hp
 have HT:=hid (takes_frame (q:=q) l)
 obtain⟨body,hbody⟩:∃ body,body=En.bytesOf (En.reqB q):=⟨_,rfl⟩
 have HBL:=hid (show body.data.toList=En.reqB q by rw[hbody,En.bytesOf_list])
 have hbl:body.size≤600:=by rw[hbody,En.bytesOf_size];exact reqB_len hqo
 have hlk:∀ W,Fr [] w W→Calls Tryz.prog 59 #[.pointer (some ⟨se,0,none⟩)] W fun e w'=>e = .returned (.tuple #[.int .i64 1,.agg #[.int .i64 q.kind,.string body],.int .i64 ((body.size:Int)+6),.int .i64 0])∧Fr [] W w':=by
  intro W f
  rw[hbody]
  exact look_yes W se pi _ _ _ _ _ seq room (h.fr f (by simp)) (Holds.fr hp f (by simp)) hsz (next_todo hqo)
 rw[←hbody] at HT
 obtain⟨s,hs⟩:∃ s,s=En.bytesOf ((q::l).flatMap En.reqF):=⟨_,rfl⟩
 rw[←hs] at HT hp hsz
 have HLk:=hid hlk
 have HS:=hid h
 have HP:=hid hp
 have HQ:=hid hqo
 have HBd:=hid hb
 have kc:=fun (W:World)=>run_bytes_of_string (P:=Tryz.prog) W 9 90 5 body Tryz.underlying9 Tryz.underlying90 Tryz.underlying5
 have c2:=h.cell 2
 have c0:=h.cell 0
 have z2:=h.frozen 2
 simp at c2 c0
 clear h hp hlk hq hqo hb hbody hs
 go_enter Tryz.func62,Tryz.ntmps62
 go_wp2_with fail
 refine(HLk.out _ ((Fr.refl _ _).alloc _)).mono ?_
 rintro e w1 ⟨rfl,f1⟩
 have b1:=(Holds.new w 83 _).fr f1 (by simp)
 have F1:=hid (((Fr.refl [] w).alloc _).trans f1)
 have B1:=hid b1
 have hs1:=HS.out.fr F1.out (by simp)
 have hp1:=Holds.fr HP.out F1.out (by simp)
 have d0:=hs1.cell 0
 have d2:=hs1.cell 2
 have y2:=hs1.frozen 2
 have l1:=hs1.lt
 simp at d0 d2
 have S1:=hid hs1
 have P1:=hid hp1
 clear f1 b1 hs1 hp1 c0 c2 z2
 go_wp2_with fail
 obtain⟨W2,hW2⟩:∃ W2,W2=(((w1.setCell ⟨se,2,none⟩ (.int .i64 (seq+1))).alloc (.cells #[.int .i64 q.kind,.string body] 136)).alloc (.cells #[.int .i64 1,.int .i64 (seq+1),.int .i64 0,.int .i64 0,.string ⟨#[]⟩,.string ⟨#[]⟩,.string ⟨#[]⟩,.string ⟨#[]⟩,.int .i64 0,.int .i64 0,.slice none 0 0,.int .i64 0,.int .i64 0,.int .i64 0,.int .i64 0] 83)):=⟨_,rfl⟩
 have F2:=hid (show Fr [se] w W2 by rw[hW2];exact((((F1.out.mono (T:=[se]) (by simp)).setCell (p:=⟨se,2,none⟩) (by simp) _).alloc _).alloc _))
 have S2:=hid (show SeAt W2 se pi (Sv.tnOf bound) (seq+1) by rw[hW2];simpa[SeAt] using (((S1.out.set 2 (.int .i64 (seq+1))).alloc _).alloc _))
 have P2:=hid (show Pi.PipeAt W2 pi room s false by rw[hW2];exact Holds.alloc (Holds.alloc (Holds.far P1.out hne' _) _) _)
 have B2:=hid (show Holds W2 w.heap.size 83 _ by rw[hW2];exact((B1.out.far (Nat.ne_of_gt hsl) _).alloc _).alloc _)
 have FB2:=hid (show Holds W2 w1.heap.size 136 #[.int .i64 q.kind,.string body] by rw[hW2];exact(at_new (by simp)).alloc _)
 have TB2:=hid (show Holds W2 (w1.heap.size+1) 83 _ by rw[hW2];exact at_new (by simp))
 rw[←hW2]
 have HTk:=hid (Pi.take_lit W2 pi room s false ((body.size:Int)+6) P2.out (by omega) _ _ HT.out.1 HT.out.2)
 have hws:=F1.out.size
 clear hW2 d0 d2 y2
 refine HTk.out.mono ?_
 rintro e w3 ⟨rfl,p3,f3⟩
 have hn3:∀ {g t:Nat} {cs:Array Value},Holds W2 g t cs→t≠129→g∉[pi]:=fun hg ht hm=>by
  simp at hm
  exact(hg.ne P2.out ht) hm
 have S3:=hid (S2.out.fr f3 (hn3 S2.out (by decide)))
 have B3:=hid (B2.out.fr f3 (hn3 B2.out (by decide)))
 have FB3:=hid (FB2.out.fr f3 (hn3 FB2.out (by decide)))
 have TB3:=hid (TB2.out.fr f3 (hn3 TB2.out (by decide)))
 have F3:=hid (show Fr [se,pi] w w3 from (F2.out.mono (by simp)).trans (f3.mono (by simp)))
 have P3:=hid p3
 have x0:=FB3.out.cell 0
 have x1:=FB3.out.cell 1
 have y2:=TB3.out.cell 2
 have z2:=TB3.out.frozen 2
 have l1:=FB3.out.lt
 have l2:=TB3.out.lt
 simp at x0 x1 y2
 clear p3 f3
 go_wp2_with fail
 generalize hcap:grownCap (w3.setCell ⟨w1.heap.size+1,2,none⟩ (.int .i64 q.kind)) body.size 0 5=cap
 obtain⟨W4,hW4⟩:∃ W4,W4=((w3.setCell ⟨w1.heap.size+1,2,none⟩ (.int .i64 q.kind)).alloc (.cells (bytesRow body cap) 5 ((bytesRow body cap).size,(bytesRow body cap).size+1))).drew:=⟨_,rfl⟩
 have F4:=hid (show Fr [se,pi] w W4 by rw[hW4];exact((Ev.Fr.setNew (p:=⟨w1.heap.size+1,2,none⟩) F3.out (show w.heap.size≤w1.heap.size+1 by omega) _).alloc _).drew)
 have S4:=hid (show SeAt W4 se pi (Sv.tnOf bound) (seq+1) by rw[hW4];exact((S3.out.far (S3.out.ne TB3.out (by decide)) _).alloc _).drew)
 have P4:=hid (show Pi.PipeAt W4 pi room _ false by rw[hW4];exact Holds.drew (Holds.alloc (Holds.far P3.out (Holds.ne P3.out TB3.out (by decide)) _) _))
 have B4:=hid (show Holds W4 w.heap.size 83 _ by rw[hW4];exact((B3.out.far (show w.heap.size≠w1.heap.size+1 by omega) _).alloc _).drew)
 have TB4:=hid (show Holds W4 (w1.heap.size+1) 83 _ by rw[hW4];exact((TB3.out.set 2 (.int .i64 q.kind)).alloc _).drew)
 have hbin:BIn W4 (.slice (some ⟨w3.heap.size,0,none⟩) body.size cap) (En.reqB q):=by
  refine⟨_,_,_,rfl,?_,?_⟩
  ·rw[←HBL.out];simp
  ·rw[←HBL.out,hW4]
   have h:=conv_bytes (w3.setCell ⟨w1.heap.size+1,2,none⟩ (.int .i64 q.kind)) body cap ((bytesRow body cap).size,(bytesRow body cap).size+1)
   have h2:=h.fr ((Fr.refl [] _).drew) (by simp) (by simp)
   simpa using h2
 rw[←hW4]
 have hB4:B≤W4.heap.size:=Nat.le_trans hB F4.out.size
 have HD:=hid (Rq.decode_any W4 B _ q HQ.out hbin hB4)
 have hl4:=TB4.out.lt
 clear hbin hW4 hcap x0 x1 y2 z2
 refine HD.out.mono ?_
 rintro e w5 ⟨vo,rfl,ho5,f5⟩
 obtain⟨oa,oc,rfl⟩:=Own.form ho5
 have O5:=hid ho5
 have S5:=hid (S4.out.fr f5 (by simp))
 have P5:=hid (Holds.fr P4.out f5 (by simp))
 have B5:=hid (B4.out.fr f5 (by simp))
 have TB5:=hid (TB4.out.fr f5 (by simp))
 have F5:=hid (F4.out.trans (f5.mono (by simp)))
 have hl5:=TB5.out.lt
 have g1:=S5.out.cell 1
 simp at g1
 clear ho5 f5
 simp only[Ev.rqc]
 go_wp2_with fail
 obtain⟨W6,hW6⟩:∃ W6,W6=w5.alloc (.cells #[.int .i64 q.kind,.string q.tenant,.string q.col,.string q.uid,.string q.card,.int .i64 q.ck,.int .i64 q.cv,.slice oa q.ops.length oc,.int .i64 q.token,.int .i64 q.most,.int .i64 q.ticks] 41):=⟨_,rfl⟩
 have f6:Fr [] w5 W6:=by rw[hW6];exact(Fr.refl _ _).alloc _
 have S6:=hid (S5.out.fr f6 (by simp))
 have P6:=hid (Holds.fr P5.out f6 (by simp))
 have B6:=hid (B5.out.fr f6 (by simp))
 have TB6:=hid (TB5.out.fr f6 (by simp))
 have O6:=hid (Own.fr0 O5.out f6)
 have F6:=hid (F5.out.trans (f6.mono (by simp)))
 have Q6:=hid (show Holds W6 w5.heap.size 41 (Ev.rqc q (.slice oa q.ops.length oc)).toArray by rw[hW6];exact Holds.new _ _ _)
 rw[←hW6]
 clear hW6 g1 f6
 have m0:=Q6.out.cell 0
 have g1:=S6.out.cell 1
 simp[Ev.rqc] at m0
 simp at g1
 cases bound with
 | false =>
  have hk:q.kind=1:=by simpa using HBd.out
  have HTn:=hid (sh_tenant HQ.out hk)
  have hkb:(q.kind==1)=true:=by simpa using hk
  simp only[Sv.tnOf,Bool.false_eq_true,if_false] at g1
  clear hk
  go_quiet (fail)
  obtain⟨W7,hW7⟩:∃ W7,W7=W6.drewN nq:=⟨_,rfl⟩
  have f7:Fr [] W6 W7:=by rw[hW7];exact(Fr.refl _ _).drewN _
  rw[←hW7]
  have S7:=hid (S6.out.fr f7 (by simp))
  have P7:=hid (Holds.fr P6.out f7 (by simp))
  have B7:=hid (B6.out.fr f7 (by simp))
  have TB7:=hid (TB6.out.fr f7 (by simp))
  have Q7:=hid (Q6.out.fr f7 (by simp))
  have O7:=hid (Own.fr0 O6.out f7)
  have F7:=hid (F6.out.trans (f7.mono (by simp)))
  clear hW7 f7
  clear m0 g1
  have v0:=Q7.out.cell 0
  have v1:=Q7.out.cell 1
  have s1:=S7.out.cell 1
  have sz1:=S7.out.frozen 1
  simp[Ev.rqc] at v0 v1
  simp at s1
  have l3:=Q7.out.lt
  have l4:=TB7.out.lt
  have l5:=B7.out.lt
  have l6:=S7.out.lt
  go_upto_region 20 with fail
  obtain⟨W8,hW8⟩:∃ W8,W8=W7.setCell ⟨se,1,none⟩ (.string q.tenant):=⟨_,rfl⟩
  have f8:Fr [se,pi] W7 W8:=by rw[hW8];exact(Fr.refl _ _).setCell (by simp) _
  have hn8:∀ {g t:Nat} {cs:Array Value},Holds W7 g t cs→t≠127→Holds W8 g t cs:=fun hg ht=>by rw[hW8];exact hg.far (hg.ne S7.out ht) _
  have S8:=hid (show SeAt W8 se pi (Sv.tnOf true) (seq+1) by rw[hW8];have:=S7.out.set 1 (.string q.tenant);rw[HTn.out] at this ⊢;simpa[SeAt,Sv.tnOf] using this)
  have P8:=hid (show Pi.PipeAt W8 pi room _ false from hn8 P7.out (by decide))
  have B8:=hid (hn8 B7.out (by decide))
  have TB8:=hid (hn8 TB7.out (by decide))
  have Q8:=hid (hn8 Q7.out (by decide))
  have O8:=hid (show Ev.OpsAt W8 B (.slice oa q.ops.length oc) q.ops by rw[hW8];exact O7.out.frx0 (FrX.of_frT (Ts:=[127]) ((Fr.refl [se] _).setCell (by simp) _) (by simpa using hbs) (fun y hy=>⟨127,by simp,by simp at hy;subst hy;exact S7.out.ty⟩)) (by decide))
  have F8:=hid (F7.out.trans f8)
  rw[←hW8]
  clear hW8 f8 hn8
  clear v0 v1 s1 sz1 l3 l4 l5 l6
  obtain⟨v0,v1,v2,v3,v4,v5,v6,v7,v8,v9,v10⟩:=Q8.out.cs11
  have u3:=TB8.out.cell 3
  have u4:=TB8.out.cell 4
  have u5:=TB8.out.cell 5
  have u6:=TB8.out.cell 6
  have u7:=TB8.out.cell 7
  have u8:=TB8.out.cell 8
  have u9:=TB8.out.cell 9
  have u10:=TB8.out.cell 10
  have u11:=TB8.out.cell 11
  have u12:=TB8.out.cell 12
  have u13:=TB8.out.cell 13
  have uz3:=TB8.out.frozen 3
  have uz4:=TB8.out.frozen 4
  have uz5:=TB8.out.frozen 5
  have uz6:=TB8.out.frozen 6
  have uz7:=TB8.out.frozen 7
  have uz8:=TB8.out.frozen 8
  have uz9:=TB8.out.frozen 9
  have uz10:=TB8.out.frozen 10
  have uz11:=TB8.out.frozen 11
  have uz12:=TB8.out.frozen 12
  have uz13:=TB8.out.frozen 13
  have l3:=Q8.out.lt
  have l4:=TB8.out.lt
  simp[Ev.rqc] at v0 v1 v2 v3 v4 v5 v6 v7 v8 v9 v10
  simp at u3 u4 u5 u6 u7 u8 u9 u10 u11 u12 u13
  go_upto_region 21 with fail
  obtain⟨W9,hW9⟩:∃ W9,W9=putQ W8 (w1.heap.size+1) q (.slice oa q.ops.length oc):=⟨_,rfl⟩
  have f9:Fr [w1.heap.size+1] W8 W9:=by rw[hW9];exact putQ_fr
  have hn9:∀ {g t:Nat} {cs:Array Value},Holds W8 g t cs→t≠83→Holds W9 g t cs:=fun hg ht=>hg.fr f9 (by simpa using hg.ne TB8.out ht)
  have S9:=hid (show SeAt W9 se pi _ (seq+1) from hn9 S8.out (by decide))
  have P9:=hid (show Pi.PipeAt W9 pi room _ false from hn9 P8.out (by decide))
  have B9:=hid (B8.out.fr f9 (by simp;omega))
  have TB9:=hid (show Holds W9 (w1.heap.size+1) 83 (turnC (seq+1) q (.slice oa q.ops.length oc)).toArray by rw[hW9];exact putQ_holds TB8.out)
  have O9:=hid (show Ev.OpsAt W9 B (.slice oa q.ops.length oc) q.ops from O8.out.frx0 (FrX.of_frT (Ts:=[83]) f9 (by simp;omega) (fun y hy=>⟨83,by simp,by simp at hy;subst hy;exact TB8.out.ty⟩)) (by decide))
  have F9:=hid (show Fr [se,pi] w W9 from F8.out.step f9 (fun y hy=>.inr (by simp at hy;omega)))
  simp only[putQ] at hW9
  rw[←hW9]
  clear hW9 f9 hn9 l3 l4 v0 v1 v2 v3 v4 v5 v6 v7 v8 v9 v10 u3 uz3 u4 uz4 u5 uz5 u6 uz6 u7 uz7 u8 uz8 u9 uz9 u10 uz10 u11 uz11 u12 uz12 u13 uz13
  obtain⟨u0,u1,u2,u3,u4,u5,u6,u7,u8,u9,u10,u11,u12,u13,u14⟩:=TB9.out.cs15
  obtain⟨r0,r1,r2,r3,r4,r5,r6,r7,r8,r9,r10,r11,r12,r13,r14⟩:=B9.out.cs15
  obtain⟨rz0,rz1,rz2,rz3,rz4,rz5,rz6,rz7,rz8,rz9,rz10,rz11,rz12,rz13,rz14⟩:=B9.out.fz15
  have l4:=TB9.out.lt
  have l5:=B9.out.lt
  simp[turnC] at u0 u1 u2 u3 u4 u5 u6 u7 u8 u9 u10 u11 u12 u13 u14
  simp at r0 r1 r2 r3 r4 r5 r6 r7 r8 r9 r10 r11 r12 r13 r14
  go_wp2_with fail
  exact next_end B9.out (by rw[hkb];exact S9.out) P9.out O9.out F9.out hB hsl hpl rfl
 | true =>
  have hkb:(q.kind==1)=false:=by simpa using HBd.out
  have htn:Cr.tn.toList.isEmpty=false:=by decide +kernel
  simp only[Sv.tnOf,if_true] at g1
  go_quiet (fail)
  obtain⟨W7,hW7⟩:∃ W7,W7=W6.drewN nq:=⟨_,rfl⟩
  have f7:Fr [] W6 W7:=by rw[hW7];exact(Fr.refl _ _).drewN _
  rw[←hW7]
  have S7:=hid (S6.out.fr f7 (by simp))
  have P7:=hid (Holds.fr P6.out f7 (by simp))
  have B7:=hid (B6.out.fr f7 (by simp))
  have TB7:=hid (TB6.out.fr f7 (by simp))
  have Q7:=hid (Q6.out.fr f7 (by simp))
  have O7:=hid (Own.fr0 O6.out f7)
  have F7:=hid (F6.out.trans (f7.mono (by simp)))
  clear hW7 f7
  clear m0 g1
  have v0:=Q7.out.cell 0
  have v1:=Q7.out.cell 1
  have s1:=S7.out.cell 1
  have sz1:=S7.out.frozen 1
  simp[Ev.rqc] at v0 v1
  simp at s1
  have l3:=Q7.out.lt
  have l4:=TB7.out.lt
  have l5:=B7.out.lt
  have l6:=S7.out.lt
  go_upto_region 20 with fail
  obtain⟨W8,hW8⟩:∃ W8,W8=W7:=⟨_,rfl⟩
  subst hW8
  have S8:=S7
  have P8:=P7
  have B8:=B7
  have TB8:=TB7
  have Q8:=Q7
  have O8:=O7
  have F8:=F7
  clear v0 v1 s1 sz1 l3 l4 l5 l6
  obtain⟨v0,v1,v2,v3,v4,v5,v6,v7,v8,v9,v10⟩:=Q8.out.cs11
  have u3:=TB8.out.cell 3
  have u4:=TB8.out.cell 4
  have u5:=TB8.out.cell 5
  have u6:=TB8.out.cell 6
  have u7:=TB8.out.cell 7
  have u8:=TB8.out.cell 8
  have u9:=TB8.out.cell 9
  have u10:=TB8.out.cell 10
  have u11:=TB8.out.cell 11
  have u12:=TB8.out.cell 12
  have u13:=TB8.out.cell 13
  have uz3:=TB8.out.frozen 3
  have uz4:=TB8.out.frozen 4
  have uz5:=TB8.out.frozen 5
  have uz6:=TB8.out.frozen 6
  have uz7:=TB8.out.frozen 7
  have uz8:=TB8.out.frozen 8
  have uz9:=TB8.out.frozen 9
  have uz10:=TB8.out.frozen 10
  have uz11:=TB8.out.frozen 11
  have uz12:=TB8.out.frozen 12
  have uz13:=TB8.out.frozen 13
  have l3:=Q8.out.lt
  have l4:=TB8.out.lt
  simp[Ev.rqc] at v0 v1 v2 v3 v4 v5 v6 v7 v8 v9 v10
  simp at u3 u4 u5 u6 u7 u8 u9 u10 u11 u12 u13
  go_upto_region 21 with fail
  obtain⟨W9,hW9⟩:∃ W9,W9=putQ W8 (w1.heap.size+1) q (.slice oa q.ops.length oc):=⟨_,rfl⟩
  have f9:Fr [w1.heap.size+1] W8 W9:=by rw[hW9];exact putQ_fr
  have hn9:∀ {g t:Nat} {cs:Array Value},Holds W8 g t cs→t≠83→Holds W9 g t cs:=fun hg ht=>hg.fr f9 (by simpa using hg.ne TB8.out ht)
  have S9:=hid (show SeAt W9 se pi _ (seq+1) from hn9 S8.out (by decide))
  have P9:=hid (show Pi.PipeAt W9 pi room _ false from hn9 P8.out (by decide))
  have B9:=hid (B8.out.fr f9 (by simp;omega))
  have TB9:=hid (show Holds W9 (w1.heap.size+1) 83 (turnC (seq+1) q (.slice oa q.ops.length oc)).toArray by rw[hW9];exact putQ_holds TB8.out)
  have O9:=hid (show Ev.OpsAt W9 B (.slice oa q.ops.length oc) q.ops from O8.out.frx0 (FrX.of_frT (Ts:=[83]) f9 (by simp;omega) (fun y hy=>⟨83,by simp,by simp at hy;subst hy;exact TB8.out.ty⟩)) (by decide))
  have F9:=hid (show Fr [se,pi] w W9 from F8.out.step f9 (fun y hy=>.inr (by simp at hy;omega)))
  simp only[putQ] at hW9
  rw[←hW9]
  clear hW9 f9 hn9 l3 l4 v0 v1 v2 v3 v4 v5 v6 v7 v8 v9 v10 u3 uz3 u4 uz4 u5 uz5 u6 uz6 u7 uz7 u8 uz8 u9 uz9 u10 uz10 u11 uz11 u12 uz12 u13 uz13
  obtain⟨u0,u1,u2,u3,u4,u5,u6,u7,u8,u9,u10,u11,u12,u13,u14⟩:=TB9.out.cs15
  obtain⟨r0,r1,r2,r3,r4,r5,r6,r7,r8,r9,r10,r11,r12,r13,r14⟩:=B9.out.cs15
  obtain⟨rz0,rz1,rz2,rz3,rz4,rz5,rz6,rz7,rz8,rz9,rz10,rz11,rz12,rz13,rz14⟩:=B9.out.fz15
  have l4:=TB9.out.lt
  have l5:=B9.out.lt
  simp[turnC] at u0 u1 u2 u3 u4 u5 u6 u7 u8 u9 u10 u11 u12 u13 u14
  simp at r0 r1 r2 r3 r4 r5 r6 r7 r8 r9 r10 r11 r12 r13 r14
  go_wp2_with fail
  exact next_end B9.out S9.out P9.out O9.out F9.out hB hsl hpl rfl
end Go.Proofs.YtjmkkcckfbnmeaaGreatDoor.Se
namespace Go.Proofs.YtjmkkcckfbnmeaaGreatDoor.Pr
open Go.RowKit Fm Pk
def rcl (a:M.Resp):List Value:=(rc0 a).toList
theorem rcl_one (a:M.Resp):∀ u∈rcl a,u.oneCell'=true:=by
 intro u hu
 simp only[rcl,rc0,List.mem_cons,List.not_mem_nil,or_false] at hu
 rcases hu with rfl|rfl|rfl|rfl|rfl|rfl|rfl|rfl<;>rfl
theorem infoR:(Tryz.prog.info? 53).map (fun i=>(i.zero,i.size,i.bytes))=some (some (.agg #[.int .i64 0,.int .i64 0,.int .i64 0,.int .i64 0,.string ByteArray.empty,.int .i64 0,.bool false,.slice none 0 0]),8,88):=by kernel_rfl
def strSz (v:Value):Nat:=match v with|.string s=>s.size|_=>0
theorem resp_len {a:M.Resp}(ok:Rp.RespOk a):(En.respF a).length≤406∧6≤(En.respF a).length:=by
 have:=Rp.respB_len ok
 rw[show En.respF a=En.putL (128+a.kind) (En.bytesOf (En.respB a)) from rfl,En.putL_length,En.bytesOf_size]
 omega
theorem resps_len {l:List M.Resp}(h:∀ a∈l,Rp.RespOk a):(l.flatMap En.respF).length≤406*l.length:=by
 induction l with
 | nil=>simp
 | cons a l ih =>
  have h1:=(resp_len (h a (by simp))).1
  have h2:=ih fun x hx=>h x (by simp[hx])
  simp only[List.flatMap_cons,List.length_append,List.length_cons]
  omega
theorem ba_extract (a b:List UInt8):(En.bytesOf (a++b)).extract a.length (En.bytesOf (a++b)).size=En.bytesOf b:=by
 apply Ct.ba_ext
 rw[Ct.extract_list,En.bytesOf_list,En.bytesOf_list,En.bytesOf_size,List.take_of_length_le (Nat.le_refl _),List.drop_left]
theorem own_push {α:Type}{f:α→List Value}{T sz:Nat}{w0 W W' w7:World}{Z:Nat}{L:List α}{o v7:Value}{x:α}{news:List Value}{own7:Option Nat}(h0:w0.heap.size=Z)(f0:Fr [] w0 W)(hown:Own W Z T sz o L.length (flat f L))(f1:Fr [] W W')(hn:news=f x)
  (hs:Sl w7 T sz v7 (L.length+1) (flat f L++news) own7) (hf:Fr (ownOf o).toList W' w7) (ho:own7=ownOf o∨∃ g,own7=some g∧W'.heap.size≤g) (hm:0<1→∃ g,own7=some g) :
  Own w7 Z T sz v7 (L++[x]).length (flat f (L++[x]))∧Fr [] w0 w7:=by
 have hB:Z≤W'.heap.size:=by rw[←h0];exact(f0.trans f1).size
 have hown':=Own.fr0 hown f1
 have hb:∀ y,y∈(ownOf o).toList→tyOf W' y=some T∧Z≤y:=fun y hy=>hown'.ty (by simpa using hy)
 obtain⟨oo,-⟩:=own_after (B:=Z) hB (fun g hg=>(hown'.ty hg).2) hs ho (hm (by omega))
 have e:flat f (L++[x])=flat f L++f x:=by rw[flat_append,flat_one]
 exact⟨by rw[e,←hn];simpa using oo,(f0.trans f1).step hf (fun y hy=>.inr (by rw[h0];exact(hb y hy).2))⟩
theorem answers_any (w:World)(l:List M.Resp)(hok:∀ a∈l,Rp.RespOk a∧a.items=[])(hl:l.length≤20) :
  Calls Tryz.prog 19 #[.string (En.bytesOf (l.flatMap En.respF))] w fun e w'=>∃ v,e = .returned (.tuple #[v,.bool true])∧Own w' w.heap.size 53 8 v l.length (flat rcl l)∧Fr [] w w':=by
 obtain⟨i3,hi,hz0,hz1,hz2⟩:=info_parts infoR
 obtain⟨Z,hZ⟩:∃ Z,w.heap.size=Z:=⟨_,rfl⟩
 have HZ:=hid hZ
 have HOK:=hid hok
 rw[hZ]
 obtain⟨S0,hS0⟩:∃ S0,En.bytesOf (l.flatMap En.respF)=S0:=⟨_,rfl⟩
 have HS0:=hid hS0
 rw[hS0]
 clear hok hS0
 go_enter Tryz.func19,Tryz.ntmps19
 go_wp2_with fail
 go_loopw [0,4] (fun s o wr=>∃ (dn rest:List M.Resp),dn++rest=l∧s = .string (En.bytesOf (rest.flatMap En.respF))∧Own wr Z 53 8 o dn.length (flat rcl dn)∧Fr [] w wr) (fun s _ _=>strSz s)
 case atStart=>exact⟨[],l,rfl,by rw[HS0.out],Own.nil _ _ _ _,Fr.refl _ _⟩
 case round =>
  obtain⟨dn,rest,hdr,rfl,own',fr⟩:=hrel
  cases rest with
  | nil =>
   have e0:En.bytesOf (([]:List M.Resp).flatMap En.respF)=⟨#[]⟩:=rfl
   rw[e0]
   have HD:=hid (And.intro hdr (And.intro own' fr))
   clear hdr own' fr e0
   go_wp2_with fail
   go_ret2
   obtain⟨h1,h2,h3⟩:=HD.out
   rw[List.append_nil] at h1
   subst h1
   exact⟨_,rfl,h2,h3⟩
  | cons a rest =>
   have hal:a∈l:=by rw[←hdr];simp
   obtain⟨ok,hit⟩:=HOK.out a hal
   have hlen:dn.length+rest.length+1=l.length:=by rw[←hdr];simp;omega
   have hrl:=resps_len (l:=rest) fun x hx=>(HOK.out x (by rw[←hdr];simp[hx])).1
   have hal2:=resp_len ok
   have e1:(a::rest).flatMap En.respF=En.respF a++rest.flatMap En.respF:=by simp
   rw[e1]
   have HN:=hid (fun W=>rnext_list W (En.respF a++rest.flatMap En.respF) (by rw[List.length_append];omega))
   have hbk:=En.back (128+a.kind) (En.bytesOf (En.respB a)) (rest.flatMap En.respF) (by have:=ok.k0;omega) (by have:=ok.k1;omega) (by rw[En.bytesOf_size];have:=Rp.respB_len ok;omega)
   rw[show En.putL (128+a.kind) (En.bytesOf (En.respB a))=En.respF a from rfl] at hbk
   rw[hbk] at HN
   have hfl:(En.respF a).length=(En.bytesOf (En.respB a)).size+6:=by
    rw[show En.respF a=En.putL (128+a.kind) (En.bytesOf (En.respB a)) from rfl,En.putL_length]
   have hEX:=hid (ba_extract (En.respF a) (rest.flatMap En.respF))
   rw[hfl] at hEX
   have hsz:(En.bytesOf (En.respF a++rest.flatMap En.respF)).size=(En.bytesOf (En.respB a)).size+6+(rest.flatMap En.respF).length:=by rw[En.bytesOf_size,List.length_append,hfl]
   have hrb:(r0B a).length=(En.bytesOf (En.respB a)).size:=by rw[En.bytesOf_size,r0B_eq hit]
   have hbs:(En.bytesOf (En.respB a)).data.toList=r0B a:=by rw[En.bytesOf_list,r0B_eq hit]
   obtain⟨body,hbody⟩:∃ body,En.bytesOf (En.respB a)=body:=⟨_,rfl⟩
   obtain⟨S,hS⟩:∃ S,En.bytesOf (En.respF a++rest.flatMap En.respF)=S:=⟨_,rfl⟩
   have hS':(⟨(En.respF a++rest.flatMap En.respF).toArray⟩:ByteArray)=S:=hS
   rw[hbody] at HN hEX hsz hrb hbs
   rw[hS] at hEX hsz ⊢
   rw[hS'] at HN
   simp only[tup4] at HN
   have kc:=fun (W:World)=>run_bytes_of_string (P:=Tryz.prog) W 9 90 5 body Tryz.underlying9 Tryz.underlying90 Tryz.underlying5
   obtain⟨R,hR⟩:∃ R,(rest.flatMap En.respF).length=R:=⟨_,rfl⟩
   rw[hR] at hsz hrl
   have hszp:(0:Int)<(S.size:Int):=by omega
   have hb6:body.size+6≤S.size:=by omega
   have HDR:=hid (And.intro hdr (And.intro hrb hbs))
   have HOw:=hid own'
   have HF:=hid fr
   have HOKa:=hid ok
   have hk0:=ok.k0
   have HSZ:=hid hsz
   clear own' fr hdr hbk hfl hS hS' hbody e1 hal hit ok hrb hbs hR hsz hrl hal2
   obtain⟨ao,co,rfl⟩:=Own.form HOw.out
   go_wp2_with fail
   refine(HN.out _).mono ?_
   rintro e w1 ⟨rfl,f1⟩
   have HF1:=hid (HF.out.trans f1)
   have HOw1:=hid (Own.fr0 HOw.out f1)
   clear HF HOw f1 HN
   go_wp2_with fail
   generalize hcap:grownCap (w1.alloc (.cells #[.int .i64 (128+a.kind),.string body] 95)) body.size 0 5=cap
   have hge:body.size≤cap:=by rw[←hcap];exact grownCap_ge _ _ _ _
   obtain⟨W1,hW1⟩:∃ W1,W1=((w1.alloc (.cells #[.int .i64 (128+a.kind),.string body] 95)).alloc (.cells (bytesRow body cap) 5 ((bytesRow body cap).size,(bytesRow body cap).size+1))).drew:=⟨_,rfl⟩
   have f1:Fr [] w1 W1:=by rw[hW1];exact(((Fr.refl _ _).alloc _).alloc _).drew
   have hby:Cells W1 (some ⟨w1.heap.size+1,0,none⟩) (bc (r0B a)):=by
    have h0:=(Se.conv_bytes (w1.alloc (.cells #[.int .i64 (128+a.kind),.string body] 95)) body cap ((bytesRow body cap).size,(bytesRow body cap).size+1)).fr ((Fr.refl [] _).drew) (by simp) (by simp)
    rw[←hW1,HDR.out.2.2] at h0
    simpa using h0.cells
   rw[←hW1]
   have HDC:=hid (rdecode W1 a HOKa.out _ body.size cap HDR.out.2.1 hge hby)
   have HF2:=hid (HF1.out.trans f1)
   have HOw2:=hid (Own.fr0 HOw1.out f1)
   clear hW1 hby hcap hge f1 HF1 HOw1 kc
   refine HDC.out.mono ?_
   rintro e w2 ⟨rfl,f2⟩
   have HF3:=hid (HF2.out.trans f2)
   have HOw3:=hid (Own.fr0 HOw2.out f2)
   clear HF2 HOw2 f2 HDC
   have hd20:dn.length+1≤20:=by omega
   go_wp2_with (at_builtin;(refine wpList_append_sl rfl (.tmp 36) (.tmp 38) 68 rfl i3 _ 88 Tryz.underlying68 hi hz0 hz1 hz2 rfl (by decide) (.slice ao dn.length co) (ownOf (.slice ao dn.length co)) rfl (Own.fr0 HOw3.out (((Fr.refl _ _).alloc _).alloc _)).sl _ 1 1 _ rfl (by rfl) (Fm.Cells.of_holds (at_new (by simp))) (fun u hu=>rcl_one a u (by simpa[rcl] using hu)) (by unfold maxLen;omega) (by omega) ?_;intro v7 w7 own7 hs7 hf7 ho7 hm7;have P:=own_push (f:=rcl) (x:=a) HZ.out HF3.out HOw3.out (((Fr.refl _ _).alloc _).alloc _) rfl hs7 hf7 ho7 hm7;have PH:=hid P;clear hs7 hf7 ho7 hm7 P))
   go_roundw
   case rel =>
    refine⟨dn++[a],rest,by rw[←HDR.out.1];simp,?_,PH.out.1,PH.out.2⟩
    rw[←hEX.out]
   case measure =>
    have:=HSZ.out
    simp[strSz]
    omega
end Go.Proofs.YtjmkkcckfbnmeaaGreatDoor.Pr
namespace Go.Proofs.YtjmkkcckfbnmeaaGreatDoor.Pr
open Go.RowKit Fm Pk Rq
theorem check_hello (w : World)  : Calls Tryz.prog 53 #[.agg (rqv 1 (M.bs "ann") em em em 0 0 (.slice none 0 0) 0 0 0).toArray] w fun e w' => e = .returned (.int .i64 0) ∧ Fr [] w w' := by
 have b0 : Holds (w.alloc (.cells (rqv 1 (M.bs "ann") em em em 0 0 (.slice none 0 0) 0 0 0).toArray 41)) w.heap.size 41 (rqv 1 (M.bs "ann") em em em 0 0 (.slice none 0 0) 0 0 0).toArray := Holds.new _ _ _
 have f0 : Fr [] w (w.alloc (.cells (rqv 1 (M.bs "ann") em em em 0 0 (.slice none 0 0) 0 0 0).toArray 41)) := (Fr.refl _ _).alloc _
 have b1:=hid b0
 have F1:=hid f0
 clear b0 f0
 go_enter Tryz.func53,Tryz.ntmps53
 go_wp2_with (fail)
 refine wp_loop_rounds 1 ?_
 rw[rounds_succ]
 go_wp2_with (first
  | (go_at_call 91;refine(Id.rname_low _ _ (by first|exact ann_low|exact home_low)).mono ?_;rintro e w' ⟨rfl,rfl⟩)
  | (go_at_call 92;refine(Id.ruid_low _ _ (by assumption)).mono ?_;rintro e w' ⟨rfl,rfl⟩))
 refine wp_loop_rounds 1 ?_
 rw[rounds_succ]
 go_wp2_with (first
  | (go_at_call 93;refine(Rf.is_any _ _ (by assumption)).mono ?_;rintro e w2 ⟨rfl,f2⟩;have b1:=hid (b1.out.fr f2 (by simp));have F1:=hid (F1.out.trans f2);have c5:=b1.out.cell 5;have c6:=b1.out.cell 6;have c7:=b1.out.cell 7;have c8:=b1.out.cell 8;have c9:=b1.out.cell 9;have c10:=b1.out.cell 10;simp at c5 c6 c7 c8 c9 c10)
  | (go_at_call 94;refine(Et.rmay_any _ _ _).mono ?_;rintro e w3 ⟨rfl,f3⟩;have hcd:=(show Et.condOk _ _=true from by assumption);rw[hcd];have b1:=hid (b1.out.fr f3 (by simp));have F1:=hid (F1.out.trans f3);have d7:=b1.out.cell 7;have d8:=b1.out.cell 8;have d9:=b1.out.cell 9;have d10:=b1.out.cell 10;simp at d7 d8 d9 d10))
 refine wp_loop_rounds 1 ?_
 rw[rounds_succ]
 go_wp2_with (fail)
 go_ret
 exact⟨rfl,F1.out⟩
theorem check_create (w:World)  : Calls Tryz.prog 53 #[.agg (rqv 2 em M.home em em 0 0 (.slice none 0 0) 0 0 0).toArray] w fun e w'=>e = .returned (.int .i64 0)∧Fr [] w w':=by
 have b0:Holds (w.alloc (.cells (rqv 2 em M.home em em 0 0 (.slice none 0 0) 0 0 0).toArray 41)) w.heap.size 41 (rqv 2 em M.home em em 0 0 (.slice none 0 0) 0 0 0).toArray:=Holds.new _ _ _
 have f0:Fr [] w (w.alloc (.cells (rqv 2 em M.home em em 0 0 (.slice none 0 0) 0 0 0).toArray 41)):=(Fr.refl _ _).alloc _
 have b1:=hid b0
 have F1:=hid f0
 clear b0 f0
 go_enter Tryz.func53,Tryz.ntmps53
 go_wp2_with (fail)
 refine wp_loop_rounds 1 ?_
 rw[rounds_succ]
 go_wp2_with (first
  | (go_at_call 91;refine(Id.rname_low _ _ (by first|exact ann_low|exact home_low)).mono ?_;rintro e w' ⟨rfl,rfl⟩)
  | (go_at_call 92;refine(Id.ruid_low _ _ (by assumption)).mono ?_;rintro e w' ⟨rfl,rfl⟩))
 refine wp_loop_rounds 1 ?_
 rw[rounds_succ]
 go_wp2_with (first
  | (go_at_call 93;refine(Rf.is_any _ _ (by assumption)).mono ?_;rintro e w2 ⟨rfl,f2⟩;have b1:=hid (b1.out.fr f2 (by simp));have F1:=hid (F1.out.trans f2);have c5:=b1.out.cell 5;have c6:=b1.out.cell 6;have c7:=b1.out.cell 7;have c8:=b1.out.cell 8;have c9:=b1.out.cell 9;have c10:=b1.out.cell 10;simp at c5 c6 c7 c8 c9 c10)
  | (go_at_call 94;refine(Et.rmay_any _ _ _).mono ?_;rintro e w3 ⟨rfl,f3⟩;have hcd:=(show Et.condOk _ _=true from by assumption);rw[hcd];have b1:=hid (b1.out.fr f3 (by simp));have F1:=hid (F1.out.trans f3);have d7:=b1.out.cell 7;have d8:=b1.out.cell 8;have d9:=b1.out.cell 9;have d10:=b1.out.cell 10;simp at d7 d8 d9 d10))
 refine wp_loop_rounds 1 ?_
 rw[rounds_succ]
 go_wp2_with (fail)
 go_ret
 exact⟨rfl,F1.out⟩
theorem check_drop (w:World)  : Calls Tryz.prog 53 #[.agg (rqv 3 em M.home em em 0 0 (.slice none 0 0) 0 0 0).toArray] w fun e w'=>e = .returned (.int .i64 0)∧Fr [] w w':=by
 have b0:Holds (w.alloc (.cells (rqv 3 em M.home em em 0 0 (.slice none 0 0) 0 0 0).toArray 41)) w.heap.size 41 (rqv 3 em M.home em em 0 0 (.slice none 0 0) 0 0 0).toArray:=Holds.new _ _ _
 have f0:Fr [] w (w.alloc (.cells (rqv 3 em M.home em em 0 0 (.slice none 0 0) 0 0 0).toArray 41)):=(Fr.refl _ _).alloc _
 have b1:=hid b0
 have F1:=hid f0
 clear b0 f0
 go_enter Tryz.func53,Tryz.ntmps53
 go_wp2_with (fail)
 refine wp_loop_rounds 1 ?_
 rw[rounds_succ]
 go_wp2_with (first
  | (go_at_call 91;refine(Id.rname_low _ _ (by first|exact ann_low|exact home_low)).mono ?_;rintro e w' ⟨rfl,rfl⟩)
  | (go_at_call 92;refine(Id.ruid_low _ _ (by assumption)).mono ?_;rintro e w' ⟨rfl,rfl⟩))
 refine wp_loop_rounds 1 ?_
 rw[rounds_succ]
 go_wp2_with (first
  | (go_at_call 93;refine(Rf.is_any _ _ (by assumption)).mono ?_;rintro e w2 ⟨rfl,f2⟩;have b1:=hid (b1.out.fr f2 (by simp));have F1:=hid (F1.out.trans f2);have c5:=b1.out.cell 5;have c6:=b1.out.cell 6;have c7:=b1.out.cell 7;have c8:=b1.out.cell 8;have c9:=b1.out.cell 9;have c10:=b1.out.cell 10;simp at c5 c6 c7 c8 c9 c10)
  | (go_at_call 94;refine(Et.rmay_any _ _ _).mono ?_;rintro e w3 ⟨rfl,f3⟩;have hcd:=(show Et.condOk _ _=true from by assumption);rw[hcd];have b1:=hid (b1.out.fr f3 (by simp));have F1:=hid (F1.out.trans f3);have d7:=b1.out.cell 7;have d8:=b1.out.cell 8;have d9:=b1.out.cell 9;have d10:=b1.out.cell 10;simp at d7 d8 d9 d10))
 refine wp_loop_rounds 1 ?_
 rw[rounds_succ]
 go_wp2_with (fail)
 go_ret
 exact⟨rfl,F1.out⟩
end Go.Proofs.YtjmkkcckfbnmeaaGreatDoor.Pr
namespace Go.Proofs.YtjmkkcckfbnmeaaGreatDoor.Pr
open Go.RowKit Fm Pk Rq
theorem check_put (w:World)(u c:ByteArray)(ck cv:Int)(hu:M.lowS u=true)(hc:M.card3 c=true)(hk:M.condOk ck cv=true):Calls Tryz.prog 53 #[.agg (rqv 4 em M.home u c ck cv (.slice none 0 0) 0 0 0).toArray] w fun e w'=>e = .returned (.int .i64 0)∧Fr [] w w':=by
 have b0:Holds (w.alloc (.cells (rqv 4 em M.home u c ck cv (.slice none 0 0) 0 0 0).toArray 41)) w.heap.size 41 (rqv 4 em M.home u c ck cv (.slice none 0 0) 0 0 0).toArray:=Holds.new _ _ _
 have f0:Fr [] w (w.alloc (.cells (rqv 4 em M.home u c ck cv (.slice none 0 0) 0 0 0).toArray 41)):=(Fr.refl _ _).alloc _
 have b1:=hid b0
 have F1:=hid f0
 clear b0 f0
 go_enter Tryz.func53,Tryz.ntmps53
 go_wp2_with (fail)
 refine wp_loop_rounds 1 ?_
 rw[rounds_succ]
 go_wp2_with (first
  | (go_at_call 91;refine(Id.rname_low _ _ (by first|exact ann_low|exact home_low)).mono ?_;rintro e w' ⟨rfl,rfl⟩)
  | (go_at_call 92;refine(Id.ruid_low _ _ (by assumption)).mono ?_;rintro e w' ⟨rfl,rfl⟩))
 refine wp_loop_rounds 1 ?_
 rw[rounds_succ]
 go_wp2_with (first
  | (go_at_call 93;refine(Rf.is_any _ _ (by assumption)).mono ?_;rintro e w2 ⟨rfl,f2⟩;have b1:=hid (b1.out.fr f2 (by simp));have F1:=hid (F1.out.trans f2);have c5:=b1.out.cell 5;have c6:=b1.out.cell 6;have c7:=b1.out.cell 7;have c8:=b1.out.cell 8;have c9:=b1.out.cell 9;have c10:=b1.out.cell 10;simp at c5 c6 c7 c8 c9 c10)
  | (go_at_call 94;refine(Et.rmay_any _ _ _).mono ?_;rintro e w3 ⟨rfl,f3⟩;have hcd:=(show Et.condOk _ _=true from by assumption);rw[hcd];have b1:=hid (b1.out.fr f3 (by simp));have F1:=hid (F1.out.trans f3);have d7:=b1.out.cell 7;have d8:=b1.out.cell 8;have d9:=b1.out.cell 9;have d10:=b1.out.cell 10;simp at d7 d8 d9 d10))
 refine wp_loop_rounds 1 ?_
 rw[rounds_succ]
 go_wp2_with (fail)
 go_ret
 exact⟨rfl,F1.out⟩
theorem check_del (w:World)(u:ByteArray)(ck cv:Int)(hu:M.lowS u=true)(hk:M.condOk ck cv=true):Calls Tryz.prog 53 #[.agg (rqv 5 em M.home u em ck cv (.slice none 0 0) 0 0 0).toArray] w fun e w'=>e = .returned (.int .i64 0)∧Fr [] w w':=by
 have b0:Holds (w.alloc (.cells (rqv 5 em M.home u em ck cv (.slice none 0 0) 0 0 0).toArray 41)) w.heap.size 41 (rqv 5 em M.home u em ck cv (.slice none 0 0) 0 0 0).toArray:=Holds.new _ _ _
 have f0:Fr [] w (w.alloc (.cells (rqv 5 em M.home u em ck cv (.slice none 0 0) 0 0 0).toArray 41)):=(Fr.refl _ _).alloc _
 have b1:=hid b0
 have F1:=hid f0
 clear b0 f0
 go_enter Tryz.func53,Tryz.ntmps53
 go_wp2_with (fail)
 refine wp_loop_rounds 1 ?_
 rw[rounds_succ]
 go_wp2_with (first
  | (go_at_call 91;refine(Id.rname_low _ _ (by first|exact ann_low|exact home_low)).mono ?_;rintro e w' ⟨rfl,rfl⟩)
  | (go_at_call 92;refine(Id.ruid_low _ _ (by assumption)).mono ?_;rintro e w' ⟨rfl,rfl⟩))
 refine wp_loop_rounds 1 ?_
 rw[rounds_succ]
 go_wp2_with (first
  | (go_at_call 93;refine(Rf.is_any _ _ (by assumption)).mono ?_;rintro e w2 ⟨rfl,f2⟩;have b1:=hid (b1.out.fr f2 (by simp));have F1:=hid (F1.out.trans f2);have c5:=b1.out.cell 5;have c6:=b1.out.cell 6;have c7:=b1.out.cell 7;have c8:=b1.out.cell 8;have c9:=b1.out.cell 9;have c10:=b1.out.cell 10;simp at c5 c6 c7 c8 c9 c10)
  | (go_at_call 94;refine(Et.rmay_any _ _ _).mono ?_;rintro e w3 ⟨rfl,f3⟩;have hcd:=(show Et.condOk _ _=true from by assumption);rw[hcd];have b1:=hid (b1.out.fr f3 (by simp));have F1:=hid (F1.out.trans f3);have d7:=b1.out.cell 7;have d8:=b1.out.cell 8;have d9:=b1.out.cell 9;have d10:=b1.out.cell 10;simp at d7 d8 d9 d10))
 refine wp_loop_rounds 1 ?_
 rw[rounds_succ]
 go_wp2_with (fail)
 go_ret
 exact⟨rfl,F1.out⟩
theorem check_get (w:World)(u:ByteArray)(hu:M.lowS u=true):Calls Tryz.prog 53 #[.agg (rqv 6 em M.home u em 0 0 (.slice none 0 0) 0 0 0).toArray] w fun e w'=>e = .returned (.int .i64 0)∧Fr [] w w':=by
 have b0:Holds (w.alloc (.cells (rqv 6 em M.home u em 0 0 (.slice none 0 0) 0 0 0).toArray 41)) w.heap.size 41 (rqv 6 em M.home u em 0 0 (.slice none 0 0) 0 0 0).toArray:=Holds.new _ _ _
 have f0:Fr [] w (w.alloc (.cells (rqv 6 em M.home u em 0 0 (.slice none 0 0) 0 0 0).toArray 41)):=(Fr.refl _ _).alloc _
 have b1:=hid b0
 have F1:=hid f0
 clear b0 f0
 go_enter Tryz.func53,Tryz.ntmps53
 go_wp2_with (fail)
 refine wp_loop_rounds 1 ?_
 rw[rounds_succ]
 go_wp2_with (first
  | (go_at_call 91;refine(Id.rname_low _ _ (by first|exact ann_low|exact home_low)).mono ?_;rintro e w' ⟨rfl,rfl⟩)
  | (go_at_call 92;refine(Id.ruid_low _ _ (by assumption)).mono ?_;rintro e w' ⟨rfl,rfl⟩))
 refine wp_loop_rounds 1 ?_
 rw[rounds_succ]
 go_wp2_with (first
  | (go_at_call 93;refine(Rf.is_any _ _ (by assumption)).mono ?_;rintro e w2 ⟨rfl,f2⟩;have b1:=hid (b1.out.fr f2 (by simp));have F1:=hid (F1.out.trans f2);have c5:=b1.out.cell 5;have c6:=b1.out.cell 6;have c7:=b1.out.cell 7;have c8:=b1.out.cell 8;have c9:=b1.out.cell 9;have c10:=b1.out.cell 10;simp at c5 c6 c7 c8 c9 c10)
  | (go_at_call 94;refine(Et.rmay_any _ _ _).mono ?_;rintro e w3 ⟨rfl,f3⟩;have hcd:=(show Et.condOk _ _=true from by assumption);rw[hcd];have b1:=hid (b1.out.fr f3 (by simp));have F1:=hid (F1.out.trans f3);have d7:=b1.out.cell 7;have d8:=b1.out.cell 8;have d9:=b1.out.cell 9;have d10:=b1.out.cell 10;simp at d7 d8 d9 d10))
 refine wp_loop_rounds 1 ?_
 rw[rounds_succ]
 go_wp2_with (fail)
 go_ret
 exact⟨rfl,F1.out⟩
end Go.Proofs.YtjmkkcckfbnmeaaGreatDoor.Pr
namespace Go.Proofs.YtjmkkcckfbnmeaaGreatDoor.Pr
open Go.RowKit Fm Pk Rq
theorem check_delta (w:World)(tk ms:Int)(h1:0≤tk)(h3:1≤ms)(h4:ms≤247):Calls Tryz.prog 53 #[.agg (rqv 8 em M.home em em 0 0 (.slice none 0 0) tk ms 0).toArray] w fun e w'=>e = .returned (.int .i64 0)∧Fr [] w w':=by
 have b0:Holds (w.alloc (.cells (rqv 8 em M.home em em 0 0 (.slice none 0 0) tk ms 0).toArray 41)) w.heap.size 41 (rqv 8 em M.home em em 0 0 (.slice none 0 0) tk ms 0).toArray:=Holds.new _ _ _
 have f0:Fr [] w (w.alloc (.cells (rqv 8 em M.home em em 0 0 (.slice none 0 0) tk ms 0).toArray 41)):=(Fr.refl _ _).alloc _
 have b1:=hid b0
 have F1:=hid f0
 clear b0 f0
 go_enter Tryz.func53,Tryz.ntmps53
 go_wp2_with (fail)
 refine wp_loop_rounds 1 ?_
 rw[rounds_succ]
 go_wp2_with (first
  | (go_at_call 91;refine(Id.rname_low _ _ (by first|exact ann_low|exact home_low)).mono ?_;rintro e w' ⟨rfl,rfl⟩)
  | (go_at_call 92;refine(Id.ruid_low _ _ (by assumption)).mono ?_;rintro e w' ⟨rfl,rfl⟩))
 refine wp_loop_rounds 1 ?_
 rw[rounds_succ]
 go_wp2_with (first
  | (go_at_call 93;refine(Rf.is_any _ _ (by assumption)).mono ?_;rintro e w2 ⟨rfl,f2⟩;have b1:=hid (b1.out.fr f2 (by simp));have F1:=hid (F1.out.trans f2);have c5:=b1.out.cell 5;have c6:=b1.out.cell 6;have c7:=b1.out.cell 7;have c8:=b1.out.cell 8;have c9:=b1.out.cell 9;have c10:=b1.out.cell 10;simp at c5 c6 c7 c8 c9 c10)
  | (go_at_call 94;refine(Et.rmay_any _ _ _).mono ?_;rintro e w3 ⟨rfl,f3⟩;have hcd:=(show Et.condOk _ _=true from by assumption);rw[hcd];have b1:=hid (b1.out.fr f3 (by simp));have F1:=hid (F1.out.trans f3);have d7:=b1.out.cell 7;have d8:=b1.out.cell 8;have d9:=b1.out.cell 9;have d10:=b1.out.cell 10;simp at d7 d8 d9 d10))
 refine wp_loop_rounds 1 ?_
 rw[rounds_succ]
 go_wp2_with (fail)
 go_ret
 exact⟨rfl,F1.out⟩
theorem check_wait (w:World)(tk tc:Int)(h1:0≤tk)(h3:0≤tc)(h4:tc≤247):Calls Tryz.prog 53 #[.agg (rqv 9 em M.home em em 0 0 (.slice none 0 0) tk 0 tc).toArray] w fun e w'=>e = .returned (.int .i64 0)∧Fr [] w w':=by
 have b0:Holds (w.alloc (.cells (rqv 9 em M.home em em 0 0 (.slice none 0 0) tk 0 tc).toArray 41)) w.heap.size 41 (rqv 9 em M.home em em 0 0 (.slice none 0 0) tk 0 tc).toArray:=Holds.new _ _ _
 have f0:Fr [] w (w.alloc (.cells (rqv 9 em M.home em em 0 0 (.slice none 0 0) tk 0 tc).toArray 41)):=(Fr.refl _ _).alloc _
 have b1:=hid b0
 have F1:=hid f0
 clear b0 f0
 go_enter Tryz.func53,Tryz.ntmps53
 go_wp2_with (fail)
 refine wp_loop_rounds 1 ?_
 rw[rounds_succ]
 go_wp2_with (first
  | (go_at_call 91;refine(Id.rname_low _ _ (by first|exact ann_low|exact home_low)).mono ?_;rintro e w' ⟨rfl,rfl⟩)
  | (go_at_call 92;refine(Id.ruid_low _ _ (by assumption)).mono ?_;rintro e w' ⟨rfl,rfl⟩))
 refine wp_loop_rounds 1 ?_
 rw[rounds_succ]
 go_wp2_with (first
  | (go_at_call 93;refine(Rf.is_any _ _ (by assumption)).mono ?_;rintro e w2 ⟨rfl,f2⟩;have b1:=hid (b1.out.fr f2 (by simp));have F1:=hid (F1.out.trans f2);have c5:=b1.out.cell 5;have c6:=b1.out.cell 6;have c7:=b1.out.cell 7;have c8:=b1.out.cell 8;have c9:=b1.out.cell 9;have c10:=b1.out.cell 10;simp at c5 c6 c7 c8 c9 c10)
  | (go_at_call 94;refine(Et.rmay_any _ _ _).mono ?_;rintro e w3 ⟨rfl,f3⟩;have hcd:=(show Et.condOk _ _=true from by assumption);rw[hcd];have b1:=hid (b1.out.fr f3 (by simp));have F1:=hid (F1.out.trans f3);have d7:=b1.out.cell 7;have d8:=b1.out.cell 8;have d9:=b1.out.cell 9;have d10:=b1.out.cell 10;simp at d7 d8 d9 d10))
 refine wp_loop_rounds 1 ?_
 rw[rounds_succ]
 go_wp2_with (fail)
 go_ret
 exact⟨rfl,F1.out⟩
theorem check_list (w:World)  : Calls Tryz.prog 53 #[.agg (rqv 10 em em em em 0 0 (.slice none 0 0) 0 0 0).toArray] w fun e w'=>e = .returned (.int .i64 0)∧Fr [] w w':=by
 have b0:Holds (w.alloc (.cells (rqv 10 em em em em 0 0 (.slice none 0 0) 0 0 0).toArray 41)) w.heap.size 41 (rqv 10 em em em em 0 0 (.slice none 0 0) 0 0 0).toArray:=Holds.new _ _ _
 have f0:Fr [] w (w.alloc (.cells (rqv 10 em em em em 0 0 (.slice none 0 0) 0 0 0).toArray 41)):=(Fr.refl _ _).alloc _
 have b1:=hid b0
 have F1:=hid f0
 clear b0 f0
 go_enter Tryz.func53,Tryz.ntmps53
 go_wp2_with (fail)
 refine wp_loop_rounds 1 ?_
 rw[rounds_succ]
 go_wp2_with (first
  | (go_at_call 91;refine(Id.rname_low _ _ (by first|exact ann_low|exact home_low)).mono ?_;rintro e w' ⟨rfl,rfl⟩)
  | (go_at_call 92;refine(Id.ruid_low _ _ (by assumption)).mono ?_;rintro e w' ⟨rfl,rfl⟩))
 refine wp_loop_rounds 1 ?_
 rw[rounds_succ]
 go_wp2_with (first
  | (go_at_call 93;refine(Rf.is_any _ _ (by assumption)).mono ?_;rintro e w2 ⟨rfl,f2⟩;have b1:=hid (b1.out.fr f2 (by simp));have F1:=hid (F1.out.trans f2);have c5:=b1.out.cell 5;have c6:=b1.out.cell 6;have c7:=b1.out.cell 7;have c8:=b1.out.cell 8;have c9:=b1.out.cell 9;have c10:=b1.out.cell 10;simp at c5 c6 c7 c8 c9 c10)
  | (go_at_call 94;refine(Et.rmay_any _ _ _).mono ?_;rintro e w3 ⟨rfl,f3⟩;have hcd:=(show Et.condOk _ _=true from by assumption);rw[hcd];have b1:=hid (b1.out.fr f3 (by simp));have F1:=hid (F1.out.trans f3);have d7:=b1.out.cell 7;have d8:=b1.out.cell 8;have d9:=b1.out.cell 9;have d10:=b1.out.cell 10;simp at d7 d8 d9 d10))
 refine wp_loop_rounds 1 ?_
 rw[rounds_succ]
 go_wp2_with (fail)
 go_ret
 exact⟨rfl,F1.out⟩
end Go.Proofs.YtjmkkcckfbnmeaaGreatDoor.Pr
