/- Texts SrvG, SrvH, SrvI, SrvJ, SrvK, SrvL. -/
import Derived.Test.YtjmkkcckfbnmeaaGreatDoorM42
import Derived.Test.YtjmkkcckfbnmeaaGreatDoorM43
import Derived.RegionTactic
import Derived.BigRegion
import Derived.Deep.QuietTactic
import Derived.BigQuiet
import Derived.StillTailTactics
set_option maxRecDepth 100000
set_option maxHeartbeats 8000000
set_option linter.all false
open Go.Lib (hid)
namespace Go.Proofs.YtjmkkcckfbnmeaaGreatDoor.Sv
open Go.RowKit Cr Tk Fm
theorem putL_get (k:Int)(s:ByteArray)(h0:0≤k)(h1:k≤255)(hs:s.size≤20000){w:World}{g n c:Nat}(hr:Row w 5 1 g n c (putCells [] k s))(j:Nat)(u:UInt8)(hu:(En.putL k s)[j]? = some u):w.cell? ⟨g,0+j,none⟩=some (.int .u8 u.toNat):=by
 rw[En.putCells_eq k s h0 h1 hs] at hr
 rw[Nat.zero_add]
 exact hr.cell (by simp[bc,hu])
theorem ans_end {w W:World}{b:Blk}{st:Int}{x:Cx}{a:M.Resp}{v:Value}(h:Holds W b.c 85 (connC b st x).toArray)(hf:Fr [] w W) :
  Ending.returned (.tuple #[])=Ending.returned (.tuple #[])∧Holds (((((((((((W.setCell ⟨b.c,19,none⟩ (.string (En.bytesOf (En.respF a)))).setCell ⟨b.c,20,none⟩ (.int .i64 a.kind)).setCell ⟨b.c,21,none⟩ (.int .i64 a.err)).setCell ⟨b.c,22,none⟩ (.int .i64 a.token)).setCell ⟨b.c,23,none⟩ (.int .i64 a.version)).setCell ⟨b.c,24,none⟩ (.string a.card)).setCell ⟨b.c,25,none⟩ (.int .i64 a.index)).setCell ⟨b.c,26,none⟩ (.bool a.more)).setCell ⟨b.c,27,none⟩ v).setCell ⟨b.c,28,none⟩ (.bool false)).setCell ⟨b.c,0,none⟩ (.int .i64 3)).drew b.c 85 (connC b 3 { x with fr:=En.bytesOf (En.respF a),rp:=a,vi:=v,last:=false }).toArray∧Fr [b.c] w (((((((((((W.setCell ⟨b.c,19,none⟩ (.string (En.bytesOf (En.respF a)))).setCell ⟨b.c,20,none⟩ (.int .i64 a.kind)).setCell ⟨b.c,21,none⟩ (.int .i64 a.err)).setCell ⟨b.c,22,none⟩ (.int .i64 a.token)).setCell ⟨b.c,23,none⟩ (.int .i64 a.version)).setCell ⟨b.c,24,none⟩ (.string a.card)).setCell ⟨b.c,25,none⟩ (.int .i64 a.index)).setCell ⟨b.c,26,none⟩ (.bool a.more)).setCell ⟨b.c,27,none⟩ v).setCell ⟨b.c,28,none⟩ (.bool false)).setCell ⟨b.c,0,none⟩ (.int .i64 3)).drew:=by
 refine⟨rfl,?_,(hf.mono (by simp)).trans ((((((((((((Fr.refl [b.c] W).setCell (p:=⟨b.c,19,none⟩) (by simp) _).setCell (p:=⟨b.c,20,none⟩) (by simp) _).setCell (p:=⟨b.c,21,none⟩) (by simp) _).setCell (p:=⟨b.c,22,none⟩) (by simp) _).setCell (p:=⟨b.c,23,none⟩) (by simp) _).setCell (p:=⟨b.c,24,none⟩) (by simp) _).setCell (p:=⟨b.c,25,none⟩) (by simp) _).setCell (p:=⟨b.c,26,none⟩) (by simp) _).setCell (p:=⟨b.c,27,none⟩) (by simp) _).setCell (p:=⟨b.c,28,none⟩) (by simp) _).setCell (p:=⟨b.c,0,none⟩) (by simp) _).drew⟩
 have:=(((((((((((h.set 19 (.string (En.bytesOf (En.respF a)))).set 20 (.int .i64 a.kind)).set 21 (.int .i64 a.err)).set 22 (.int .i64 a.token)).set 23 (.int .i64 a.version)).set 24 (.string a.card)).set 25 (.int .i64 a.index)).set 26 (.bool a.more)).set 27 v).set 28 (.bool false)).set 0 (.int .i64 3))
 exact Holds.drew (by simpa[connC] using this)
theorem answer_any (w:World)(B g:Nat)(b:Blk)(va:Value)(st:Int)(x:Cx)(a:M.Resp)(hc:Holds w b.c 85 (connC b st x).toArray)(hia:Ev.ItsAt w B va a.items)(ok:M.respOk a=true) :
  Calls Tryz.prog 36 #[.pointer (some ⟨g,0,none⟩),.pointer (some ⟨b.c,0,none⟩),.agg (Ev.rsc a va).toArray,.bool false] w fun e w'=>e = .returned (.tuple #[])∧Holds w' b.c 85 (connC b 3 { x with fr:=En.bytesOf (En.respF a),rp:=a,vi:=va,last:=false }).toArray∧Fr [b.c] w w':=by
 have okp:=Rp.resp_ok ok
 have hsz:=Rp.respB_len okp
 obtain⟨ia,ic,hiv⟩:=Own.form hia
 subst hiv
 have hcl:=hc.lt
 have HC:=hid hc
 have HI:=hid hia
 have hk:0≤a.kind∧a.kind≤11:=⟨okp.k0,okp.k1⟩
 have HE:=hid (fun W (f:Fr [] w W)=>Rp.encode_any W B a (.slice ia a.items.length ic) (Own.fr0 hia f) okp)
 simp only[Ev.rsc] at HE ⊢
 clear hc hia okp ok
 go_enter Tryz.func36,Tryz.ntmps36
 go_wp2_with fail
 refine(HE.out _ ((Fr.refl _ _).alloc _)).mono ?_
 rintro e w1 ⟨v1,rfl,hb1,f1⟩
 obtain⟨a1,n1,c1,rfl,hn1,hby⟩:=hb1
 have F1:=hid (((Fr.refl [] w).alloc _).trans f1)
 have B1:=hid ((Holds.new w 53 _).fr f1 (by simp))
 have t0:=B1.out.cell 0
 simp at t0
 obtain⟨bb,off,rfl,hbb,hbc⟩:=hby (by rw[Rp.respB_eq,List.length_append,Rp.headB_len];omega)
 obtain⟨body,hbody⟩:∃ body,body=En.bytesOf (En.respB a):=⟨_,rfl⟩
 have hbs:body.size=n1:=by rw[hbody,En.bytesOf_size];exact hn1
 have hbz:body.size≤400:=by rw[hbs,←hn1];exact hsz
 subst hbs
 have kc1:=conv_body w1 bb off body.size c1 body rfl (fun k u hu=>hbc k u (by rw[hbody,En.bytesOf_list] at hu;exact hu))
 have HBd:=hid hbody
 clear f1 hby hbc hn1 hsz hbody
 go_wp2_with fail
 have HPt:=hid (put_ok w1 none 0 0 [] (fun h=>by simp at h) rfl (by omega) (128+a.kind) body (by omega) (by omega) (by omega))
 simp only[Nat.zero_add] at HPt
 refine HPt.out.mono ?_
 rintro e w2 ⟨gp,cp',rfl,hgp,hrow,f2⟩
 have B2:=B1.out.fr f2 (by simp)
 have F2:=F1.out.trans f2
 have C2:=HC.out.fr F2 (by simp)
 have kc2:=conv_body w2.drew gp 0 (body.size+6) cp' (En.bytesOf (En.putL (128+a.kind) body)) (by rw[En.bytesOf_size,En.putL_length]) (fun k u hu=>putL_get (128+a.kind) body (by omega) (by omega) (by omega) hrow.drew k u (by rw[En.bytesOf_list] at hu;exact hu))
 have hfr:En.bytesOf (En.putL (128+a.kind) body)=En.bytesOf (En.respF a):=by rw[HBd.out];rfl
 rw[hfr] at kc2
 clear hfr kc1
 obtain⟨q0,q1,q2,q3,q4,q5,q6,q7⟩:=B2.cs8
 have d0:=C2.cell 0
 have d19:=C2.cell 19
 have d20:=C2.cell 20
 have d21:=C2.cell 21
 have d22:=C2.cell 22
 have d23:=C2.cell 23
 have d24:=C2.cell 24
 have d25:=C2.cell 25
 have d26:=C2.cell 26
 have d27:=C2.cell 27
 have d28:=C2.cell 28
 have z0:=C2.frozen 0
 have z19:=C2.frozen 19
 have z20:=C2.frozen 20
 have z21:=C2.frozen 21
 have z22:=C2.frozen 22
 have z23:=C2.frozen 23
 have z24:=C2.frozen 24
 have z25:=C2.frozen 25
 have z26:=C2.frozen 26
 have z27:=C2.frozen 27
 have z28:=C2.frozen 28
 simp at q0 q1 q2 q3 q4 q5 q6 q7
 simp[connC] at d0 d19 d20 d21 d22 d23 d24 d25 d26 d27 d28
 have l2:=B2.lt
 have l3:=C2.lt
 have F2':=hid F2
 have HC2:=hid C2
 clear B2 F2 C2 hrow hgp t0
 go_wp2_with fail
 go_region
 go_wp2_with fail
 go_end0
 exact ans_end HC2.out F2'.out
end Go.Proofs.YtjmkkcckfbnmeaaGreatDoor.Sv
namespace Go.Proofs.YtjmkkcckfbnmeaaGreatDoor.Sv
open Go.RowKit Cr
theorem respF_len {a:M.Resp}(h:M.respOk a=true):(En.respF a).length≤406:=by
 have:=Rp.respB_len (Rp.resp_ok h)
 unfold En.respF
 rw[En.putL_length,En.bytesOf_size]
 omega
theorem out_len {l:List M.Resp}(h:∀ a,a∈l→M.respOk a=true):(l.flatMap En.respF).length≤406*l.length:=by
 induction l with
 | nil=>simp
 | cons q l ih =>
  have h1:=respF_len (h q (by simp))
  have h2:=ih fun x hx=>h x (by simp[hx])
  simp only[List.flatMap_cons,List.length_append,List.length_cons]
  omega
structure MayConn (s:M.Srv)(i:Nat)(m:M.Conn):Prop where
 s0:0≤m.seq
 s1:m.seq≤100
 t:m.todo.length≤10
 o:m.out.length≤10
 tq:∀ q,q∈m.todo→M.reqOk q=true
 oa:∀ a,a∈m.out→M.respOk a=true
 st:(m.state=1∧(∀ q r,m.todo=q::r→((q.kind==1) != m.bound)=true))∨(m.state=2∧M.reqOk m.turn=true∧M.mayCan s.core m.task=true∧(m.task.can s.core i=true→M.mayStep s.core m.task i=true))∨(m.state=3∧M.reqOk m.turn=true∧M.respOk m.reply=true)
theorem may_conn {s:M.Srv}{i:Nat}{m:M.Conn}(h:M.mayConn s i m=true):MayConn s i m:=by
 unfold M.mayConn at h
 simp only[Bool.and_eq_true,decide_eq_true_eq,List.all_eq_true] at h
 obtain⟨⟨⟨⟨h1,h2,h3,h4⟩,h5⟩,h6⟩,h7⟩:=h
 refine⟨h1,h2,h3,h4,h5,h6,?_⟩
 by_cases e1:m.state=1
 ·rw[if_pos e1] at h7
  refine .inl ⟨e1,fun q r e=>?_⟩
  rw[e] at h7
  exact h7
 ·rw[if_neg e1] at h7
  by_cases e2:m.state=2
  ·rw[if_pos e2] at h7
   simp only[Bool.and_eq_true,Bool.or_eq_true,Bool.not_eq_true'] at h7
   obtain⟨⟨a,b⟩,c⟩:=h7
   refine .inr (.inl ⟨e2,a,b,fun hc=>?_⟩)
   rcases c with c|c
   ·rw[hc] at c;cases c
   ·exact c
  ·rw[if_neg e2] at h7
   simp only[Bool.and_eq_true,decide_eq_true_eq] at h7
   obtain⟨⟨a,b⟩,c⟩:=h7
   exact .inr (.inr ⟨a,b,c⟩)
theorem at_any (w:World)(B g i:Nat)(k:Cf)(xc:M.Core)(xp:Nat)(vc ve:Value)(bs:List Blk)(b:Blk)(hs:Holds w g 77 (srvC k xc xp vc ve).toArray)(hc:Own w B 78 1 vc bs.length (flat cp bs))(hbi:bs[i]? = some b) :
  Calls Tryz.prog 24 #[.pointer (some ⟨g,0,none⟩),.int .i64 i] w fun e w'=>e = .returned (.pointer (some ⟨b.c,0,none⟩))∧w=w':=by
 obtain⟨gc,cc,hgc,hvc,hrc,hgcl,hcc⟩:=hc.cell cp_len rfl hbi
 subst hvc
 have m0:=hcc 0 _ (by omega) rfl
 have hil:(i:Int)<(bs.length:Int):=by have:=(List.getElem?_eq_some_iff.1 hbi).1;omega
 have c9:=hs.cell 9
 simp[srvC,confC] at c9
 simp at m0
 clear hs hc hcc hrc
 go_enter Tryz.func24,Tryz.ntmps24
 go_wp2_with fail
 go_ret
 exact⟨rfl,rfl⟩
theorem can_any (w:World)(B g xp i:Nat)(k:Cf)(bs:List Blk)(s:M.Srv)(vc ve:Value)(b:Blk)(m:M.Conn)(x:Cx)(h:SrvP w B g xp k bs s vc ve)(hbi:bs[i]? = some b)(hmi:s.conns[i]? = some m)(hx:ConnP w B xp k.room b i m x)(hm:MayConn s i m)(hr0:5000≤k.room)(hr1:k.room≤100000) :
  Calls Tryz.prog 12 #[.pointer (some ⟨g,0,none⟩),.int .i64 i] w fun e w'=>e = .returned (.bool (s.can i))∧Fr [] w w':=by
 have hcan:s.can i=(if m.state=1 then !m.todo.isEmpty else if m.state=2 then m.task.can s.core i else decide (m.state=3)):=by
  unfold M.Srv.can
  rw[hmi]
 have HA:=hid (at_any w B g i k s.core xp vc ve bs b h.cell h.conns hbi)
 have c11:=h.cell.cell 11
 have d0:=hx.cell.cell 0
 have d1:=hx.cell.cell 1
 have d2:=hx.cell.cell 2
 have d3:=hx.cell.cell 3
 have d19:=hx.cell.cell 19
 simp[srvC,confC] at c11
 simp[connC] at d0 d1 d2 d3 d19
 have hbl:=hx.cell.lt
 rcases hm.st with⟨e1,_⟩|⟨e2,hq,hmc,_⟩|⟨e3,hq,hrp⟩
 ·rw[if_pos e1] at hcan
  have HRd:=hid (Se.ready_any w b.se b.pi _ _ _ m.todo hx.sess hx.inp hm.tq (by have:=hm.t;omega))
  rw[e1] at d0
  have HCn:=hid hcan
  generalize m.todo.isEmpty=em at *
  clear h hx hm hcan hmi
  go_enter Tryz.func12,Tryz.ntmps12
  go_wp2_with fail
  refine HA.out.mono ?_
  rintro e w1 ⟨rfl,rfl⟩
  go_wp2_with fail
  refine HRd.out.mono ?_
  rintro e w2 ⟨rfl,f2⟩
  go_wp2_with fail
  go_ret
  exact⟨by rw[HCn.out];rfl,f2⟩
 ·rw[if_neg (by omega),if_pos e2] at hcan
  obtain⟨ta,hta,hBt,htv,htk⟩:=hx.ta e2
  have HCn:=hid hcan
  have HTc:=hid (Tk.can_any w B ta xp i m.task k s.core htk h.core hmc)
  rw[e2] at d0
  rw[htv] at d3
  generalize m.task.can s.core i=cn at *
  clear h hx hm hcan hmi htv htk
  go_enter Tryz.func12,Tryz.ntmps12
  go_wp2_with fail
  refine HA.out.mono ?_
  rintro e w1 ⟨rfl,rfl⟩
  go_wp2_with fail
  refine HTc.out.mono ?_
  rintro e w2 ⟨rfl,f2⟩
  go_wp2_with fail
  go_ret
  exact⟨by rw[HCn.out];rfl,f2⟩
 ·rw[if_neg (by omega),if_neg (by omega),decide_eq_true e3] at hcan
  have HCn:=hid hcan
  have ho:=out_len hm.oa
  have hol:=hm.o
  have hrl:=respF_len hrp
  have hsz:(outB m).size≤4060:=by unfold outB;rw[En.bytesOf_size];omega
  obtain⟨hfr,_,_⟩:=hx.ans e3
  have hfz:x.fr.size≤406:=by rw[hfr,En.bytesOf_size];exact hrl
  have HRm:=hid (fun W (f:Fr [] w W)=>Pi.room_any W b.po k.room (outB m) false (Holds.fr hx.outp f (by simp)) (by omega) (by omega) (by omega))
  have hge:¬ (k.room - (outB m).size:Int)<(x.fr.size:Int):=by omega
  rw[e3] at d0
  clear h hx hm hcan hmi ho hfr
  generalize (outB m).size=sz at *
  generalize hfs:x.fr=fb at *
  go_enter Tryz.func12,Tryz.ntmps12
  go_wp2_with fail
  refine HA.out.mono ?_
  rintro e w1 ⟨rfl,rfl⟩
  go_wp2_with fail
  go_quiet ((go_at_call 30;exact quiet_draw (HRm.out _ (by first|exact(Fr.refl _ _).drewN _|exact(Fr.refl _ _).drew|exact Fr.refl _ _))))
  go_wp2_with fail
  go_ret
  exact⟨by rw[HCn.out];rfl,(Fr.refl _ _).drewN _⟩
end Go.Proofs.YtjmkkcckfbnmeaaGreatDoor.Sv
namespace Go.Proofs.YtjmkkcckfbnmeaaGreatDoor.Sv
open Go.RowKit Cr
theorem flat_set_same {α:Type}{f:α→List Value} : ∀ {l:List α} {i:Nat} {b b':α},l[i]? = some b→f b'=f b→flat f (l.set i b')=flat f l
 | [],_,_,_,h,_=>by simp at h
 | a::l,0,b,b',h,e=>by
  simp at h
  subst h
  show f b'++flat f l=f a++flat f l
  rw[e]
 | a::l,i+1,b,b',h,e=>by
  show f a++flat f (l.set i b')=f a++flat f l
  rw[flat_set_same (by simpa using h) e]
section
variable {w w':World} {B g xp i:Nat} {k:Cf} {bs:List Blk} {s:M.Srv} {vc ve ve':Value} {b b':Blk} {m m':M.Conn} {x x':Cx} {xc':M.Core} {ev':List M.Ev} {Us:List TypeId} {S:List Nat} {room:Int} {who:Int}
theorem ConnP.all_lt (h:ConnP w B xp room b who m x):∀ y,y∈b.all→y<w.heap.size:=by
 intro y hy
 simp only[Blk.all,List.mem_cons] at hy
 rcases hy with rfl|rfl|rfl|rfl|hy
 ·exact h.cell.lt
 ·exact h.sess.lt
 ·exact Holds.lt h.inp
 ·exact Holds.lt h.outp
 ·by_cases e:m.state=2
  ·obtain⟨ta,h1,_,_,vo,vi,h4⟩:=h.ta e
   rw[h1] at hy
   simp at hy
   subst hy
   exact h4.cell.lt
  ·rw[h.nta e] at hy
   simp at hy
theorem ConnP.all_ty (h:ConnP w B xp room b who m x):∀ y,y∈b.all→∃ t,tyOf w y=some t∧t≠49∧t≠154∧t≠78∧t≠56∧t≠77∧t∉Ts:=by
 intro y hy
 simp only[Blk.all,List.mem_cons] at hy
 rcases hy with rfl|rfl|rfl|rfl|hy
 ·exact⟨_,h.cell.ty,by decide,by decide,by decide,by decide,by decide,by decide⟩
 ·exact⟨_,h.sess.ty,by decide,by decide,by decide,by decide,by decide,by decide⟩
 ·exact⟨_,Holds.ty h.inp,by decide,by decide,by decide,by decide,by decide,by decide⟩
 ·exact⟨_,Holds.ty h.outp,by decide,by decide,by decide,by decide,by decide,by decide⟩
 ·by_cases e:m.state=2
  ·obtain⟨ta,h1,_,_,vo,vi,h4⟩:=h.ta e
   rw[h1] at hy
   simp at hy
   subst hy
   exact⟨_,h4.cell.ty,by decide,by decide,by decide,by decide,by decide,by decide⟩
  ·rw[h.nta e] at hy
   simp at hy
theorem tyOf_none {y:Nat}(h:w.heap.size≤y):tyOf w y=none:=by
 unfold tyOf
 rw[Array.getElem?_eq_none h]
theorem SrvP.turn (h:SrvP w B g xp k bs s vc ve)(hbi:bs[i]? = some b)(hmi:s.conns[i]? = some m)(hx:ConnP w B xp k.room b i m x)(hb:b'.c=b.c)(hpp:b'.po=b.po∧b'.pi=b.pi)(hsrv:Holds w' g 77 (srvC k xc' xp vc ve').toArray)(hcore:CoreAt w' B xp k xc')(hconn:ConnP w' B xp k.room b' i m' x')(hevs:Ev.EvsAt w' B ve' ev')
  (hf:FrX B Us S w w') (hU:∀ t,t∈78::CTs→t∉Us) (hS:∀ y,y∈S→y=g∨y∈b.all∨w.heap.size≤y) (hall:∀ y,y∈b'.all→y∈b.all∨w.heap.size≤y) :
  SrvP w' B g xp k (bs.set i b') ⟨xc',s.conns.set i m',ev'⟩ vc ve':=by
 have hil:=(List.getElem?_eq_some_iff.1 hbi).1
 have hsty:∀ y,y∈S→∀ t,tyOf w y=some t→t≠49∧t≠154∧t≠78:=fun y hy t ht=>by
  rcases hS y hy with rfl|h'|h'
  ·rw[h.cell.ty] at ht
   cases ht
   exact⟨by decide,by decide,by decide⟩
  ·obtain⟨t',h1,h2,h3,h4,_⟩:=hx.all_ty y h'
   rw[h1] at ht
   cases ht
   exact⟨h2,h3,h4⟩
  ·rw[tyOf_none h'] at ht
   cases ht
 refine⟨h.bg,h.bxp,hsrv,hcore,by simpa using h.len,?_,?_,?_,hevs,?_⟩
 ·rw[flat_set_same hbi (show cp b'=cp b by simp[cp,hb]),List.length_set]
  exact h.conns.frx hf (hU _ (by simp)) fun y hy hm=>(hsty y hm _ (h.conns.ty hy).1).2.2 rfl
 ·intro j b2 m2 hj hm2
  by_cases e:i=j
  ·subst e
   have hil2:=(List.getElem?_eq_some_iff.1 hmi).1
   have e1:(bs.set i b')[i]? = some b':=by simp[hil]
   have e2:(s.conns.set i m')[i]? = some m':=by simp[hil2]
   rw[e1] at hj
   simp only[] at hm2
   rw[e2] at hm2
   cases hj
   cases hm2
   exact⟨x',hconn⟩
  ·rw[List.getElem?_set_ne e] at hj hm2
   obtain⟨x2,hx2⟩:=h.each j b2 m2 hj hm2
   refine⟨x2,hx2.frx hf (fun t ht=>hU t (by simp[ht])) fun y hy=>⟨fun hm=>?_,fun t ht=>⟨(hsty y hy t ht).1,(hsty y hy t ht).2.1⟩⟩⟩
   rcases hS y hy with rfl|h'|h'
   ·obtain⟨t',h1,_,_,_,_,h5,_⟩:=hx2.all_ty _ hm
    rw[h.cell.ty] at h1
    exact h5 (Option.some.inj h1).symm
   ·exact h.apart i j b b2 e hbi hj y h' hm
   ·have:=hx2.all_lt _ hm
    omega
 ·intro a c b1 b2 hac ha hc y hy hm
  by_cases ea:i=a
  ·subst ea
   rw[List.getElem?_set_ne hac] at hc
   have e1:(bs.set i b')[i]? = some b':=by simp[hil]
   rw[e1] at ha
   cases ha
   rcases hall y hy with h'|h'
   ·exact h.apart i c b b2 hac hbi hc y h' hm
   ·have hcl:=(List.getElem?_eq_some_iff.1 hc).1
    have hcm:s.conns[c]? = some (s.conns[c]'(by rw[←h.len];exact hcl)):=List.getElem?_eq_getElem _
    obtain⟨x2,hx2⟩:=h.each c b2 _ hc hcm
    have:=hx2.all_lt _ hm
    omega
  ·rw[List.getElem?_set_ne ea] at ha
   by_cases ec:i=c
   ·subst ec
    have e1:(bs.set i b')[i]? = some b':=by simp[hil]
    rw[e1] at hc
    cases hc
    rcases hall y hm with h'|h'
    ·exact h.apart a i b1 b hac ha hbi y hy h'
    ·have hcl:=(List.getElem?_eq_some_iff.1 ha).1
     have hcm:s.conns[a]? = some (s.conns[a]'(by rw[←h.len];exact hcl)):=List.getElem?_eq_getElem _
     obtain⟨x2,hx2⟩:=h.each a b1 _ ha hcm
     have:=hx2.all_lt _ hy
     omega
   ·rw[List.getElem?_set_ne ec] at hc
    exact h.apart a c b1 b2 hac ha hc y hy hm
 ·intro j b2 hj
  by_cases e:i=j
  ·subst e
   have e1:(bs.set i b')[i]? = some b':=by simp[hil]
   rw[e1] at hj
   cases hj
   rw[hpp.1,hpp.2]
   exact h.npo i b hbi
  ·rw[List.getElem?_set_ne e] at hj
   exact h.npo j b2 hj
theorem ConnP.fr0 (h:ConnP w B xp room b who m x)(hf:Fr [] w w'):ConnP w' B xp room b who m x:=h.frx (Us:=[]) (S:=[]) (FrX.of_fr0 hf) (by simp) (by simp)
theorem SrvP.fr0 (h:SrvP w B g xp k bs s vc ve)(hf:Fr [] w w'):SrvP w' B g xp k bs s vc ve :=
 ⟨h.bg,h.bxp,h.cell.fr hf (by simp),h.core.fr0 hf,h.len,Own.fr0 h.conns hf,fun i b m hb hm=>by
  obtain⟨x,hx⟩:=h.each i b m hb hm
  exact⟨x,hx.fr0 hf⟩,h.apart,h.evs.frx (FrX.of_fr0 (Ts:=[]) hf) (by simp) (by simp) (by simp),h.npo⟩
end
end Go.Proofs.YtjmkkcckfbnmeaaGreatDoor.Sv
namespace Go.Proofs.YtjmkkcckfbnmeaaGreatDoor.Sv
open Go.RowKit Cr
theorem ops_le {q:M.Req}(h:M.reqOk q=true):q.ops.length≤8:=by
 have hs:=(Rq.sh_of h).1
 generalize q.kind=k at *
 generalize q.tenant=a at *
 generalize q.col=b at *
 generalize q.uid=c at *
 generalize q.card=d at *
 generalize q.ck=e at *
 generalize q.cv=f at *
 generalize q.ops.length=g at *
 generalize q.token=i at *
 generalize q.most=j at *
 generalize q.ticks=l at *
 cases hs<;>omega
def putC (W:World)(c:Nat)(s:Int)(q:M.Req)(v:Value):World:=(((((((((((((((W.setCell ⟨c,4,none⟩ (.int .i64 1)).setCell ⟨c,5,none⟩ (.int .i64 s)).setCell ⟨c,6,none⟩ (.int .i64 q.kind)).setCell ⟨c,7,none⟩ (.int .i64 q.kind)).setCell ⟨c,8,none⟩ (.string q.tenant)).setCell ⟨c,9,none⟩ (.string q.col)).setCell ⟨c,10,none⟩ (.string q.uid)).setCell ⟨c,11,none⟩ (.string q.card)).setCell ⟨c,12,none⟩ (.int .i64 q.ck)).setCell ⟨c,13,none⟩ (.int .i64 q.cv)).setCell ⟨c,14,none⟩ v).setCell ⟨c,15,none⟩ (.int .i64 q.token)).setCell ⟨c,16,none⟩ (.int .i64 q.most)).setCell ⟨c,17,none⟩ (.int .i64 q.ticks)).setCell ⟨c,18,none⟩ (.int .i64 0))
theorem putC_fr {W:World}{c:Nat}{s:Int}{q:M.Req}{v:Value} : Fr [c] W (putC W c s q v):=((((((((((((((((Fr.refl [c] W).setCell (p:=⟨c,4,none⟩) (by simp) _).setCell (p:=⟨c,5,none⟩) (by simp) _).setCell (p:=⟨c,6,none⟩) (by simp) _).setCell (p:=⟨c,7,none⟩) (by simp) _).setCell (p:=⟨c,8,none⟩) (by simp) _).setCell (p:=⟨c,9,none⟩) (by simp) _).setCell (p:=⟨c,10,none⟩) (by simp) _).setCell (p:=⟨c,11,none⟩) (by simp) _).setCell (p:=⟨c,12,none⟩) (by simp) _).setCell (p:=⟨c,13,none⟩) (by simp) _).setCell (p:=⟨c,14,none⟩) (by simp) _).setCell (p:=⟨c,15,none⟩) (by simp) _).setCell (p:=⟨c,16,none⟩) (by simp) _).setCell (p:=⟨c,17,none⟩) (by simp) _).setCell (p:=⟨c,18,none⟩) (by simp) _)
def turned (x:Cx)(s:Int)(q:M.Req)(v:Value):Cx:={ x with what:=1,seq:=s,kind:=q.kind,q:=q,vo:=v,err:=0 }
theorem putC_holds {W:World}{t st s:Int}{q:M.Req}{v:Value}{b:Blk}{x:Cx}{ty:TypeId}(h:Holds W b.c ty (connC b st x).toArray):Holds (putC W b.c s q v) b.c ty (connC b st (turned x s q v)).toArray:=by
 have h:Holds W b.c ty (connC b st x).toArray:=h
 have:=(((((((((((((((h.set 4 (.int .i64 1)).set 5 (.int .i64 s)).set 6 (.int .i64 q.kind)).set 7 (.int .i64 q.kind)).set 8 (.string q.tenant)).set 9 (.string q.col)).set 10 (.string q.uid)).set 11 (.string q.card)).set 12 (.int .i64 q.ck)).set 13 (.int .i64 q.cv)).set 14 v).set 15 (.int .i64 q.token)).set 16 (.int .i64 q.most)).set 17 (.int .i64 q.ticks)).set 18 (.int .i64 0))
 simpa[connC,putC,turned] using this
structure Rd (w W:World)(B g xp:Nat)(k:Cf)(bs:List Blk)(s:M.Srv)(vc ve:Value)(b:Blk)(m:M.Conn)(x:Cx)(q:M.Req)(l:List M.Req)(vo:Value)(ev:List M.Ev):Prop where
 srv:Holds W g 77 (srvC k s.core xp vc ve).toArray
 own:Own W B 78 1 vc bs.length (flat cp bs)
 con:Holds W b.c 85 (connC b 1 x).toArray
 ses:Se.SeAt W b.se b.pi (tnOf (m.bound||q.kind==1)) (m.seq+1)
 inp:Pi.PipeAt W b.pi k.room (En.bytesOf (l.flatMap En.reqF)) false
 outp:Pi.PipeAt W b.po k.room (outB m) false
 ops:Ev.OpsAt W B vo q.ops
 core:CoreAt W B xp k s.core
 evs:Ev.EvsAt W B ve ev
 frx:FrX B [56] (g::b.all) w W
theorem Rd.note {w W W':World}{B g xp:Nat}{k:Cf}{bs:List Blk}{s:M.Srv}{vc ve ve':Value}{b:Blk}{m:M.Conn}{x:Cx}{q:M.Req}{l:List M.Req}{vo:Value}{ev ev':List M.Ev}(h:Rd w W B g xp k bs s vc ve b m x q l vo ev)
  (hs:Holds W' g 77 (srvC k s.core xp vc ve').toArray) (he:Ev.EvsAt W' B ve' ev') (hf:FrX B [56] [g] W W'):Rd w W' B g xp k bs s vc ve' b m x q l vo ev':=by
 have hn:∀ {y t:Nat} {cs:Array Value},Holds W y t cs→t≠77→y∉[g]:=fun hy ht hm=>hy.ne h.srv ht (by simpa using hm)
 have hx:FrX B [56,77] [] W W':=(hf.mono (Ts:=[56,77]) (by simp) (fun _ h=>h)).shed (fun z hz=>.inr (.inr ⟨77,by simp,by simp at hz;subst hz;exact h.srv.ty⟩))
 exact⟨hs,h.own.frx0 hx (by decide),h.con.frx hf (by decide) (hn h.con (by decide)),Holds.frx h.ses hf (by decide) (hn h.ses (by decide)),Holds.frx h.inp hf (by decide) (hn h.inp (by decide)),Holds.frx h.outp hf (by decide) (hn h.outp (by decide)),h.ops.frx0 hx (by decide),h.core.frx hx (by decide),he,h.frx.trans (hf.mono (fun _ h=>h) (by simp))⟩
theorem Rd.fr0 {w W W':World}{B g xp:Nat}{k:Cf}{bs:List Blk}{s:M.Srv}{vc ve:Value}{b:Blk}{m:M.Conn}{x:Cx}{q:M.Req}{l:List M.Req}{vo:Value}{ev:List M.Ev}(h:Rd w W B g xp k bs s vc ve b m x q l vo ev)(hf:Fr [] W W'):Rd w W' B g xp k bs s vc ve b m x q l vo ev :=
 ⟨h.srv.fr hf (by simp),Own.fr0 h.own hf,h.con.fr hf (by simp),h.ses.fr hf (by simp),Holds.fr h.inp hf (by simp),Holds.fr h.outp hf (by simp),Own.fr0 h.ops hf,h.core.fr0 hf,h.evs.frx (FrX.of_fr0 (Ts:=[]) hf) (by simp) (by simp) (by simp),h.frx.trans (FrX.of_fr0 hf)⟩
theorem rd_start {w w1:World}{B g xp i:Nat}{k:Cf}{bs:List Blk}{s:M.Srv}{vc ve:Value}{b:Blk}{m:M.Conn}{x:Cx}{q:M.Req}{l:List M.Req}{vo:Value}(h:SrvP w B g xp k bs s vc ve)(hx:ConnP w B xp k.room b i m x)(h1:m.state=1)
  (ho:Ev.OpsAt w1 B vo q.ops) (hs:Se.SeAt w1 b.se b.pi (tnOf (m.bound||q.kind==1)) (m.seq+1)) (hp:Pi.PipeAt w1 b.pi k.room (En.bytesOf (l.flatMap En.reqF)) false) (hf:Fr [b.se,b.pi] w w1) (hcc:b.c∉[b.se,b.pi]) (hpo:b.po∉[b.se,b.pi]) :
  Rd w (putC w1 b.c (m.seq+1) q vo) B g xp k bs s vc ve b m (turned x (m.seq+1) q vo) q l vo s.events:=by
 have x1:FrX B [127,129] [] w w1:=FrX.of_frT hf (fun y hy=>by
  simp at hy
  rcases hy with rfl|rfl
  ·exact hx.bse
  ·exact hx.bpi) (fun y hy=>by
  simp at hy
  rcases hy with rfl|rfl
  ·exact⟨127,by simp,hx.sess.ty⟩
  ·exact⟨129,by simp,Holds.ty hx.inp⟩)
 have con1:=hx.cell.fr hf hcc
 have f2:Fr [b.c] w1 (putC w1 b.c (m.seq+1) q vo):=putC_fr
 have x2:FrX B [85] [] w1 (putC w1 b.c (m.seq+1) q vo):=FrX.of_frT f2 (by simpa using hx.bc) (fun y hy=>⟨85,by simp,by simp at hy;subst hy;exact con1.ty⟩)
 refine⟨(h.cell.frx x1 (by decide) (by simp)).frx x2 (by decide) (by simp),(h.conns.frx0 x1 (by decide)).frx0 x2 (by decide),?_,Holds.frx hs x2 (by decide) (by simp),Holds.frx hp x2 (by decide) (by simp),Holds.frx (Holds.fr hx.outp hf hpo) x2 (by decide) (by simp),ho.frx0 x2 (by decide),(h.core.frx x1 (by decide)).frx x2 (by decide),(h.evs.frx x1 (by decide) (by decide) (by decide)).frx x2 (by decide) (by decide) (by decide),?_⟩
 ·have:=putC_holds (t:=0) (s:=m.seq+1) (q:=q) (v:=vo) con1
  rw[h1] at this
  exact this
 ·refine FrX.trans (FrX.of_fr hf (fun y hy=>?_) |>.mono (fun _ h=>h) (by simp[Blk.all])) ((FrX.of_fr f2 (by simpa using hx.bc)).mono (fun _ h=>h) (by simp[Blk.all]))
  simp at hy
  rcases hy with rfl|rfl
  ·exact hx.bse
  ·exact hx.bpi
theorem rd_cells' {w':World}{g xp n:Nat}{k:Cf}{c:M.Core}{vc ve:Value}{b:Blk}{st sq:Int}{x:Cx}{q:M.Req}{v:Value}(h1:Holds w' g 77 (srvC k c xp vc ve).toArray)(h2:Holds w' b.c 85 (connC b st x).toArray)(h3:Se.SeAt w' b.se b.pi tn sq)(hb:Holds w' n 41 (Ev.rqc q v).toArray) :
  w'.cell? ⟨g,8,none⟩=some (.pointer (some ⟨xp,0,none⟩))∧w'.cell? ⟨b.c,1,none⟩=some (.pointer (some ⟨b.se,0,none⟩))∧w'.cell? ⟨b.se,1,none⟩=some (.string tn)∧w'.cell? ⟨n,0,none⟩=some (.int .i64 q.kind)∧w'.cell? ⟨n,1,none⟩=some (.string q.tenant)∧w'.cell? ⟨n,2,none⟩=some (.string q.col)∧w'.cell? ⟨n,3,none⟩=some (.string q.uid)∧w'.cell? ⟨n,4,none⟩=some (.string q.card)∧w'.cell? ⟨n,5,none⟩=some (.int .i64 q.ck)∧w'.cell? ⟨n,6,none⟩=some (.int .i64 q.cv)∧w'.cell? ⟨n,7,none⟩=some v∧w'.cell? ⟨n,8,none⟩=some (.int .i64 q.token)∧w'.cell? ⟨n,9,none⟩=some (.int .i64 q.most)∧w'.cell? ⟨n,10,none⟩=some (.int .i64 q.ticks) :=
 ⟨by simpa[srvC,confC] using h1.cell 8,by simpa[connC] using h2.cell 1,by simpa using h3.cell 1,by simpa[Ev.rqc] using hb.cell 0,by simpa[Ev.rqc] using hb.cell 1,by simpa[Ev.rqc] using hb.cell 2,by simpa[Ev.rqc] using hb.cell 3,by simpa[Ev.rqc] using hb.cell 4,by simpa[Ev.rqc] using hb.cell 5,by simpa[Ev.rqc] using hb.cell 6,by simpa[Ev.rqc] using hb.cell 7,by simpa[Ev.rqc] using hb.cell 8,by simpa[Ev.rqc] using hb.cell 9,by simpa[Ev.rqc] using hb.cell 10⟩
theorem rd_cells {w w':World}{B g xp n:Nat}{k:Cf}{bs:List Blk}{s:M.Srv}{vc ve:Value}{b:Blk}{m:M.Conn}{x:Cx}{q:M.Req}{l:List M.Req}{vo v:Value}{ev:List M.Ev}(h:Rd w w' B g xp k bs s vc ve b m x q l vo ev)(htn:tnOf (m.bound||q.kind==1)=tn)(hb:Holds w' n 41 (Ev.rqc q v).toArray) :
  w'.cell? ⟨g,8,none⟩=some (.pointer (some ⟨xp,0,none⟩))∧w'.cell? ⟨b.c,1,none⟩=some (.pointer (some ⟨b.se,0,none⟩))∧w'.cell? ⟨b.se,1,none⟩=some (.string tn)∧w'.cell? ⟨n,0,none⟩=some (.int .i64 q.kind)∧w'.cell? ⟨n,1,none⟩=some (.string q.tenant)∧w'.cell? ⟨n,2,none⟩=some (.string q.col)∧w'.cell? ⟨n,3,none⟩=some (.string q.uid)∧w'.cell? ⟨n,4,none⟩=some (.string q.card)∧w'.cell? ⟨n,5,none⟩=some (.int .i64 q.ck)∧w'.cell? ⟨n,6,none⟩=some (.int .i64 q.cv)∧w'.cell? ⟨n,7,none⟩=some v∧w'.cell? ⟨n,8,none⟩=some (.int .i64 q.token)∧w'.cell? ⟨n,9,none⟩=some (.int .i64 q.most)∧w'.cell? ⟨n,10,none⟩=some (.int .i64 q.ticks) :=
 rd_cells' h.srv h.con (by rw[←htn];exact h.ses) hb
theorem rd_cells3 {w w':World}{B g xp n:Nat}{k:Cf}{bs:List Blk}{s:M.Srv}{vc ve:Value}{b:Blk}{m:M.Conn}{x:Cx}{q:M.Req}{l:List M.Req}{vo v u:Value}{ev:List M.Ev}(h:Rd w w' B g xp k bs s vc ve b m x q l vo ev)(htn:tnOf (m.bound||q.kind==1)=tn)(hb:Holds w' n 41 (Ev.rqc q v).toArray) :
  (w'.setCell ⟨b.c,3,none⟩ u).cell? ⟨g,8,none⟩=some (.pointer (some ⟨xp,0,none⟩))∧(w'.setCell ⟨b.c,3,none⟩ u).cell? ⟨b.c,1,none⟩=some (.pointer (some ⟨b.se,0,none⟩))∧(w'.setCell ⟨b.c,3,none⟩ u).cell? ⟨b.se,1,none⟩=some (.string tn)∧(w'.setCell ⟨b.c,3,none⟩ u).cell? ⟨n,0,none⟩=some (.int .i64 q.kind)∧(w'.setCell ⟨b.c,3,none⟩ u).cell? ⟨n,1,none⟩=some (.string q.tenant)∧(w'.setCell ⟨b.c,3,none⟩ u).cell? ⟨n,2,none⟩=some (.string q.col)∧(w'.setCell ⟨b.c,3,none⟩ u).cell? ⟨n,3,none⟩=some (.string q.uid)∧(w'.setCell ⟨b.c,3,none⟩ u).cell? ⟨n,4,none⟩=some (.string q.card)∧(w'.setCell ⟨b.c,3,none⟩ u).cell? ⟨n,5,none⟩=some (.int .i64 q.ck)∧(w'.setCell ⟨b.c,3,none⟩ u).cell? ⟨n,6,none⟩=some (.int .i64 q.cv)∧(w'.setCell ⟨b.c,3,none⟩ u).cell? ⟨n,7,none⟩=some v∧(w'.setCell ⟨b.c,3,none⟩ u).cell? ⟨n,8,none⟩=some (.int .i64 q.token)∧(w'.setCell ⟨b.c,3,none⟩ u).cell? ⟨n,9,none⟩=some (.int .i64 q.most)∧(w'.setCell ⟨b.c,3,none⟩ u).cell? ⟨n,10,none⟩=some (.int .i64 q.ticks) :=
 rd_cells' (x:={ x with tv:=u }) (h.srv.far (h.srv.ne h.con (by decide)) _) (by simpa[connC] using h.con.set 3 u) (by rw[←htn];exact h.ses.far (h.ses.ne h.con (by decide)) _) (hb.far (hb.ne h.con (by decide)) _)
theorem read_hello {w W w6:World}{B g xp i:Nat}{k:Cf}{bs:List Blk}{s:M.Srv}{vc ve ve':Value}{b:Blk}{m:M.Conn}{x:Cx}{q:M.Req}{l:List M.Req}{vo:Value}(h:SrvP w B g xp k bs s vc ve)(hbi:bs[i]? = some b)(hmi:s.conns[i]? = some m)(hx:ConnP w B xp k.room b i m x)
  (h1:m.state=1) (htd:m.todo=q::l) (hq:M.reqOk q=true) (hk:q.kind=1) (R:Rd w W B g xp k bs s vc ve' b m (turned x (m.seq+1) q vo) q l vo (s.events++[⟨1,i,m.seq+1,{ kind:=0 }⟩]++[⟨2,i,m.seq+1,{ kind:=q.kind }⟩]))
  (hc:Holds w6 b.c 85 (connC b 3 { turned x (m.seq+1) q vo with fr:=En.bytesOf (En.respF { kind:=q.kind }),rp:={ kind:=q.kind },vi:=.slice none 0 0,last:=false }).toArray) (hf:Fr [b.c] W w6) :
  ∃ bs' ve',SrvP w6 B g xp k bs' (s.pick i) vc ve'∧FrX B (56::Ts) (g::b.all) w w6:=by
 have hp:s.pick i=⟨s.core,s.conns.set i { m with todo:=l,seq:=m.seq+1,turn:=q,bound:=true,state:=3,reply:={ kind:=1 } },s.events++[⟨1,i,m.seq+1,{ kind:=0 }⟩]++[⟨2,i,m.seq+1,{ kind:=q.kind }⟩]⟩:=by
  unfold M.Srv.pick
  simp[hmi,M.Srv.can,h1,htd,hk]
 have x6:FrX B [85] [] W w6:=FrX.of_frT hf (by simpa using hx.bc) (fun y hy=>⟨85,by simp,by simp at hy;subst hy;exact R.con.ty⟩)
 have hfx:FrX B (56::Ts) (g::b.all) w w6:=(R.frx.mono (by simp) (fun _ h=>h)).trans ((FrX.of_fr hf (by simpa using hx.bc)).mono (fun _ h=>h) (by simp[Blk.all]))
 have hb:(m.bound||(q.kind==1))=true:=by simp[hk]
 have hnc:∀ {y t:Nat} {cs:Array Value},Holds W y t cs→t≠85→Holds w6 y t cs:=fun hy ht=>hy.frx x6 (by simpa using ht) (by simp)
 rw[hp]
 refine⟨_,ve',h.turn (b':=b) hbi hmi hx rfl ⟨rfl,rfl⟩ (hnc R.srv (by decide)) (R.core.frx x6 (by decide)) (x':={ turned x (m.seq+1) q vo with fr:=En.bytesOf (En.respF { kind:=q.kind }),rp:={ kind:=q.kind },vi:=.slice none 0 0,last:=false }) ?_ (R.evs.frx x6 (by decide) (by decide) (by decide)) hfx (by decide) (fun y hy=>by
  rcases List.mem_cons.1 hy with h'|h'
  ·exact .inl h'
  ·exact .inr (.inl h')) (fun y hy=>.inl hy),hfx⟩
 refine⟨hx.bc,hx.bse,hx.bpi,hx.bpo,hc,by have:=hnc R.ses (by decide);rw[hb] at this;exact this,hnc R.inp (by decide),hnc R.outp (by decide),fun e=>by simp at e,fun _=>⟨rfl,rfl,rfl,R.ops.frx0 x6 (by decide),Nat.le_trans (ops_le hq) (by omega)⟩,fun _=>hx.nta (by omega),fun e=>by simp at e,fun _=>⟨by rw[hk],by rw[hk],Own.nil _ _ _ _,by simp,rfl⟩⟩
theorem read_task {w W w6:World}{B g xp i ta:Nat}{k:Cf}{bs:List Blk}{s:M.Srv}{vc ve ve':Value}{b:Blk}{m:M.Conn}{x:Cx}{q:M.Req}{l:List M.Req}{vo:Value}(h:SrvP w B g xp k bs s vc ve)(hbi:bs[i]? = some b)(hmi:s.conns[i]? = some m)(hx:ConnP w B xp k.room b i m x)
  (h1:m.state=1) (htd:m.todo=q::l) (hq:M.reqOk q=true) (hk:¬ q.kind=1) (hbd:m.bound=true) (hB:B≤w.heap.size) (R:Rd w W B g xp k bs s vc ve' b m (turned x (m.seq+1) q vo) q l vo (s.events++[⟨1,i,m.seq+1,{ kind:=0 }⟩]))
  (hta:w.heap.size≤ta) (hT:Tk.TaskAt W B ta xp i (M.Task.start s.core q)) (hw:w6=(W.setCell ⟨b.c,3,none⟩ (.pointer (some ⟨ta,0,none⟩))).setCell ⟨b.c,0,none⟩ (.int .i64 2)) :
  ∃ bs' ve',SrvP w6 B g xp k bs' (s.pick i) vc ve'∧FrX B (56::Ts) (g::b.all) w w6:=by
 have hp:s.pick i=⟨s.core,s.conns.set i { m with todo:=l,seq:=m.seq+1,turn:=q,task:=M.Task.start s.core q,state:=2 },s.events++[⟨1,i,m.seq+1,{ kind:=0 }⟩]⟩:=by
  unfold M.Srv.pick
  simp[hmi,M.Srv.can,h1,htd,hk]
 have hf:Fr [b.c] W w6:=by rw[hw];exact((Fr.refl _ _).setCell (p:=⟨b.c,3,none⟩) (by simp) _).setCell (p:=⟨b.c,0,none⟩) (by simp) _
 have x6:FrX B [85] [] W w6:=FrX.of_frT hf (by simpa using hx.bc) (fun y hy=>⟨85,by simp,by simp at hy;subst hy;exact R.con.ty⟩)
 have hfx:FrX B (56::Ts) (g::b.all) w w6:=(R.frx.mono (by simp) (fun _ h=>h)).trans ((FrX.of_fr hf (by simpa using hx.bc)).mono (fun _ h=>h) (by simp[Blk.all]))
 have hnc:∀ {y t:Nat} {cs:Array Value},Holds W y t cs→t≠85→Holds w6 y t cs:=fun hy ht=>hy.frx x6 (by simpa using ht) (by simp)
 rw[hp]
 refine⟨_,ve',h.turn (b':={ b with ta:=some ta }) hbi hmi hx rfl ⟨rfl,rfl⟩ (hnc R.srv (by decide)) (R.core.frx x6 (by decide)) (x':={ turned x (m.seq+1) q vo with tv:=.pointer (some ⟨ta,0,none⟩) }) ?_ (R.evs.frx x6 (by decide) (by decide) (by decide)) hfx (by decide) (fun y hy=>by
  rcases List.mem_cons.1 hy with h'|h'
  ·exact .inl h'
  ·exact .inr (.inl h')) (fun y hy=>by
  simp only[Blk.all,List.mem_cons,Option.toList,List.not_mem_nil,or_false] at hy
  rcases hy with rfl|rfl|rfl|rfl|rfl
  ·exact .inl (by simp[Blk.all])
  ·exact .inl (by simp[Blk.all])
  ·exact .inl (by simp[Blk.all])
  ·exact .inl (by simp[Blk.all])
  ·exact .inr hta),hfx⟩
 obtain⟨to_,ti,hTP⟩:=hT
 refine⟨hx.bc,hx.bse,hx.bpi,hx.bpo,?_,by have:=hnc R.ses (by decide);rw[hbd] at this;simpa[hbd] using this,hnc R.inp (by decide),hnc R.outp (by decide),fun _=>⟨ta,rfl,Nat.le_trans hB hta,rfl,to_,ti,hTP.frx x6 (by decide) (by decide) (by decide)⟩,fun _=>⟨rfl,rfl,rfl,R.ops.frx0 x6 (by decide),Nat.le_trans (ops_le hq) (by omega)⟩,fun e=>by simp at e,fun _=>hk,fun e=>by simp at e⟩
 rw[hw]
 have:=(R.con.set 3 (.pointer (some ⟨ta,0,none⟩))).set 0 (.int .i64 2)
 simpa[connC,turned] using this
theorem read_any (w:World)(B g xp i:Nat)(k:Cf)(bs:List Blk)(s:M.Srv)(vc ve:Value)(b:Blk)(m:M.Conn)(x:Cx)(q:M.Req)(l:List M.Req)(h:SrvP w B g xp k bs s vc ve)(hbi:bs[i]? = some b)(hmi:s.conns[i]? = some m)(hx:ConnP w B xp k.room b i m x)(hm:MayConn s i m)(hmc:M.mayCore s.core=true)
  (h1:m.state=1) (htd:m.todo=q::l) (hB:B≤w.heap.size) (hev:s.events.length≤90000) :
  Calls Tryz.prog 31 #[.pointer (some ⟨g,0,none⟩),.int .i64 i,.pointer (some ⟨b.c,0,none⟩)] w fun e w'=>e = .returned (.tuple #[])∧∃ bs' ve',SrvP w' B g xp k bs' (s.pick i) vc ve'∧FrX B (56::Ts) (g::b.all) w w':=by
 have hpo:b.po∉[b.se,b.pi]:=by
  have a1:=Holds.ne hx.outp hx.sess (by decide)
  have a2:=h.npo i b hbi
  simp[a1,a2]
 have hsl:=hx.sess.lt
 have hbl:=hx.cell.lt
 have hgl:=h.cell.lt
 have hqo:=hm.tq q (by simp[htd])
 have hcc:b.c∉[b.se,b.pi]:=by
  have a1:=hx.cell.ne hx.sess (by decide)
  have a2:=hx.cell.ne hx.inp (by decide)
  simp[a1,a2]
 have hqb:((q.kind==1) != m.bound)=true:=by
  rcases hm.st with⟨_,h'⟩|⟨e,_⟩|⟨e,_⟩
  ·exact h' q l htd
  ·omega
  ·omega
 have hin:=hx.inp
 unfold todoB at hin
 rw[htd] at hin
 have HNx:=hid (Se.next_any w B b.se b.pi m.seq k.room m.bound q l hx.sess hin (fun y hy=>hm.tq y (by rw[htd];exact hy)) (by have:=hm.t;rw[htd] at this;simp at this;omega) hqb hm.s0 (by have:=hm.s1;omega) hB hx.bse hx.bpi)
 have c11:=h.cell.cell 11
 have d1:=hx.cell.cell 1
 simp[srvC,confC] at c11
 simp[connC] at d1
 have HH:=hid h
 have HX:=hid hx
 have HQ:=hid hqo
 have HM:=hid hm
 have HQB:=hid hqb
 have H1:=hid (And.intro h1 (And.intro hmi htd))
 clear h hx hqo hm hin hqb htd
 go_enter Tryz.func31,Tryz.ntmps31
 go_wp2_with fail
 refine HNx.out.mono ?_
 rintro e w1 ⟨vo,rfl,ho1,hs1,hp1,f1⟩
 obtain⟨oa,oc,hvo⟩:=Own.form ho1
 subst hvo
 have R1:=hid (rd_start HH.out HX.out h1 ho1 hs1 hp1 f1 hcc hpo)
 have C1:=hid (HX.out.cell.fr f1 hcc)
 have d4:=C1.out.cell 4
 have d5:=C1.out.cell 5
 have d6:=C1.out.cell 6
 have d7:=C1.out.cell 7
 have d8:=C1.out.cell 8
 have d9:=C1.out.cell 9
 have d10:=C1.out.cell 10
 have d11:=C1.out.cell 11
 have d12:=C1.out.cell 12
 have d13:=C1.out.cell 13
 have d14:=C1.out.cell 14
 have d15:=C1.out.cell 15
 have d16:=C1.out.cell 16
 have d17:=C1.out.cell 17
 have d18:=C1.out.cell 18
 have z4:=C1.out.frozen 4
 have z5:=C1.out.frozen 5
 have z6:=C1.out.frozen 6
 have z7:=C1.out.frozen 7
 have z8:=C1.out.frozen 8
 have z9:=C1.out.frozen 9
 have z10:=C1.out.frozen 10
 have z11:=C1.out.frozen 11
 have z12:=C1.out.frozen 12
 have z13:=C1.out.frozen 13
 have z14:=C1.out.frozen 14
 have z15:=C1.out.frozen 15
 have z16:=C1.out.frozen 16
 have z17:=C1.out.frozen 17
 have z18:=C1.out.frozen 18
 simp[connC] at d4 d5 d6 d7 d8 d9 d10 d11 d12 d13 d14 d15 d16 d17 d18
 have hbl1:=C1.out.lt
 simp only[Se.turnC]
 clear ho1 hs1 hp1 f1 c11 d1
 go_upto_region 3 with fail
 obtain⟨W2,hW2⟩:∃ W2,W2=putC w1 b.c (m.seq+1) q (.slice oa q.ops.length oc):=⟨_,rfl⟩
 rw[←hW2] at R1
 simp only[putC] at hW2
 rw[←hW2]
 clear hW2 d4 z4 d5 z5 d6 z6 d7 z7 d8 z8 d9 z9 d10 z10 d11 z11 d12 z12 d13 z13 d14 z14 d15 z15 d16 z16 d17 z17 d18 z18
 have d4:=R1.out.con.cell 4
 have d5:=R1.out.srv.lt
 simp[connC,turned] at d4
 have hB2:B≤W2.heap.size:=Nat.le_trans hB R1.out.frx.size
 have HNt:=hid (note_any W2 B g xp i k s.core bs b vc ve (.slice none 0 0) 1 1 _ _ _ { kind:=0 } s.events hB2 HH.out.bg R1.out.srv R1.out.own hbi R1.out.con R1.out.ses rfl R1.out.ops (Nat.le_trans (ops_le HQ.out) (by omega)) R1.out.evs (Own.nil _ _ _ _) (by simp) (by omega))
 simp only[Ev.rsc,turned] at HNt
 go_wp2_with fail
 refine HNt.out.mono ?_
 rintro e w3 ⟨rfl,ve3,hs3,he3,f3⟩
 have R3:=hid (R1.out.note hs3 he3 f3)
 clear hs3 he3 f3 d4 d5
 obtain⟨hk1,hk2⟩:=Rq.sh_kind (Rq.sh_of HQ.out).1
 have hb11:(q.kind==11)=false:=by
  have:¬ q.kind=11:=by omega
  simpa using this
 have d4:=R3.out.con.cell 4
 have d7:=R3.out.con.cell 7
 have d8:=R3.out.con.cell 8
 have d9:=R3.out.con.cell 9
 have d10:=R3.out.con.cell 10
 have d11:=R3.out.con.cell 11
 have d12:=R3.out.con.cell 12
 have d13:=R3.out.con.cell 13
 have d14:=R3.out.con.cell 14
 have d15:=R3.out.con.cell 15
 have d16:=R3.out.con.cell 16
 have d17:=R3.out.con.cell 17
 simp[connC,turned] at d4 d7 d8 d9 d10 d11 d12 d13 d14 d15 d16 d17
 have hrl3:=R3.out.con.lt
 by_cases hk:q.kind=1
 ·have hkb:(q.kind==1)=true:=by simpa using hk
  have HK:=hid hk
  clear hk
  go_upto_region 11 with fail
  obtain⟨W4,hW4⟩:∃ W4,W4=(w3.alloc (.cells #[.int .i64 q.kind,.string q.tenant,.string q.col,.string q.uid,.string q.card,.int .i64 q.ck,.int .i64 q.cv,.slice oa q.ops.length oc,.int .i64 q.token,.int .i64 q.most,.int .i64 q.ticks] 41)).alloc (.cells #[.int .i64 q.kind,.int .i64 0,.int .i64 0,.int .i64 0,.string ⟨#[]⟩,.int .i64 0,.bool false,.slice none 0 0] 53):=⟨_,rfl⟩
  have f4:Fr [] w3 W4:=by rw[hW4];exact((Fr.refl _ _).alloc _).alloc _
  have b6:=hid (show Holds W4 w3.heap.size 41 _ by rw[hW4];exact(Holds.new w3 _ _).alloc _)
  have b7:=hid (show Holds W4 (w3.heap.size+1) 53 _ by rw[hW4];exact at_new (by simp))
  have R4:=hid (R3.out.fr0 f4)
  rw[←hW4]
  clear hW4 f4 hrl3 d4 d7 d8 d9 d10 d11 d12 d13 d14 d15 d16 d17
  have HN2:=hid (note_any W4 B g xp i k s.core bs b vc _ (.slice none 0 0) 1 2 _ _ _ { kind:=q.kind } _ (Nat.le_trans hB R4.out.frx.size) HH.out.bg R4.out.srv R4.out.own hbi R4.out.con R4.out.ses rfl R4.out.ops (Nat.le_trans (ops_le HQ.out) (by omega)) R4.out.evs (Own.nil _ _ _ _) (by simp) (by simp;omega))
  simp only[Ev.rsc,turned] at HN2
  obtain⟨r0,r1,r2,r3,r4,r5,r6,r7⟩:=b7.out.cs8
  simp at r0 r1 r2 r3 r4 r5 r6 r7
  go_wp2_with fail
  refine HN2.out.mono ?_
  rintro e w5 ⟨rfl,ve5,hs5,he5,f5⟩
  have hn5:∀ {y t:Nat} {cs:Array Value},Holds W4 y t cs→t≠77→t≠56→Holds w5 y t cs:=fun hy ht h2=>hy.frx f5 (by simpa using h2) (fun hm=>hy.ne R4.out.srv ht (by simpa using hm))
  have b65:=hid (hn5 b6.out (by decide) (by decide))
  have b75:=hid (hn5 b7.out (by decide) (by decide))
  have R5:=hid (R4.out.note hs5 he5 f5)
  clear hs5 he5 f5 hn5 r0 r1 r2 r3 r4 r5 r6 r7
  have HAn:=hid (answer_any w5 B g b (.slice none 0 0) 1 _ { kind:=q.kind } R5.out.con (Own.nil _ _ _ _) (by rw[HK.out];decide))
  simp only[Ev.rsc] at HAn
  obtain⟨r0,r1,r2,r3,r4,r5,r6,r7⟩:=b75.out.cs8
  have u0:=b65.out.cell 0
  simp at r0 r1 r2 r3 r4 r5 r6 r7 u0
  go_wp2_with fail
  refine HAn.out.mono ?_
  rintro e w6 ⟨rfl,hc6,f6⟩
  have HE:=hid (read_hello HH.out hbi H1.out.2.1 HX.out H1.out.1 H1.out.2.2 HQ.out HK.out R5.out hc6 f6)
  clear hc6 f6
  go_wp2_with fail
  exact bodyPost_ret (results_none rfl _ _ _) rfl ⟨rfl,HE.out⟩
 ·have hkb:(q.kind==1)=false:=by simpa using hk
  go_upto_region 13 with fail
  have hbd:m.bound=true:=by have:=HQB.out;rw[hkb] at this;simpa using this
  obtain⟨W4,hW4⟩:∃ W4,W4=w3.alloc (.cells #[.int .i64 q.kind,.string q.tenant,.string q.col,.string q.uid,.string q.card,.int .i64 q.ck,.int .i64 q.cv,.slice oa q.ops.length oc,.int .i64 q.token,.int .i64 q.most,.int .i64 q.ticks] 41):=⟨_,rfl⟩
  have f4:Fr [] w3 W4:=by rw[hW4];exact(Fr.refl _ _).alloc _
  have b6:=hid (show Holds W4 w3.heap.size 41 (Ev.rqc q (.slice oa q.ops.length oc)).toArray by rw[hW4];exact Holds.new w3 _ _)
  have R4:=hid (R3.out.fr0 f4)
  rw[←hW4]
  clear hW4 f4 hrl3 d4 d7 d8 d9 d10 d11 d12 d13 d14 d15 d16 d17
  have HTn:=hid (fun (W:World) (f:Fr [] W4 W)=>Se.tenant_any W b.se b.pi _ _ (R4.out.ses.fr f (by simp)))
  have htn:tnOf (m.bound||q.kind==1)=tn:=by rw[hbd];rfl
  rw[htn] at HTn
  have HSt:=hid (fun (W:World) (f:Fr [] W4 W)=>Tk.start_any W B xp i k s.core q _ (R4.out.core.fr0 f) hmc HQ.out hk (Own.fr0 R4.out.ops f) (Nat.le_trans hB (Nat.le_trans R4.out.frx.size f.size)) (Nat.le_trans (ops_le HQ.out) (by omega)))
  simp only[Ev.rqc] at HSt
  have hS:=rd_cells (R4.out.fr0 (Fr.refl _ _).drew) htn b6.out.drew
  have hrl4:=R4.out.con.lt
  have hn1:g≠b.c:=R4.out.srv.ne R4.out.con (by decide)
  have hn2:b.c≠g:=Ne.symm hn1
  have hn3:b.se≠b.c:=R4.out.ses.ne R4.out.con (by decide)
  have hn4:b.c≠b.se:=Ne.symm hn3
  have hn5:w3.heap.size≠b.c:=b6.out.ne R4.out.con (by decide)
  have hn6:b.c≠w3.heap.size:=Ne.symm hn5
  go_region_held3 (fun w'=>w'.cell? ⟨g,8,none⟩=some (.pointer (some ⟨xp,0,none⟩))∧w'.cell? ⟨b.c,1,none⟩=some (.pointer (some ⟨b.se,0,none⟩))∧w'.cell? ⟨b.se,1,none⟩=some (.string tn)∧w'.cell? ⟨w3.heap.size,0,none⟩=some (.int .i64 q.kind)∧w'.cell? ⟨w3.heap.size,1,none⟩=some (.string q.tenant)∧w'.cell? ⟨w3.heap.size,2,none⟩=some (.string q.col)∧w'.cell? ⟨w3.heap.size,3,none⟩=some (.string q.uid)∧w'.cell? ⟨w3.heap.size,4,none⟩=some (.string q.card)∧w'.cell? ⟨w3.heap.size,5,none⟩=some (.int .i64 q.ck)∧w'.cell? ⟨w3.heap.size,6,none⟩=some (.int .i64 q.cv)∧w'.cell? ⟨w3.heap.size,7,none⟩=some (.slice oa q.ops.length oc)∧w'.cell? ⟨w3.heap.size,8,none⟩=some (.int .i64 q.token)∧w'.cell? ⟨w3.heap.size,9,none⟩=some (.int .i64 q.most)∧w'.cell? ⟨w3.heap.size,10,none⟩=some (.int .i64 q.ticks)) (first|with_reducible exact hS|with_reducible exact hP|go_keep)
   (first
    | (go_at_call 65;refine(HTn.out _ (by first|exact(Fr.refl _ _).drew|exact(Fr.refl _ _).drewN _)).mono ?_;rintro e w5 ⟨rfl,rfl⟩)
    | (go_at_call 64;refine(HSt.out _ (by first|exact(Fr.refl _ _).drew|exact(Fr.refl _ _).drewN _)).mono ?_;rintro e w5 ⟨ta,rfl,hta,hT5,f5'⟩;have f5:Fr [] W4 w5:=(by first|exact((Fr.refl [] W4).drew.trans f5')|exact(((Fr.refl [] W4).drewN _).trans f5'));have hS:=rd_cells (R4.out.fr0 f5) htn (b6.out.fr f5 (by simp));have hP:=rd_cells3 (u:=.pointer (some ⟨ta,0,none⟩)) (R4.out.fr0 f5) htn (b6.out.fr f5 (by simp));have hz3:=(R4.out.con.fr f5 (by simp)).frozen 3;have hv3:=(R4.out.con.fr f5 (by simp)).cell 3;have hl3:=(R4.out.con.fr f5 (by simp)).lt;simp[connC,turned] at hv3))
  all_goals
   have HE:=hid (read_task (w6:=(w5.setCell ⟨b.c,3,none⟩ (.pointer (some ⟨ta,0,none⟩))).setCell ⟨b.c,0,none⟩ (.int .i64 2)) HH.out hbi H1.out.2.1 HX.out H1.out.1 H1.out.2.2 HQ.out hk hbd hB (R4.out.fr0 f5) (Nat.le_trans R4.out.frx.size hta) hT5 rfl)
   have hz0:=(R4.out.con.fr f5 (by simp)).frozen 0
   have hv0:=(R4.out.con.fr f5 (by simp)).cell 0
   simp[connC] at hv0
   clear hS hT5 f5 f5'
   go_wp2_with fail
   go_end0
   exact⟨rfl,HE.out⟩
end Go.Proofs.YtjmkkcckfbnmeaaGreatDoor.Sv
namespace Go.Proofs.YtjmkkcckfbnmeaaGreatDoor.Sv
open Go.RowKit Cr
def Picked (w:World)(B g xp i:Nat)(k:Cf)(s:M.Srv)(vc:Value)(b:Blk)(w':World):Prop:=∃ bs' ve',SrvP w' B g xp k bs' (s.pick i) vc ve'∧FrX B (56::Ts) (g::b.all) w w'
theorem Picked.of_fr {w w1 w':World}{B g xp i:Nat}{k:Cf}{s:M.Srv}{vc:Value}{b:Blk}(f:Fr [] w w1)(h:Picked w1 B g xp i k s vc b w'):Picked w B g xp i k s vc b w':=by
 obtain⟨bs',ve',h1,h2⟩:=h
 exact⟨bs',ve',h1,(FrX.of_fr0 f).trans h2⟩
theorem pick_none {s:M.Srv}{i:Nat}{m:M.Conn}(hmi:s.conns[i]? = some m)(h:s.can i=false):s.pick i=s:=by
 unfold M.Srv.pick
 rw[hmi]
 simp[h]
theorem pick_no (w:World)(B g xp i:Nat)(k:Cf)(bs:List Blk)(s:M.Srv)(vc ve:Value)(b:Blk)(m:M.Conn)(x:Cx)(h:SrvP w B g xp k bs s vc ve)(hbi:bs[i]? = some b)(hmi:s.conns[i]? = some m)(hx:ConnP w B xp k.room b i m x)(hm:MayConn s i m)(hr0:5000≤k.room)(hr1:k.room≤100000)(hc:s.can i=false) :
  Calls Tryz.prog 14 #[.pointer (some ⟨g,0,none⟩),.int .i64 i] w fun e w'=>e = .returned (.bool (s.can i))∧Picked w B g xp i k s vc b w':=by
 have HC:=hid (can_any w B g xp i k bs s vc ve b m x h hbi hmi hx hm hr0 hr1)
 have HP:=hid (pick_none hmi hc)
 have HH:=hid h
 have HCc:=hid hc
 rw[hc] at HC
 clear h hx hm hmi hc
 go_enter Tryz.func14,Tryz.ntmps14
 go_wp2_with fail
 refine HC.out.mono ?_
 rintro e w1 ⟨rfl,f1⟩
 go_wp2_with fail
 go_ret
 rw[HCc.out]
 exact⟨rfl,bs,ve,by rw[HP.out];exact HH.out.fr0 f1,FrX.of_fr0 f1⟩
theorem pick_read (w:World)(B g xp i:Nat)(k:Cf)(bs:List Blk)(s:M.Srv)(vc ve:Value)(b:Blk)(m:M.Conn)(x:Cx)(h:SrvP w B g xp k bs s vc ve)(hbi:bs[i]? = some b)(hmi:s.conns[i]? = some m)(hx:ConnP w B xp k.room b i m x)(hm:MayConn s i m)(hmc:M.mayCore s.core=true)(hr0:5000≤k.room)(hr1:k.room≤100000)(hc:s.can i=true)(h1:m.state=1)(hB:B≤w.heap.size)(hev:s.events.length≤90000) :
  Calls Tryz.prog 14 #[.pointer (some ⟨g,0,none⟩),.int .i64 i] w fun e w'=>e = .returned (.bool (s.can i))∧Picked w B g xp i k s vc b w':=by
 have HC:=hid (can_any w B g xp i k bs s vc ve b m x h hbi hmi hx hm hr0 hr1)
 have hne:m.todo≠[]:=by
  intro e
  unfold M.Srv.can at hc
  rw[hmi] at hc
  simp[h1,e] at hc
 obtain⟨q,l,htd⟩:=List.exists_cons_of_ne_nil hne
 have HCc:=hid hc
 rw[hc] at HC
 have HR:=hid (fun W (f:Fr [] w W)=>read_any W B g xp i k bs s vc ve b m x q l (h.fr0 f) hbi hmi (hx.fr0 f) hm hmc h1 htd (Nat.le_trans hB f.size) hev)
 have HH:=hid h
 have HX:=hid hx
 have H1:=hid h1
 clear h hx hm hmi hc htd hne h1 hmc
 go_enter Tryz.func14,Tryz.ntmps14
 go_wp2_with fail
 refine HC.out.mono ?_
 rintro e w1 ⟨rfl,f1⟩
 have h1:=HH.out.fr0 f1
 have hx1:=HX.out.fr0 f1
 obtain⟨gc,cc,hgc,hvc,hrc,hgcl,hcc⟩:=h1.conns.cell cp_len rfl hbi
 have m0:=hcc 0 _ (by omega) rfl
 have hil:(i:Int)<(bs.length:Int):=by have:=(List.getElem?_eq_some_iff.1 hbi).1;omega
 have c9:=h1.cell.cell 9
 have d0:=hx1.cell.cell 0
 simp[srvC,confC,hvc] at c9
 simp[connC,H1.out] at d0
 simp at m0
 have HR1:=hid (HR.out w1 f1)
 have F1:=hid f1
 clear h1 hx1 hcc hrc f1
 go_wp2_with fail
 refine HR1.out.mono ?_
 rintro e w2 ⟨rfl,h2⟩
 have HE:=hid (Picked.of_fr F1.out h2)
 clear h2
 go_wp2_with fail
 go_ret
 rw[HCc.out]
 exact⟨rfl,HE.out⟩
end Go.Proofs.YtjmkkcckfbnmeaaGreatDoor.Sv
namespace Go.Proofs.YtjmkkcckfbnmeaaGreatDoor.Sv
open Go.RowKit Cr
theorem pick_puts {s:M.Srv}{i:Nat}{m:M.Conn}(hmi:s.conns[i]? = some m)(h3:m.state=3):s.pick i=⟨s.core,s.conns.set i { m with state:=1,out:=m.out++[m.reply] },s.events++[⟨3,i,m.seq,m.reply⟩]⟩:=by
 unfold M.Srv.pick
 simp[hmi,M.Srv.can,h3]
theorem outB_snoc (m:M.Conn):outB m++En.bytesOf (En.respF m.reply)=outB { m with state:=1,out:=m.out++[m.reply] }:=by
 unfold outB
 rw[En.bytesOf_append]
 simp
theorem put_state {w W:World}{B g xp i:Nat}{k:Cf}{bs:List Blk}{s:M.Srv}{vc ve:Value}{b:Blk}{m:M.Conn}{x:Cx}{room:ByteArray}(h:SrvP w B g xp k bs s vc ve)(hbi:bs[i]? = some b)(hx:ConnP w B xp k.room b i m x)(hp:Pi.PipeAt W b.po k.room room false)(hf:Fr [b.po] w W) :
  Holds W g 77 (srvC k s.core xp vc ve).toArray∧Own W B 78 1 vc bs.length (flat cp bs)∧Holds W b.c 85 (connC b m.state x).toArray∧Se.SeAt W b.se b.pi (tnOf m.bound) m.seq∧Pi.PipeAt W b.pi k.room (todoB m) false∧CoreAt W B xp k s.core∧Ev.EvsAt W B ve s.events∧FrX B [129] [] w W:=by
 have x1:FrX B [129] [] w W:=FrX.of_frT hf (by simpa using hx.bpo) (fun y hy=>⟨129,by simp,by simp at hy;subst hy;exact Holds.ty hx.outp⟩)
 exact⟨h.cell.frx x1 (by decide) (by simp),h.conns.frx0 x1 (by decide),hx.cell.frx x1 (by decide) (by simp),hx.sess.frx x1 (by decide) (by simp),Holds.fr hx.inp hf (by have:=h.npo i b hbi;simp;exact Ne.symm this),h.core.frx x1 (by decide),h.evs.frx x1 (by decide) (by decide) (by decide),x1⟩
theorem put_end {w W w3:World}{B g xp i:Nat}{k:Cf}{bs:List Blk}{s:M.Srv}{vc ve ve':Value}{b:Blk}{m:M.Conn}{x:Cx}(h:SrvP w B g xp k bs s vc ve)(hbi:bs[i]? = some b)(hmi:s.conns[i]? = some m)(hx:ConnP w B xp k.room b i m x)(h3:m.state=3)(hp:Pi.PipeAt W b.po k.room (outB m++x.fr) false)(hf:Fr [b.po] w W)
  (hs:Holds w3 g 77 (srvC k s.core xp vc ve').toArray) (he:Ev.EvsAt w3 B ve' (s.events++[⟨3,i,m.seq,m.reply⟩])) (hf3:FrX B [56] [g] W w3) :
  Picked w B g xp i k s vc b (w3.setCell ⟨b.c,0,none⟩ (.int .i64 1)):=by
 obtain⟨s1,o1,c1,se1,pi1,co1,ev1,x1⟩:=put_state h hbi hx hp hf
 have hn3:∀ {y t:Nat} {cs:Array Value},Holds W y t cs→t≠77→t≠56→Holds w3 y t cs:=fun hy ht h2=>hy.frx hf3 (by simpa using h2) (fun hm=>hy.ne s1 ht (by simpa using hm))
 have c3:=hn3 c1 (by decide) (by decide)
 have f4:Fr [b.c] w3 (w3.setCell ⟨b.c,0,none⟩ (.int .i64 1)):=(Fr.refl _ _).setCell (by simp) _
 have x4:FrX B [85] [] w3 (w3.setCell ⟨b.c,0,none⟩ (.int .i64 1)):=FrX.of_frT f4 (by simpa using hx.bc) (fun y hy=>⟨85,by simp,by simp at hy;subst hy;exact c3.ty⟩)
 have hx3:FrX B [56,77] [] W w3:=(hf3.mono (Ts:=[56,77]) (by simp) (fun _ h=>h)).shed (fun z hz=>.inr (.inr ⟨77,by simp,by simp at hz;subst hz;exact s1.ty⟩))
 have hfx:FrX B (56::Ts) (g::b.all) w (w3.setCell ⟨b.c,0,none⟩ (.int .i64 1)):=by
  refine FrX.trans ((FrX.of_fr hf (by simpa using hx.bpo)).mono (fun _ h=>h) (by simp[Blk.all])) (FrX.trans (hf3.mono (by simp) (by simp)) ((FrX.of_fr f4 (by simpa using hx.bc)).mono (fun _ h=>h) (by simp[Blk.all])))
 obtain⟨t1,t2,t3,t4,t5⟩:=hx.turn (.inr h3)
 obtain⟨a1,a2,a3,a4,a5⟩:=hx.ans h3
 refine⟨bs.set i b,ve',?_,hfx⟩
 rw[pick_puts hmi h3]
 refine h.turn (b':=b) hbi hmi hx rfl ⟨rfl,rfl⟩ (hs.frx x4 (by decide) (by simp)) ((co1.frx hx3 (by decide)).frx x4 (by decide)) (x':=x) ?_ (he.frx x4 (by decide) (by decide) (by decide)) hfx (by decide) (fun y hy=>by
  rcases List.mem_cons.1 hy with h'|h'
  ·exact .inl h'
  ·exact .inr (.inl h')) (fun y hy=>.inl hy)
 have hpo:Pi.PipeAt w3 b.po k.room (outB m++x.fr) false:=hn3 hp (by decide) (by decide)
 rw[a1,outB_snoc] at hpo
 refine⟨hx.bc,hx.bse,hx.bpi,hx.bpo,?_,Holds.frx (hn3 se1 (by decide) (by decide)) x4 (by decide) (by simp),Holds.frx (hn3 pi1 (by decide) (by decide)) x4 (by decide) (by simp),Holds.frx hpo x4 (by decide) (by simp),fun e=>by simp at e,fun e=>by simp at e,fun _=>hx.nta (by omega),fun e=>by simp at e,fun e=>by simp at e⟩
 have:=c3.set 0 (.int .i64 1)
 simpa[connC] using this
theorem pick_put (w:World)(B g xp i:Nat)(k:Cf)(bs:List Blk)(s:M.Srv)(vc ve:Value)(b:Blk)(m:M.Conn)(x:Cx)(h:SrvP w B g xp k bs s vc ve)(hbi:bs[i]? = some b)(hmi:s.conns[i]? = some m)(hx:ConnP w B xp k.room b i m x)(hm:MayConn s i m)(hr0:5000≤k.room)(hr1:k.room≤100000)(h3:m.state=3)(hB:B≤w.heap.size)(hev:s.events.length≤90000) :
  Calls Tryz.prog 14 #[.pointer (some ⟨g,0,none⟩),.int .i64 i] w fun e w'=>e = .returned (.bool (s.can i))∧Picked w B g xp i k s vc b w':=by
 have hc:s.can i=true:=by
  unfold M.Srv.can
  rw[hmi]
  simp[h3]
 have HC:=hid (can_any w B g xp i k bs s vc ve b m x h hbi hmi hx hm hr0 hr1)
 have HCc:=hid hc
 rw[hc] at HC
 have hrp:M.respOk m.reply=true∧M.reqOk m.turn=true:=by
  rcases hm.st with⟨e,_⟩|⟨e,_⟩|⟨_,e1,e2⟩
  ·omega
  ·omega
  ·exact⟨e2,e1⟩
 have ho:=out_len hm.oa
 have hol:=hm.o
 have hrl:=respF_len hrp.1
 have hsz:(outB m).size≤4060:=by unfold outB;rw[En.bytesOf_size];omega
 obtain⟨a1,a2,a3,a4,a5⟩:=hx.ans h3
 obtain⟨t1,t2,t3,t4,t5⟩:=hx.turn (.inr h3)
 have hfz:x.fr.size≤406:=by rw[a1,En.bytesOf_size];exact hrl
 have HPt:=hid (fun W (f:Fr [] w W)=>Pi.put_yes W b.po k.room (outB m) false x.fr (Holds.fr hx.outp f (by simp)) (by omega) (by omega) (by omega) (by simp[Pi.fits];omega))
 have HH:=hid h
 have HX:=hid hx
 have H3:=hid (And.intro h3 hmi)
 have HA:=hid (And.intro a2 (And.intro a3 (And.intro a4 a5)))
 have HT:=hid (And.intro t1 (And.intro t2 (And.intro t3 (And.intro t4 t5))))
 obtain⟨ia,ic,hvi⟩:=Own.form a3
 have HVI:=hid hvi
 clear h hx hm hmi hc h3 a1 a2 a3 a4 a5 t1 t2 t3 t4 t5 hrp ho hol hrl hsz hfz hvi
 go_enter Tryz.func14,Tryz.ntmps14
 go_wp2_with fail
 refine HC.out.mono ?_
 rintro e w1 ⟨rfl,f1⟩
 have h1:=HH.out.fr0 f1
 have hx1:=HX.out.fr0 f1
 obtain⟨gc,cc,hgc,hvc,hrc,hgcl,hcc⟩:=h1.conns.cell cp_len rfl hbi
 have m0:=hcc 0 _ (by omega) rfl
 have hil:(i:Int)<(bs.length:Int):=by have:=(List.getElem?_eq_some_iff.1 hbi).1;omega
 have c9:=h1.cell.cell 9
 have d0:=hx1.cell.cell 0
 have d2:=hx1.cell.cell 2
 have d19:=hx1.cell.cell 19
 simp[srvC,confC,hvc] at c9
 simp[connC,H3.out.1] at d0 d2 d19
 simp at m0
 have HPt1:=hid (HPt.out w1.drew f1.drew)
 have H1:=hid (h1.fr0 ((Fr.refl [] w1).drew))
 have X1:=hid (hx1.fr0 ((Fr.refl [] w1).drew))
 have F1:=hid f1
 clear h1 hx1 hcc hrc f1
 go_upto_region 17 with fail
 go_still_tail 8,(by kernel_rfl)
 change wpList _ _ _ _ _ w1.drew
 go_wp2_with fail
 refine HPt1.out.mono ?_
 rintro e w2 ⟨rfl,p2,f2⟩
 have P2:=hid p2
 have F2:=hid f2
 obtain⟨s2,o2,c2,se2,pi2,co2,ev2,x2⟩:=put_state H1.out hbi X1.out p2 f2
 rw[H3.out.1] at c2
 have e20:=c2.cell 20
 have e21:=c2.cell 21
 have e22:=c2.cell 22
 have e23:=c2.cell 23
 have e24:=c2.cell 24
 have e25:=c2.cell 25
 have e26:=c2.cell 26
 have e27:=c2.cell 27
 simp[connC,HA.out.1,HVI.out] at e20 e21 e22 e23 e24 e25 e26 e27
 have hBw2:B≤w2.heap.size:=Nat.le_trans hB (Nat.le_trans F1.out.size (Nat.le_trans (Fr.refl [] w1).drew.size f2.size))
 have HN:=hid (note_any w2 B g xp i k s.core bs b vc ve (.slice ia m.reply.items.length ic) 3 3 x _ _ m.reply s.events hBw2 HH.out.bg s2 o2 hbi c2 se2 HT.out.1 (by rw[HT.out.2.2.1];exact HT.out.2.2.2.1.frx0 (((FrX.of_fr0 F1.out).trans (FrX.of_fr0 (Ts:=[129]) (S:=[]) (Fr.refl [] w1).drew)).trans x2) (by decide)) (by rw[HT.out.2.2.1];exact HT.out.2.2.2.2) ev2 (by rw[←HVI.out];exact HA.out.2.1.frx0 (((FrX.of_fr0 F1.out).trans (FrX.of_fr0 (Ts:=[129]) (S:=[]) (Fr.refl [] w1).drew)).trans x2) (by decide)) HA.out.2.2.1 (by omega))
 simp only[Ev.rsc] at HN
 have hl2:=c2.lt
 clear p2 f2 s2 o2 c2 se2 pi2 co2 ev2 x2 d0 d2 d19 c9 m0
 go_wp2_with fail
 refine HN.out.mono ?_
 rintro e w3 ⟨rfl,ve3,hs3,he3,f3⟩
 rw[HT.out.2.1] at he3
 have HE:=hid (put_end H1.out hbi H3.out.2 X1.out H3.out.1 P2.out F2.out hs3 he3 f3)
 have c3:Holds w3 b.c 85 (connC b 3 x).toArray:=by
  obtain⟨s2,_,c2,_⟩:=put_state H1.out hbi X1.out P2.out F2.out
  rw[H3.out.1] at c2
  exact c2.frx f3 (by decide) (fun hm=>c2.ne s2 (by decide) (by simpa using hm))
 have g0:=c3.cell 0
 have g28:=c3.cell 28
 have gz0:=c3.frozen 0
 have gl:=c3.lt
 simp[connC,HA.out.2.2.2] at g0 g28
 clear c3 hs3 he3 f3 e20 e21 e22 e23 e24 e25 e26 e27
 go_wp2_with fail
 go_ret
 rw[HCc.out]
 exact⟨rfl,Picked.of_fr (F1.out.trans ((Fr.refl [] w1).drew)) HE.out⟩
end Go.Proofs.YtjmkkcckfbnmeaaGreatDoor.Sv
