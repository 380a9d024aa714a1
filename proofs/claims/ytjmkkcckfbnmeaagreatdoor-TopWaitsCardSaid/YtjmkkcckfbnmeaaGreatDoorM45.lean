/- Walks. -/
import Derived.Test.YtjmkkcckfbnmeaaGreatDoorM02
import Derived.Test.YtjmkkcckfbnmeaaGreatDoorM44
import Derived.Deep.RegionHeld3
set_option maxRecDepth 100000
set_option maxHeartbeats 8000000
set_option linter.all false
open Go.Lib (hid)
namespace Go.Proofs.YtjmkkcckfbnmeaaGreatDoor.Sv
open Go.RowKit Cr
def cf4 (x:M.Core):Int × Int × Int × Int:=(x.cols,x.cards,x.maxBytes,x.logMost)
theorem cf4_write (x:M.Core)(p:M.Place)(ops:List M.Op)(ap:Bool)(a:M.Resp):cf4 (x.write p ops ap a).1=cf4 x:=by
 unfold M.Core.write
 simp only[]
 split<;>rfl
theorem cf4_work (x:M.Core)(q:M.Req):cf4 (x.work q).1=cf4 x:=by
 unfold M.Core.work
 split
 ·rfl
 split
 ·rfl
 split
 ·rfl
 split
 ·exact cf4_write _ _ _ _ _
 split
 ·exact cf4_write _ _ _ _ _
 split
 ·exact cf4_write _ _ _ _ _
 split
 ·split<;>rfl
 split
 ·rfl
 split
 ·split<;>rfl
 ·rfl
theorem cf4_unlock (x:M.Core)(id who:Int)(b:Bool):cf4 (x.unlock id who b)=cf4 x:=by
 unfold M.Core.unlock
 simp only[]
 cases x.place with
 | none=>cases b<;>rfl
 | some p =>
  simp only[]
  by_cases h:(id==0)=true
  ·simp only[h,if_true];cases b<;>rfl
  ·simp only[h];cases b<;>rfl
theorem cf4_step (t:M.Task)(x:M.Core)(who:Int):cf4 (t.step x who).1=cf4 x:=by
 unfold M.Task.step
 split
 ·split
  ·unfold M.Core.create
   split
   ·rfl
   ·simp only[]
    split<;>rfl
  split
  ·rfl
  split<;>rfl
 split
 ·unfold M.Core.lock
  simp only[]
  split
  ·split<;>rfl
  ·rfl
 split
 ·split
  ·exact cf4_unlock _ _ _ _
  ·simp only[]
   split
   ·split
    ·exact cf4_work _ _
    ·unfold M.Core.sleep
     split
     ·exact cf4_work _ _
     ·exact cf4_work x t.q
   split
   ·exact cf4_work _ _
   split<;>exact cf4_work _ _
 split
 ·simp only[]
  split
  ·unfold M.Core.applyOp
   split
   ·split<;>rfl
   ·rfl
  ·rfl
 split
 ·rfl
 split
 ·exact cf4_unlock _ _ _ _
 split
 ·rfl
 ·rfl
theorem srvC_cf4 {k:Cf}{x y:M.Core}{xp:Nat}{vc ve:Value}(h:cf4 x=cf4 y):srvC k x xp vc ve=srvC k y xp vc ve:=by
 simp only[cf4,Prod.mk.injEq] at h
 obtain⟨h1,h2,h3,h4⟩:=h
 simp[srvC,confC,h1,h2,h3,h4]
structure Bz (w W:World)(B g xp:Nat)(k:Cf)(bs:List Blk)(c0 c:M.Core)(vc ve:Value)(b:Blk)(m:M.Conn)(x:Cx)(ta i:Nat)(t:M.Task)(ev:List M.Ev):Prop where
 srv:Holds W g 77 (srvC k c0 xp vc ve).toArray
 own:Own W B 78 1 vc bs.length (flat cp bs)
 con:Holds W b.c 85 (connC b 2 x).toArray
 ses:Se.SeAt W b.se b.pi (tnOf m.bound) m.seq
 inp:Pi.PipeAt W b.pi k.room (todoB m) false
 outp:Pi.PipeAt W b.po k.room (outB m) false
 ops:Ev.OpsAt W B x.vo m.turn.ops
 core:CoreAt W B xp k c
 task:Tk.TaskAt W B ta xp i t
 evs:Ev.EvsAt W B ve ev
 frx:FrX B (56::Ts) (g::b.all) w W
section
variable {w W W':World} {B g xp:Nat} {k:Cf} {bs:List Blk} {c0 c c':M.Core} {vc ve ve':Value} {b:Blk} {m:M.Conn} {x:Cx} {ta i:Nat} {t t':M.Task} {ev ev':List M.Ev}
theorem Bz.fr0 (h:Bz w W B g xp k bs c0 c vc ve b m x ta i t ev)(hf:Fr [] W W'):Bz w W' B g xp k bs c0 c vc ve b m x ta i t ev:=by
 obtain⟨vo,vi,hT⟩:=h.task
 exact⟨h.srv.fr hf (by simp),Own.fr0 h.own hf,h.con.fr hf (by simp),h.ses.fr hf (by simp),Holds.fr h.inp hf (by simp),Holds.fr h.outp hf (by simp),Own.fr0 h.ops hf,h.core.fr0 hf,⟨vo,vi,hT.fr0 hf⟩,h.evs.frx (FrX.of_fr0 (Ts:=[]) hf) (by simp) (by simp) (by simp),h.frx.trans (FrX.of_fr0 hf)⟩
theorem Bz.note (h:Bz w W B g xp k bs c0 c vc ve b m x ta i t ev)(hs:Holds W' g 77 (srvC k c0 xp vc ve').toArray)(he:Ev.EvsAt W' B ve' ev')(hf:FrX B [56] [g] W W'):Bz w W' B g xp k bs c0 c vc ve' b m x ta i t ev':=by
 obtain⟨vo,vi,hT⟩:=h.task
 have hn:∀ {y t:Nat} {cs:Array Value},Holds W y t cs→t≠77→y∉[g]:=fun hy ht hm=>hy.ne h.srv ht (by simpa using hm)
 have hx:FrX B [56,77] [] W W':=(hf.mono (Ts:=[56,77]) (by simp) (fun _ h=>h)).shed (fun z hz=>.inr (.inr ⟨77,by simp,by simp at hz;subst hz;exact h.srv.ty⟩))
 exact⟨hs,h.own.frx0 hx (by decide),h.con.frx hf (by decide) (hn h.con (by decide)),Holds.frx h.ses hf (by decide) (hn h.ses (by decide)),Holds.frx h.inp hf (by decide) (hn h.inp (by decide)),Holds.frx h.outp hf (by decide) (hn h.outp (by decide)),h.ops.frx0 hx (by decide),h.core.frx hx (by decide),⟨vo,vi,hT.frx hx (by decide) (by decide) (by decide)⟩,he,h.frx.trans (hf.mono (by simp) (by simp))⟩
theorem Bz.step (h:Bz w W B g xp k bs c0 c vc ve b m x ta i t ev)(hta:b.ta=some ta)(hs:Tk.Stepped W B ta xp i k (c',t') W'):Bz w W' B g xp k bs c0 c' vc ve b m x ta i t' ev:=by
 obtain⟨vo,vi,hT⟩:=h.task
 obtain⟨h1,h2,h3⟩:=hs
 have hn:∀ {y t:Nat} {cs:Array Value},Holds W y t cs→t≠140→y∉[ta]:=fun hy ht hm=>hy.ne hT.cell ht (by simpa using hm)
 have hx:FrX B (140::Ts) [] W W':=Tk.task_sh h3 hT.cell.ty
 exact⟨h.srv.frx h3 (by decide) (hn h.srv (by decide)),h.own.frx0 hx (by decide),h.con.frx h3 (by decide) (hn h.con (by decide)),Holds.frx h.ses h3 (by decide) (hn h.ses (by decide)),Holds.frx h.inp h3 (by decide) (hn h.inp (by decide)),Holds.frx h.outp h3 (by decide) (hn h.outp (by decide)),h.ops.frx0 hx (by decide),h2,h1,h.evs.frx hx (by decide) (by decide) (by decide),h.frx.trans (h3.mono (fun _ h=>by simp[h]) (by simp[Blk.all,hta]))⟩
end
theorem step_q (t:M.Task)(x:M.Core)(who:Int):(t.step x who).2.q=t.q:=by
 unfold M.Task.step
 split
 ·split
  ·rfl
  split
  ·rfl
  split<;>rfl
 split
 ·rfl
 split
 ·split
  ·rfl
  ·simp only[]
   split
   ·split<;>rfl
   split
   ·rfl
   split<;>rfl
 split
 ·rfl
 split
 ·rfl
 split
 ·rfl
 split
 ·rfl
 ·rfl
def evS (i:Nat)(m:M.Conn)(r:M.Core × M.Task):List M.Ev:=if r.2.pointed&&!m.task.pointed then [⟨2,i,m.seq,r.2.point⟩] else []
theorem pick_busy {s:M.Srv}{i:Nat}{m:M.Conn}(hmi:s.conns[i]? = some m)(h2:m.state=2)(hc:s.can i=true):s.pick i=if (m.task.step s.core i).2.stage=8 then ⟨(m.task.step s.core i).1,s.conns.set i { m with task:=(m.task.step s.core i).2,state:=3,reply:=(m.task.step s.core i).2.point },s.events++evS i m (m.task.step s.core i)⟩
  else ⟨(m.task.step s.core i).1,s.conns.set i { m with task:=(m.task.step s.core i).2 },s.events++evS i m (m.task.step s.core i)⟩:=by
 unfold M.Srv.pick
 simp only[hmi,hc,h2,Bool.not_true,Bool.false_eq_true,if_false,Int.reduceEq,if_true]
 rfl
theorem evS_no {i:Nat}{m:M.Conn}{r:M.Core × M.Task}{l:List M.Ev}(h:(r.2.pointed&&!m.task.pointed)=false):l++evS i m r=l:=by simp[evS,h]
theorem evS_yes {i:Nat}{m:M.Conn}{r:M.Core × M.Task}{l:List M.Ev}(h:(r.2.pointed&&!m.task.pointed)=true):l++evS i m r=l++[⟨2,i,m.seq,r.2.point⟩]:=by simp[evS,h]
theorem tk_no (w:World)(B g xp:Nat)(who:Int)(t:M.Task)(h:Tk.TaskAt w B g xp who t)(hB:B≤w.heap.size)(h8:¬ t.stage=8) :
  Calls Tryz.prog 35 #[.pointer (some ⟨g,0,none⟩)] w fun e w'=>∃ v,e = .returned (.tuple #[.agg (Ev.rsc { kind:=0 } v).toArray,.bool false])∧Ev.ItsAt w' B v []∧Fr [] w w':=by
 have H:=Tk.answer_any w B g xp who t h hB
 simp only[h8,if_false,decide_false] at H
 exact H
theorem tk_yes (w:World)(B g xp:Nat)(who:Int)(t:M.Task)(h:Tk.TaskAt w B g xp who t)(hB:B≤w.heap.size)(h8:t.stage=8) :
  Calls Tryz.prog 35 #[.pointer (some ⟨g,0,none⟩)] w fun e w'=>∃ v,e = .returned (.tuple #[.agg (Ev.rsc t.point v).toArray,.bool true])∧Ev.ItsAt w' B v t.point.items∧Fr [] w w':=by
 have H:=Tk.answer_any w B g xp who t h hB
 simp only[h8,if_true,decide_true] at H
 exact H
section
variable {w W W':World} {B g xp i ta:Nat} {k:Cf} {bs:List Blk} {s:M.Srv} {vc ve ve':Value} {b:Blk} {m:M.Conn} {x:Cx} {r:M.Core × M.Task}
theorem step_on (h:SrvP w B g xp k bs s vc ve)(hbi:bs[i]? = some b)(hmi:s.conns[i]? = some m)(hx:ConnP w B xp k.room b i m x)(h2:m.state=2)(hc:s.can i=true)(hr:m.task.step s.core i=r)(hta:b.ta=some ta)(hBt:B≤ta)(htv:x.tv = .pointer (some ⟨ta,0,none⟩))(h8:¬ r.2.stage=8)
  (Z:Bz w W B g xp k bs s.core r.1 vc ve' b m x ta i r.2 (s.events++evS i m r)):Picked w B g xp i k s vc b W:=by
 obtain⟨t1,t2,t3,t4,t5⟩:=hx.turn (.inl h2)
 refine⟨bs.set i b,ve',?_,Z.frx⟩
 rw[pick_busy hmi h2 hc,hr,if_neg h8]
 refine h.turn (b':=b) hbi hmi hx rfl ⟨rfl,rfl⟩ (by rw[srvC_cf4 (show cf4 r.1=cf4 s.core by rw[←hr];exact cf4_step _ _ _)];exact Z.srv) Z.core (x':=x) ?_ Z.evs Z.frx (by decide) (fun y hy=>by
  rcases List.mem_cons.1 hy with h'|h'
  ·exact .inl h'
  ·exact .inr (.inl h')) (fun y hy=>.inl hy)
 exact⟨hx.bc,hx.bse,hx.bpi,hx.bpo,by have:=Z.con;rw[←h2] at this;exact this,Z.ses,Z.inp,Z.outp,fun _=>⟨ta,hta,hBt,htv,Z.task⟩,fun _=>⟨t1,t2,t3,Z.ops,t5⟩,fun e=>absurd h2 e,fun _=>by show r.2.q.kind≠1;rw[←hr,step_q];exact hx.tk h2,fun e=>by simp[h2] at e⟩
theorem step_done {v:Value}(h:SrvP w B g xp k bs s vc ve)(hbi:bs[i]? = some b)(hmi:s.conns[i]? = some m)(hx:ConnP w B xp k.room b i m x)(h2:m.state=2)(hc:s.can i=true)(hr:m.task.step s.core i=r)(h8:r.2.stage=8)
  (Z:Bz w W B g xp k bs s.core r.1 vc ve' b m x ta i r.2 (s.events++evS i m r)) (hc':Holds W' b.c 85 (connC b 3 { x with fr:=En.bytesOf (En.respF r.2.point),rp:=r.2.point,vi:=v,last:=false }).toArray) (hi:Ev.ItsAt W B v r.2.point.items) (hl:r.2.point.items.length≤20) (hf:Fr [b.c] W W'):Picked w B g xp i k s vc b W':=by
 obtain⟨t1,t2,t3,t4,t5⟩:=hx.turn (.inl h2)
 have x6:FrX B [85] [] W W':=FrX.of_frT hf (by simpa using hx.bc) (fun y hy=>⟨85,by simp,by simp at hy;subst hy;exact Z.con.ty⟩)
 have hfx:FrX B (56::Ts) (g::b.all) w W':=Z.frx.trans ((FrX.of_fr hf (by simpa using hx.bc)).mono (fun _ h=>h) (by simp[Blk.all]))
 have hnc:∀ {y t:Nat} {cs:Array Value},Holds W y t cs→t≠85→Holds W' y t cs:=fun hy ht=>hy.frx x6 (by simpa using ht) (by simp)
 refine⟨bs.set i { b with ta:=none },ve',?_,hfx⟩
 rw[pick_busy hmi h2 hc,hr,if_pos h8]
 refine h.turn (b':={ b with ta:=none }) hbi hmi hx rfl ⟨rfl,rfl⟩ (by rw[srvC_cf4 (show cf4 r.1=cf4 s.core by rw[←hr];exact cf4_step _ _ _)];exact hnc Z.srv (by decide)) (Z.core.frx x6 (by decide)) (x':={ x with fr:=En.bytesOf (En.respF r.2.point),rp:=r.2.point,vi:=v,last:=false }) ?_ (Z.evs.frx x6 (by decide) (by decide) (by decide)) hfx (by decide) (fun y hy=>by
  rcases List.mem_cons.1 hy with h'|h'
  ·exact .inl h'
  ·exact .inr (.inl h')) (fun y hy=>.inl (by
  simp only[Blk.all,List.mem_cons,Option.toList,List.not_mem_nil,or_false] at hy
  rcases hy with rfl|rfl|rfl|rfl<;>simp[Blk.all]))
 exact⟨hx.bc,hx.bse,hx.bpi,hx.bpo,hc',hnc Z.ses (by decide),hnc Z.inp (by decide),hnc Z.outp (by decide),fun e=>by simp at e,fun _=>⟨t1,t2,t3,Z.ops.frx0 x6 (by decide),t5⟩,fun _=>rfl,fun e=>by simp at e,fun _=>⟨rfl,rfl,hi.frx0 x6 (by decide),hl,rfl⟩⟩
end
theorem pick_step (w:World)(B g xp i:Nat)(k:Cf)(bs:List Blk)(s:M.Srv)(vc ve:Value)(b:Blk)(m:M.Conn)(x:Cx)(h:SrvP w B g xp k bs s vc ve)(hbi:bs[i]? = some b)(hmi:s.conns[i]? = some m)(hx:ConnP w B xp k.room b i m x)(hm:MayConn s i m)(hr0:5000≤k.room)(hr1:k.room≤100000)(hc:s.can i=true)(h2:m.state=2)(hB:B≤w.heap.size)(hev:s.events.length≤90000) :
  Calls Tryz.prog 14 #[.pointer (some ⟨g,0,none⟩),.int .i64 i] w fun e w'=>e = .returned (.bool (s.can i))∧Picked w B g xp i k s vc b w':=by
 have HC:=hid (can_any w B g xp i k bs s vc ve b m x h hbi hmi hx hm hr0 hr1)
 have HCc:=hid hc
 rw[hc] at HC
 have htc:m.task.can s.core i=true:=by
  unfold M.Srv.can at hc
  rw[hmi] at hc
  simpa[h2] using hc
 obtain⟨hmcan,hmst⟩:M.mayCan s.core m.task=true∧M.mayStep s.core m.task i=true:=by
  rcases hm.st with⟨e,_⟩|⟨_,_,e2,e3⟩|⟨e,_⟩
  ·omega
  ·exact⟨e2,e3 htc⟩
  ·omega
 obtain⟨ta,hta,hBt,htv,htk⟩:=hx.ta h2
 obtain⟨t1,t2,t3,t4,t5⟩:=hx.turn (.inl h2)
 have hok:M.respOk (m.task.step s.core i).2.point=true∨(m.task.step s.core i).2.pointed=false:=by
  have hmst':=hmst
  unfold M.mayStep at hmst'
  simp only[Bool.and_eq_true,Bool.or_eq_true,Bool.not_eq_true'] at hmst'
  exact hmst'.1.2.symm
 have h80:m.task.stage≠8:=fun e=>by
  unfold M.Task.can at htc
  simp[e] at htc
 have hpd:(m.task.step s.core i).2.stage=8→(m.task.step s.core i).2.pointed=true:=fun e=>M.step_pointed _ _ _ e h80
 have HSt:=hid (fun W (f:Fr [] w W) (hT:Tk.TaskAt W B ta xp i m.task) (hC:CoreAt W B xp k s.core)=>Tk.step_any W B ta xp i m.task k s.core hT hC hBt h.bxp (Nat.le_trans hB f.size) hmcan htc hmst (hx.tk h2))
 have HR:=hid (show ∃ r,m.task.step s.core i=r from ⟨_,rfl⟩)
 obtain⟨r,hr⟩:=HR.out
 rw[hr] at HSt hok hpd
 have Z0:=hid (show Bz w w B g xp k bs s.core s.core vc ve b m x ta i m.task s.events from ⟨h.cell,h.conns,by have:=hx.cell;rw[h2] at this;exact this,hx.sess,hx.inp,hx.outp,t4,h.core,htk,h.evs,FrX.refl _ _ _ _⟩)
 have HH:=hid h
 have HX:=hid hx
 have HF:=hid (And.intro h2 (And.intro hmi (And.intro hr (And.intro hta (And.intro hBt (And.intro htv (And.intro t1 (And.intro t2 (And.intro t3 (And.intro t5 (And.intro hok hpd)))))))))))
 obtain⟨wb,hwb⟩:∃ wb,m.task.pointed=wb:=⟨_,rfl⟩
 obtain⟨ib,hib⟩:∃ ib,r.2.pointed=ib:=⟨_,rfl⟩
 obtain⟨dn,hdn⟩:∃ dn,decide (r.2.stage=8)=dn:=⟨_,rfl⟩
 have HBs:=hid (And.intro hwb (And.intro hib hdn))
 clear h hx hm hmi hc h2 htc hmcan hmst htk t1 t2 t3 t4 t5 hok h80 hpd HR hr hta hwb hib hdn
 have Hbt:=hid hBt
 have Htv:=hid htv
 clear htv hBt
 go_enter Tryz.func14,Tryz.ntmps14
 go_wp2_with fail
 refine HC.out.mono ?_
 rintro e w1 ⟨rfl,f1⟩
 have Z1:=hid (Z0.out.fr0 f1)
 have F1:=hid f1
 obtain⟨gc,cc,hgc,hvc,hrc,hgcl,hcc⟩:=Z1.out.own.cell cp_len rfl hbi
 have m0:=hcc 0 _ (by omega) rfl
 have hil:(i:Int)<(bs.length:Int):=by have:=(List.getElem?_eq_some_iff.1 hbi).1;omega
 have c9:=Z1.out.srv.cell 9
 have d0:=Z1.out.con.cell 0
 have d3:=Z1.out.con.cell 3
 simp[srvC,confC,hvc] at c9
 simp[connC,Htv.out] at d0 d3
 simp at m0
 have HP1:=hid (Tk.point_any w1 B ta xp i m.task Z1.out.task (Nat.le_trans hB f1.size))
 rw[HBs.out.1] at HP1
 clear hcc hrc f1
 go_wp2_with fail
 refine HP1.out.mono ?_
 rintro e w2 ⟨v2,rfl,hi2,f2⟩
 obtain⟨a2,c2',hv2⟩:=Own.form hi2
 subst hv2
 have hl1:=Z1.out.con.lt
 have Z2:=hid (Z1.out.fr0 f2)
 have F2:=hid (F1.out.trans f2)
 have e3:=Z2.out.con.cell 3
 simp[connC,Htv.out] at e3
 have hl2:=Z2.out.con.lt
 clear f2 hi2 c9 d0 d3 m0 hgcl
 generalize (if wb=true then m.task.point else ({ kind:=0 } : M.Resp))=p0 at *
 simp only[Ev.rsc]
 go_upto_region 9 with fail
 have fa:Fr [] w2 (w2.alloc (.cells (Ev.rsc p0 (.slice a2 p0.items.length c2')).toArray 53)):=(Fr.refl _ _).alloc _
 have HS3:=hid (HSt.out _ (F2.out.trans fa) (Z2.out.fr0 fa).task (Z2.out.fr0 fa).core)
 have Z3:=hid (Z2.out.fr0 fa)
 have hBa:=Nat.le_trans hB (F2.out.trans fa).size
 clear fa
 simp only[Ev.rsc] at HS3 Z3 hBa
 go_wp2_with fail
 refine HS3.out.mono ?_
 rintro e w4 ⟨rfl,hst4⟩
 have Z4:=hid (Z3.out.step HF.out.2.2.2.1 hst4)
 have hB4:=Nat.le_trans hBa hst4.2.2.size
 have g3:=Z4.out.con.cell 3
 simp[connC,Htv.out] at g3
 have HP4:=hid (Tk.point_any w4 B ta xp i r.2 Z4.out.task hB4)
 rw[HBs.out.2.1] at HP4
 have hl4:=Z4.out.con.lt
 clear hst4 e3
 go_wp2_with fail
 refine HP4.out.mono ?_
 rintro e w5 ⟨v5,rfl,hi5,f5⟩
 obtain⟨a5,c5',hv5⟩:=Own.form hi5
 subst hv5
 have Z5:=hid (Z4.out.fr0 f5)
 have HI5:=hid hi5
 have hB5:=Nat.le_trans hB4 f5.size
 clear f5 hi5 g3
 have HQ:=hid (show (ib=true→r.2.point.items.length≤20) from fun e=>by
  rcases HF.out.2.2.2.2.2.2.2.2.2.2.1 with q|q
  ·exact Nat.le_trans (Rp.resp_ok q).l1 (by decide)
  ·rw[HBs.out.2.1,e] at q;cases q)
 have hl5:=Z5.out.con.lt
 have e5:=Z5.out.con.cell 3
 simp[connC,Htv.out] at e5
 generalize hp5:(if ib=true then r.2.point else ({ kind:=0 } : M.Resp))=p5 at *
 have HP5:=hid hp5
 clear hp5 hl1 hl2 hl4
 simp only[Ev.rsc]
 cases ib
 ·cases dn
  ·cases wb
   ·go_upto_region 13 with fail
    have fa:Fr [] w5 (w5.alloc (.cells (Ev.rsc p5 (.slice a5 p5.items.length c5')).toArray 53)):=(Fr.refl _ _).alloc _
    have Z6:=hid (Z5.out.fr0 fa)
    have hB6:=Nat.le_trans hB5 fa.size
    clear fa
    simp only[Ev.rsc] at Z6 hB6
    have h8:¬ r.2.stage=8:=of_decide_eq_false HBs.out.2.2
    have HAn:=hid (tk_no _ B ta xp i r.2 Z6.out.task hB6 h8)
    go_wp2_with fail
    refine HAn.out.mono ?_
    rintro e w9 ⟨v9,rfl,hi9,f9⟩
    obtain⟨a9,c9,hv9⟩:=Own.form hi9
    subst hv9
    have Z9:=hid (Z6.out.fr0 f9)
    simp only[Ev.rsc,List.length_nil]
    clear f9 hi9
    go_wp2_with fail
    go_ret
    rw[HCc.out]
    obtain⟨h2,hmi,hr,hta,hBt,htv,-,-,-,-,-,-⟩:=HF.out
    exact⟨rfl,step_on HH.out hbi hmi HX.out h2 HCc.out hr hta hBt htv h8 (by rw[evS_no (by rw[HBs.out.1,HBs.out.2.1];rfl)];exact Z9.out.fr0 ((Fr.refl [] w9).alloc _))⟩
   ·go_upto_region 13 with fail
    have fa:Fr [] w5 (w5.alloc (.cells (Ev.rsc p5 (.slice a5 p5.items.length c5')).toArray 53)):=(Fr.refl _ _).alloc _
    have Z6:=hid (Z5.out.fr0 fa)
    have hB6:=Nat.le_trans hB5 fa.size
    clear fa
    simp only[Ev.rsc] at Z6 hB6
    have h8:¬ r.2.stage=8:=of_decide_eq_false HBs.out.2.2
    have HAn:=hid (tk_no _ B ta xp i r.2 Z6.out.task hB6 h8)
    go_wp2_with fail
    refine HAn.out.mono ?_
    rintro e w9 ⟨v9,rfl,hi9,f9⟩
    obtain⟨a9,c9,hv9⟩:=Own.form hi9
    subst hv9
    have Z9:=hid (Z6.out.fr0 f9)
    simp only[Ev.rsc,List.length_nil]
    clear f9 hi9
    go_wp2_with fail
    go_ret
    rw[HCc.out]
    obtain⟨h2,hmi,hr,hta,hBt,htv,-,-,-,-,-,-⟩:=HF.out
    exact⟨rfl,step_on HH.out hbi hmi HX.out h2 HCc.out hr hta hBt htv h8 (by rw[evS_no (by rw[HBs.out.1,HBs.out.2.1];rfl)];exact Z9.out.fr0 ((Fr.refl [] w9).alloc _))⟩
  ·exact absurd (HF.out.2.2.2.2.2.2.2.2.2.2.2 (of_decide_eq_true HBs.out.2.2)) (by rw[HBs.out.2.1];decide)
 ·cases wb
  ·go_upto_region 12 with fail
   have hp5:r.2.point=p5:=by simpa using HP5.out
   have fa:Fr [] w5 (w5.alloc (.cells (Ev.rsc p5 (.slice a5 p5.items.length c5')).toArray 53)):=(Fr.refl _ _).alloc _
   have Z6:=hid (Z5.out.fr0 fa)
   have hB6:=Nat.le_trans hB5 fa.size
   have HN:=hid (note_any _ B g xp i k s.core bs b vc ve (.slice a5 p5.items.length c5') 2 2 x _ _ p5 s.events hB6 HH.out.bg Z6.out.srv Z6.out.own hbi Z6.out.con Z6.out.ses HF.out.2.2.2.2.2.2.1 (by rw[HF.out.2.2.2.2.2.2.2.2.1];exact Z6.out.ops) (by rw[HF.out.2.2.2.2.2.2.2.2.1];exact HF.out.2.2.2.2.2.2.2.2.2.1) Z6.out.evs (Own.fr0 HI5.out fa) (by rw[←hp5];exact HQ.out rfl) (by omega))
   clear fa
   simp only[Ev.rsc] at Z6 hB6 HN
   go_wp2_with fail
   refine HN.out.mono ?_
   rintro e w7 ⟨rfl,ve7,hs7,he7,f7⟩
   rw[HF.out.2.2.2.2.2.2.2.1,←hp5] at he7
   have Z7:=hid (Z6.out.note hs7 he7 f7)
   have hB7:=Nat.le_trans hB6 f7.size
   have e7:=Z7.out.con.cell 3
   have hl7:=Z7.out.con.lt
   simp[connC,Htv.out] at e7
   clear hs7 he7 f7 e5 hp5
   cases dn
   ·have h8:¬ r.2.stage=8:=of_decide_eq_false HBs.out.2.2
    have HAn:=hid (tk_no w7 B ta xp i r.2 Z7.out.task hB7 h8)
    go_wp2_with fail
    refine HAn.out.mono ?_
    rintro e w9 ⟨v9,rfl,hi9,f9⟩
    obtain⟨a9,c9,hv9⟩:=Own.form hi9
    subst hv9
    have Z9:=hid (Z7.out.fr0 f9)
    simp only[Ev.rsc,List.length_nil]
    clear f9 hi9
    go_wp2_with fail
    go_ret
    rw[HCc.out]
    obtain⟨h2,hmi,hr,hta,hBt,htv,-,-,-,-,-,-⟩:=HF.out
    exact⟨rfl,step_on HH.out hbi hmi HX.out h2 HCc.out hr hta hBt htv h8 (by rw[evS_yes (by rw[HBs.out.1,HBs.out.2.1];rfl)];exact Z9.out.fr0 ((Fr.refl [] w9).alloc _))⟩
   ·have h8:r.2.stage=8:=of_decide_eq_true HBs.out.2.2
    have HAn:=hid (tk_yes w7 B ta xp i r.2 Z7.out.task hB7 h8)
    have e6:=Z7.out.con.cell 3
    have hl6:=Z7.out.con.lt
    simp[connC,Htv.out] at e6
    go_wp2_with fail
    refine HAn.out.mono ?_
    rintro e w9 ⟨v9,rfl,hi9,f9⟩
    obtain⟨a9,c9,hv9⟩:=Own.form hi9
    subst hv9
    have Z9:=hid (Z7.out.fr0 f9)
    have HI9:=hid hi9
    simp only[Ev.rsc]
    clear f9 hi9 e6
    go_upto_region 15 with fail
    have fa9:Fr [] w9 (w9.alloc (.cells (Ev.rsc r.2.point (.slice a9 r.2.point.items.length c9)).toArray 53)):=(Fr.refl _ _).alloc _
    have hro:M.respOk r.2.point=true:=by
     rcases HF.out.2.2.2.2.2.2.2.2.2.2.1 with q|q
     ·exact q
     ·exact absurd (HBs.out.2.1.symm.trans q) (by decide)
    have HSA:=hid (answer_any _ B g b (.slice a9 r.2.point.items.length c9) 2 x r.2.point (Z9.out.fr0 fa9).con (Own.fr0 HI9.out fa9) hro)
    have Z10:=hid (Z9.out.fr0 fa9)
    have HI10:=hid (Own.fr0 HI9.out fa9)
    have hro':=hid (Nat.le_trans (Rp.resp_ok hro).l1 (show 8≤20 by decide))
    clear fa9 hro
    simp only[Ev.rsc] at HSA Z10 HI10
    go_wp2_with fail
    refine HSA.out.mono ?_
    rintro e w11 ⟨rfl,c11,f11⟩
    go_wp2_with fail
    go_ret
    rw[HCc.out]
    obtain⟨h2,hmi,hr,hta,hBt,htv,-,-,-,-,-,-⟩:=HF.out
    exact⟨rfl,step_done HH.out hbi hmi HX.out h2 HCc.out hr h8 (by rw[evS_yes (by rw[HBs.out.1,HBs.out.2.1];rfl)];exact Z10.out) c11 HI10.out hro'.out f11⟩
  ·cases dn
   ·go_upto_region 13 with fail
    have fa:Fr [] w5 (w5.alloc (.cells (Ev.rsc p5 (.slice a5 p5.items.length c5')).toArray 53)):=(Fr.refl _ _).alloc _
    have Z6:=hid (Z5.out.fr0 fa)
    have hB6:=Nat.le_trans hB5 fa.size
    clear fa
    simp only[Ev.rsc] at Z6 hB6
    have h8:¬ r.2.stage=8:=of_decide_eq_false HBs.out.2.2
    have HAn:=hid (tk_no _ B ta xp i r.2 Z6.out.task hB6 h8)
    go_wp2_with fail
    refine HAn.out.mono ?_
    rintro e w9 ⟨v9,rfl,hi9,f9⟩
    obtain⟨a9,c9,hv9⟩:=Own.form hi9
    subst hv9
    have Z9:=hid (Z6.out.fr0 f9)
    simp only[Ev.rsc,List.length_nil]
    clear f9 hi9
    go_wp2_with fail
    go_ret
    rw[HCc.out]
    obtain⟨h2,hmi,hr,hta,hBt,htv,-,-,-,-,-,-⟩:=HF.out
    exact⟨rfl,step_on HH.out hbi hmi HX.out h2 HCc.out hr hta hBt htv h8 (by rw[evS_no (by rw[HBs.out.1,HBs.out.2.1];rfl)];exact Z9.out.fr0 ((Fr.refl [] w9).alloc _))⟩
   ·go_upto_region 13 with fail
    have fa:Fr [] w5 (w5.alloc (.cells (Ev.rsc p5 (.slice a5 p5.items.length c5')).toArray 53)):=(Fr.refl _ _).alloc _
    have Z6:=hid (Z5.out.fr0 fa)
    have hB6:=Nat.le_trans hB5 fa.size
    clear fa
    simp only[Ev.rsc] at Z6 hB6
    have h8:r.2.stage=8:=of_decide_eq_true HBs.out.2.2
    have HAn:=hid (tk_yes _ B ta xp i r.2 Z6.out.task hB6 h8)
    have e6:=Z6.out.con.cell 3
    have hl6:=Z6.out.con.lt
    simp[connC,Htv.out] at e6
    go_wp2_with fail
    refine HAn.out.mono ?_
    rintro e w9 ⟨v9,rfl,hi9,f9⟩
    obtain⟨a9,c9,hv9⟩:=Own.form hi9
    subst hv9
    have Z9:=hid (Z6.out.fr0 f9)
    have HI9:=hid hi9
    simp only[Ev.rsc]
    clear f9 hi9 e6
    go_upto_region 15 with fail
    have fa9:Fr [] w9 (w9.alloc (.cells (Ev.rsc r.2.point (.slice a9 r.2.point.items.length c9)).toArray 53)):=(Fr.refl _ _).alloc _
    have hro:M.respOk r.2.point=true:=by
     rcases HF.out.2.2.2.2.2.2.2.2.2.2.1 with q|q
     ·exact q
     ·exact absurd (HBs.out.2.1.symm.trans q) (by decide)
    have HSA:=hid (answer_any _ B g b (.slice a9 r.2.point.items.length c9) 2 x r.2.point (Z9.out.fr0 fa9).con (Own.fr0 HI9.out fa9) hro)
    have Z10:=hid (Z9.out.fr0 fa9)
    have HI10:=hid (Own.fr0 HI9.out fa9)
    have hro':=hid (Nat.le_trans (Rp.resp_ok hro).l1 (show 8≤20 by decide))
    clear fa9 hro
    simp only[Ev.rsc] at HSA Z10 HI10
    go_wp2_with fail
    refine HSA.out.mono ?_
    rintro e w11 ⟨rfl,c11,f11⟩
    go_wp2_with fail
    go_ret
    rw[HCc.out]
    obtain⟨h2,hmi,hr,hta,hBt,htv,-,-,-,-,-,-⟩:=HF.out
    exact⟨rfl,step_done HH.out hbi hmi HX.out h2 HCc.out hr h8 (by rw[evS_no (by rw[HBs.out.1,HBs.out.2.1];rfl)];exact Z10.out) c11 HI10.out hro'.out f11⟩
def Us:List TypeId:=77::85::127::129::140::56::Ts
theorem pick_len (s:M.Srv)(i:Nat):(s.pick i).events.length≤s.events.length+2∧(s.pick i).conns.length=s.conns.length:=by
 unfold M.Srv.pick
 split
 ·exact⟨by omega,rfl⟩
 split
 ·exact⟨by omega,rfl⟩
 split
 ·split
  ·exact⟨by omega,rfl⟩
  ·simp only[]
   split<;>simp
 split
 ·simp only[]
  split
  all_goals
   split<;>simp
 ·simp
theorem all_us {w:World}{B xp:Nat}{room:Int}{b:Blk}{who:Int}{m:M.Conn}{x:Cx}(h:ConnP w B xp room b who m x):∀ y,y∈b.all→∃ t,t∈Us∧tyOf w y=some t:=by
 intro y hy
 simp only[Blk.all,List.mem_cons] at hy
 rcases hy with rfl|rfl|rfl|rfl|hy
 ·exact⟨_,by simp[Us],h.cell.ty⟩
 ·exact⟨_,by simp[Us],h.sess.ty⟩
 ·exact⟨_,by simp[Us],Holds.ty h.inp⟩
 ·exact⟨_,by simp[Us],Holds.ty h.outp⟩
 ·by_cases e:m.state=2
  ·obtain⟨ta,h1,_,_,vo,vi,h4⟩:=h.ta e
   rw[h1] at hy
   simp at hy
   subst hy
   exact⟨_,by simp[Us],h4.cell.ty⟩
  ·rw[h.nta e] at hy
   simp at hy
theorem Picked.fin {w w':World}{B g xp i:Nat}{k:Cf}{bs:List Blk}{s:M.Srv}{vc ve:Value}{b:Blk}{m:M.Conn}{x:Cx}(h:SrvP w B g xp k bs s vc ve)(hx:ConnP w B xp k.room b i m x)(h':Picked w B g xp i k s vc b w'):SrvAt w' B g xp k (s.pick i)∧FrX B Us [] w w':=by
 obtain⟨bs',ve',h1,h2⟩:=h'
 have h3:FrX B Us (g::b.all) w w':=(h2.mono (Ts:=Us) (fun t ht=>.tail _ (.tail _ (.tail _ (.tail _ (.tail _ ht))))) (fun _ h=>h))
 refine⟨⟨bs',vc,ve',h1⟩,h3.shed fun z hz=>.inr (.inr ?_)⟩
 rcases List.mem_cons.1 hz with rfl|hz
 ·exact⟨_,by simp[Us],h.cell.ty⟩
 ·exact all_us hx z hz
theorem pick_any (w:World)(B g xp i:Nat)(k:Cf)(s:M.Srv)(h:SrvAt w B g xp k s)(hi:i<s.conns.length)(hm:M.mayPick s i=true)(hr0:5000≤k.room)(hr1:k.room≤100000)(hB:B≤w.heap.size)(hev:s.events.length≤90000) :
  Calls Tryz.prog 14 #[.pointer (some ⟨g,0,none⟩),.int .i64 i] w fun e w'=>e = .returned (.bool (s.can i))∧SrvAt w' B g xp k (s.pick i)∧FrX B Us [] w w':=by
 obtain⟨bs,vc,ve,h⟩:=h
 have hmi:s.conns[i]? = some s.conns[i]:=List.getElem?_eq_getElem hi
 generalize s.conns[i]=m at hmi
 have hib:i<bs.length:=by rw[h.len];exact hi
 have hbi:bs[i]? = some bs[i]:=List.getElem?_eq_getElem hib
 generalize bs[i]=b at hbi
 obtain⟨x,hx⟩:=h.each i b m hbi hmi
 unfold M.mayPick at hm
 rw[hmi] at hm
 simp only[Bool.and_eq_true] at hm
 have hmc:=may_conn hm.2
 cases hc:s.can i
 ·exact(hc ▸ pick_no w B g xp i k bs s vc ve b m x h hbi hmi hx hmc hr0 hr1 hc).mono fun e w' q=>⟨q.1,q.2.fin h hx⟩
 ·rcases hmc.st with⟨e,_⟩|⟨e,_⟩|⟨e,_⟩
  ·exact(hc ▸ pick_read w B g xp i k bs s vc ve b m x h hbi hmi hx hmc hm.1 hr0 hr1 hc e hB hev).mono fun e w' q=>⟨q.1,q.2.fin h hx⟩
  ·exact(hc ▸ pick_step w B g xp i k bs s vc ve b m x h hbi hmi hx hmc hr0 hr1 hc e hB hev).mono fun e w' q=>⟨q.1,q.2.fin h hx⟩
  ·exact(hc ▸ pick_put w B g xp i k bs s vc ve b m x h hbi hmi hx hmc hr0 hr1 e hB hev).mono fun e w' q=>⟨q.1,q.2.fin h hx⟩
theorem SrvP.frT {w w':World}{B g xp:Nat}{k:Cf}{bs:List Blk}{s:M.Srv}{vc ve:Value}{c':M.Core}(h:SrvP w B g xp k bs s vc ve)(hf:FrX B Ts [] w w')(hc:CoreAt w' B xp k c')(he:cf4 c'=cf4 s.core):SrvP w' B g xp k bs { s with core:=c' } vc ve :=
 ⟨h.bg,h.bxp,by rw[srvC_cf4 (show cf4 ({ s with core:=c' } : M.Srv).core=cf4 s.core from he)];exact h.cell.frx hf (by decide) (by simp),hc,h.len,h.conns.frx0 hf (by decide),fun i b m hb hm=>by
  obtain⟨x,hx⟩:=h.each i b m hb hm
  exact⟨x,hx.frx hf (by decide) (by simp)⟩,h.apart,h.evs.frx hf (by decide) (by decide) (by decide),h.npo⟩
theorem state_any (w:World)(B g xp i:Nat)(k:Cf)(s:M.Srv)(m:M.Conn)(h:SrvAt w B g xp k s)(hmi:s.conns[i]? = some m) :
  Calls Tryz.prog 11 #[.pointer (some ⟨g,0,none⟩),.int .i64 i] w fun e w'=>e = .returned (.int .i64 m.state)∧w=w':=by
 obtain⟨bs,vc,ve,h⟩:=h
 have hib:i<bs.length:=by rw[h.len];exact(List.getElem?_eq_some_iff.1 hmi).1
 have hbi:bs[i]? = some bs[i]:=List.getElem?_eq_getElem hib
 generalize bs[i]=b at hbi
 obtain⟨x,hx⟩:=h.each i b m hbi hmi
 have HA:=hid (at_any w B g i k s.core xp vc ve bs b h.cell h.conns hbi)
 have d0:=hx.cell.cell 0
 simp[connC] at d0
 have hbl:=hx.cell.lt
 generalize m.state=st at *
 clear h hx hmi
 go_enter Tryz.func11,Tryz.ntmps11
 go_wp2_with fail
 refine HA.out.mono ?_
 rintro e w1 ⟨rfl,rfl⟩
 go_wp2_with fail
 go_ret
 exact⟨rfl,rfl⟩
theorem tick_any (w:World)(B g xp:Nat)(k:Cf)(s:M.Srv)(n:Int)(h:SrvAt w B g xp k s)(h0:0≤n)(h1:n≤1000000)(h2:0≤s.core.now)(h3:s.core.now≤1000000000) :
  Calls Tryz.prog 16 #[.pointer (some ⟨g,0,none⟩),.int .i64 n] w fun e w'=>e = .returned (.bool true)∧SrvAt w' B g xp k (s.tick n)∧FrX B Us [] w w':=by
 obtain⟨bs,vc,ve,h⟩:=h
 have HT:=hid (Cr.tick_any w B xp k s.core n h.core h0 h1 h2 h3)
 have c8:=h.cell.cell 8
 simp[srvC,confC] at c8
 have HH:=hid h
 clear h
 go_enter Tryz.func16,Tryz.ntmps16
 go_wp2_with fail
 refine HT.out.mono ?_
 rintro e w1 ⟨rfl,hc1,f1⟩
 go_wp2_with fail
 go_ret
 exact⟨rfl,⟨bs,vc,ve,HH.out.frT f1 hc1 rfl⟩,f1.mono (by decide) (fun _ h=>h)⟩
theorem todo_send (m:M.Conn)(q:List M.Req):todoB m++En.bytesOf (q.flatMap En.reqF)=todoB { m with todo:=m.todo++q }:=by
 unfold todoB
 rw[List.flatMap_append]
 exact En.bytesOf_append _ _
theorem send_any (w:World)(B g xp i:Nat)(k:Cf)(s:M.Srv)(m:M.Conn)(q:List M.Req)(h:SrvAt w B g xp k s)(hmi:s.conns[i]? = some m)(h4:m.state≠4)(hr0:0≤k.room)(hr1:k.room≤100000)(hs:((todoB { m with todo:=m.todo++q }).size:Int)≤k.room) :
  Calls Tryz.prog 8 #[.pointer (some ⟨g,0,none⟩),.int .i64 i,.string (En.bytesOf (q.flatMap En.reqF))] w fun e w'=>e = .returned (.bool true)∧SrvAt w' B g xp k (s.send i q)∧FrX B Us [] w w':=by
 obtain⟨bs,vc,ve,h⟩:=h
 have hib:i<bs.length:=by rw[h.len];exact(List.getElem?_eq_some_iff.1 hmi).1
 have hbi:bs[i]? = some bs[i]:=List.getElem?_eq_getElem hib
 generalize bs[i]=b at hbi
 obtain⟨x,hx⟩:=h.each i b m hbi hmi
 have HA:=hid (at_any w B g i k s.core xp vc ve bs b h.cell h.conns hbi)
 have HF:=hid (Se.feed_any w b.se b.pi _ (todoB m) (En.bytesOf (q.flatMap En.reqF)) _ k.room hx.sess hx.inp hr0 hr1 (by rw[todo_send];exact hs))
 rw[todo_send] at HF
 have d0:=hx.cell.cell 0
 have d1:=hx.cell.cell 1
 simp[connC] at d0 d1
 have hst:(m.state != 4)=true:=by simpa using h4
 have hst0:¬ m.state=4:=h4
 have hbl:=hx.cell.lt
 have HH:=hid h
 have HX:=hid hx
 have HM:=hid hmi
 generalize En.bytesOf (q.flatMap En.reqF)=sent at *
 obtain⟨st,hst'⟩:∃ st,m.state=st:=⟨_,rfl⟩
 rw[hst'] at d0 hst hst0
 clear h hx hmi h4 hst' hs
 go_enter Tryz.func8,Tryz.ntmps8
 go_wp2_with fail
 refine HA.out.mono ?_
 rintro e w1 ⟨rfl,rfl⟩
 go_wp2_with fail
 refine HF.out.mono ?_
 rintro e w2 ⟨rfl,p2,f2⟩
 have P2:=hid p2
 have F2:=hid f2
 clear p2 f2
 go_wp2_with fail
 go_ret
 have hx:=HX.out
 have h:=HH.out
 have x2:FrX B [129] [] w w2:=FrX.of_frT F2.out (by simpa using hx.bpi) (fun y hy=>⟨129,by simp,by simp at hy;subst hy;exact Holds.ty hx.inp⟩)
 have f3:FrX B [] [b.pi] w w2:=FrX.of_fr F2.out (by simpa using hx.bpi)
 have hn:∀ {y t:Nat} {cs:Array Value},Holds w y t cs→t≠129→Holds w2 y t cs:=fun hy ht=>hy.frx x2 (by simpa using ht) (by simp)
 refine⟨rfl,⟨bs.set i b,vc,ve,?_⟩,x2.mono (by decide) (fun _ h=>h)⟩
 unfold M.Srv.send
 rw[HM.out]
 refine h.turn (b':=b) hbi HM.out hx rfl ⟨rfl,rfl⟩ (hn h.cell (by decide)) (h.core.frx x2 (by decide)) (x':=x) ?_ (h.evs.frx x2 (by decide) (by decide) (by decide)) f3 (by simp) (fun y hy=>.inr (.inl (by simp at hy;subst hy;simp[Blk.all]))) (fun y hy=>.inl hy)
 refine⟨hx.bc,hx.bse,hx.bpi,hx.bpo,hn hx.cell (by decide),hn hx.sess (by decide),P2.out,Holds.fr hx.outp F2.out (by have:=h.npo i b hbi;simpa using this),fun e=>?_,fun e=>?_,hx.nta,hx.tk,fun e=>?_⟩
 ·obtain⟨ta,h1,h2,h3,vo,vi,h4⟩:=hx.ta e
  exact⟨ta,h1,h2,h3,vo,vi,h4.frx x2 (by decide) (by decide) (by decide)⟩
 ·obtain⟨h1,h2,h3,h4,h5⟩:=hx.turn e
  exact⟨h1,h2,h3,h4.frx0 x2 (by decide),h5⟩
 ·obtain⟨h1,h2,h3,h4,h5⟩:=hx.ans e
  exact⟨h1,h2,h3.frx0 x2 (by decide),h4,h5⟩
theorem take_any (w:World)(B g xp i:Nat)(k:Cf)(s:M.Srv)(m:M.Conn)(n:Int)(h:SrvAt w B g xp k s)(hmi:s.conns[i]? = some m)(hn:((outB m).size:Int)≤n)(hz:(outB m).size≤100000) :
  Calls Tryz.prog 41 #[.pointer (some ⟨g,0,none⟩),.int .i64 i,.int .i64 n] w fun e w'=>e = .returned (.string (outB m))∧SrvAt w' B g xp k { s with conns:=s.conns.set i { m with out:=[] } }∧FrX B Us [] w w':=by
 obtain⟨bs,vc,ve,h⟩:=h
 have hib:i<bs.length:=by rw[h.len];exact(List.getElem?_eq_some_iff.1 hmi).1
 have hbi:bs[i]? = some bs[i]:=List.getElem?_eq_getElem hib
 generalize bs[i]=b at hbi
 obtain⟨x,hx⟩:=h.each i b m hbi hmi
 have HA:=hid (at_any w B g i k s.core xp vc ve bs b h.cell h.conns hbi)
 have htk:Pi.takes n (outB m)=(outB m).size:=by unfold Pi.takes;omega
 have HT:=hid (Pi.take_lit w b.po k.room (outB m) false n hx.outp (by omega) (outB m) ByteArray.empty (by rw[htk];simp) (by rw[htk];simp))
 have d2:=hx.cell.cell 2
 simp[connC] at d2
 have hbl:=hx.cell.lt
 have HH:=hid h
 have HX:=hid hx
 have HM:=hid hmi
 clear h hx hmi hn hz htk
 go_enter Tryz.func41,Tryz.ntmps41
 go_wp2_with fail
 refine HA.out.mono ?_
 rintro e w1 ⟨rfl,rfl⟩
 go_wp2_with fail
 refine HT.out.mono ?_
 rintro e w2 ⟨rfl,p2,f2⟩
 have P2:=hid p2
 have F2:=hid f2
 clear p2 f2
 go_wp2_with fail
 go_ret
 have hx:=HX.out
 have h:=HH.out
 have x2:FrX B [129] [] w w2:=FrX.of_frT F2.out (by simpa using hx.bpo) (fun y hy=>⟨129,by simp,by simp at hy;subst hy;exact Holds.ty hx.outp⟩)
 have f3:FrX B [] [b.po] w w2:=FrX.of_fr F2.out (by simpa using hx.bpo)
 have hn:∀ {y t:Nat} {cs:Array Value},Holds w y t cs→t≠129→Holds w2 y t cs:=fun hy ht=>hy.frx x2 (by simpa using ht) (by simp)
 refine⟨rfl,⟨bs.set i b,vc,ve,?_⟩,x2.mono (by decide) (fun _ h=>h)⟩
 refine h.turn (b':=b) hbi HM.out hx rfl ⟨rfl,rfl⟩ (hn h.cell (by decide)) (h.core.frx x2 (by decide)) (x':=x) ?_ (h.evs.frx x2 (by decide) (by decide) (by decide)) f3 (by simp) (fun y hy=>.inr (.inl (by simp at hy;subst hy;simp[Blk.all]))) (fun y hy=>.inl hy)
 refine⟨hx.bc,hx.bse,hx.bpi,hx.bpo,hn hx.cell (by decide),hn hx.sess (by decide),Holds.fr hx.inp F2.out (by have:=h.npo i b hbi;simp;exact Ne.symm this),?_,fun e=>?_,fun e=>?_,hx.nta,hx.tk,fun e=>?_⟩
 ·have e:outB { m with out:=[] }=ByteArray.empty:=rfl
  rw[e]
  exact P2.out
 ·obtain⟨ta,h1,h2,h3,vo,vi,h4⟩:=hx.ta e
  exact⟨ta,h1,h2,h3,vo,vi,h4.frx x2 (by decide) (by decide) (by decide)⟩
 ·obtain⟨h1,h2,h3,h4,h5⟩:=hx.turn e
  exact⟨h1,h2,h3,h4.frx0 x2 (by decide),h5⟩
 ·obtain⟨h1,h2,h3,h4,h5⟩:=hx.ans e
  exact⟨h1,h2,h3.frx0 x2 (by decide),h4,h5⟩
def k0:Cf:=⟨12,0,20006,3⟩
def cells0:Array Value:=#[.int .i64 12,.int .i64 0,.int .i64 20006,.int .i64 3,.int .i64 2,.int .i64 6,.int .i64 65536,.int .i64 9]
theorem in_any (w:World)(a b:Int)(h1:1≤a)(h2:a≤b):Calls Tryz.prog 126 #[.int .i64 a,.int .i64 b] w fun e w'=>e = .returned (.bool true)∧w=w':=by
 go_enter Tryz.func126,Tryz.ntmps126
 go_wp2_with fail
 go_ret
 simp[h1,h2]
theorem check_any (w:World):Calls Tryz.prog 89 #[.agg #[.int .i64 2,.int .i64 6,.int .i64 65536,.int .i64 9]] w fun e w'=>e = .returned (.int .i64 0)∧Fr [] w w':=by
 have H1:=hid (fun W=>in_any W 2 8 (by decide) (by decide))
 have H2:=hid (fun W=>in_any W 6 16 (by decide) (by decide))
 have H3:=hid (fun W=>in_any W 65536 1048576 (by decide) (by decide))
 have H4:=hid (fun W=>in_any W 9 64 (by decide) (by decide))
 go_enter Tryz.func89,Tryz.ntmps89
 go_wp2_with fail
 refine(H1.out _).mono ?_
 rintro e w1 ⟨rfl,rfl⟩
 go_wp2_with fail
 refine(H2.out _).mono ?_
 rintro e w1 ⟨rfl,rfl⟩
 go_wp2_with fail
 refine(H3.out _).mono ?_
 rintro e w1 ⟨rfl,rfl⟩
 go_wp2_with fail
 refine(H4.out _).mono ?_
 rintro e w1 ⟨rfl,rfl⟩
 go_wp2_with fail
 go_ret
 exact⟨rfl,(Fr.refl _ _).alloc _⟩
theorem may_any (w:World):Calls Tryz.prog 48 #[.agg cells0] w fun e w'=>e = .returned (.int .i64 0)∧Fr [] w w':=by
 unfold cells0
 have H1:=hid (fun W=>check_any W)
 go_enter Tryz.func48,Tryz.ntmps48
 go_wp2_with fail
 refine(H1.out _).mono ?_
 rintro e w1 ⟨rfl,f1⟩
 go_wp2_with fail
 go_ret
 exact⟨rfl,((Fr.refl _ _).alloc _).trans f1⟩
theorem core_new (w:World)(B:Nat)(hB:B≤w.heap.size):Calls Tryz.prog 21 #[.agg cells0] w fun e w'=>∃ xp,e = .returned (.tuple #[.pointer (some ⟨xp,0,none⟩),.int .i64 0])∧w.heap.size≤xp∧CoreAt w' B xp k0 M.core0∧Fr [] w w':=by
 have HM:=hid (fun W=>may_any W)
 have HR:=hid (fun W (hW:Fr [] w W)=>Rk.new_any W B 3 (Rk.shardOf key 3) (by decide) (by decide) (by decide +kernel) (Nat.le_trans hB hW.size))
 have HO:=hid (fun W=>Ob.new_any W B)
 have HH:=hid (fun W=>Hb.hnew W B)
 have HK:=hid (fun W=>Ck.new_any W B)
 unfold cells0
 go_enter Tryz.func21,Tryz.ntmps21
 go_wp2_with fail
 refine(HM.out _).mono ?_
 rintro e w1 ⟨rfl,f1⟩
 obtain⟨z,hz⟩:∃ z,w.heap.size=z:=⟨_,rfl⟩
 have fz:Fr [] w w1:=((Fr.refl _ _).alloc _).trans f1
 have HZ:=hid (show Holds w1 z 31 cells0 by rw[←hz];exact(Holds.new w _ _).fr f1 (by simp))
 have HC:=hid (fun W (f:Fr [] w1 W)=>(show W.cell? ⟨z,0,none⟩=some (.int .i64 12)∧W.cell? ⟨z,1,none⟩=some (.int .i64 0)∧W.cell? ⟨z,2,none⟩=some (.int .i64 20006)∧W.cell? ⟨z,3,none⟩=some (.int .i64 3)∧W.cell? ⟨z,4,none⟩=some (.int .i64 2)∧W.cell? ⟨z,5,none⟩=some (.int .i64 6)∧W.cell? ⟨z,6,none⟩=some (.int .i64 65536)∧W.cell? ⟨z,7,none⟩=some (.int .i64 9) from by
  have H:=HZ.out.fr f (by simp)
  exact⟨H.cell 0,H.cell 1,H.cell 2,H.cell 3,H.cell 4,H.cell 5,H.cell 6,H.cell 7⟩))
 have hzl:=HZ.out.lt
 have hS:=HC.out w1 (Fr.refl _ _)
 obtain⟨c0,c1,c2,c3,c4,c5,c6,c7⟩:=hS
 simp only[hz]
 go_upto_region 4 with fail
 have HFz:=hid fz
 clear fz f1
 go_region_held3 (fun w'=>w'.cell? ⟨z,0,none⟩=some (.int .i64 12)∧w'.cell? ⟨z,1,none⟩=some (.int .i64 0)∧w'.cell? ⟨z,2,none⟩=some (.int .i64 20006)∧w'.cell? ⟨z,3,none⟩=some (.int .i64 3)∧w'.cell? ⟨z,4,none⟩=some (.int .i64 2)∧w'.cell? ⟨z,5,none⟩=some (.int .i64 6)∧w'.cell? ⟨z,6,none⟩=some (.int .i64 65536)∧w'.cell? ⟨z,7,none⟩=some (.int .i64 9)) (first|go_keep|exact hS|(simpa[go_sem] using hS))
  (first
   | (go_at_call 49;refine(HR.out _ (by first|exact HFz.out|exact HFz.out.drewN _|exact HFz.out.drew)).mono ?_;rintro e wr ⟨rg,rfl,hr,qr,fr'⟩;have fr:Fr [] w1 wr:=(by first|exact fr'|exact((Fr.refl _ _).drewN _).trans fr'|exact((Fr.refl _ _).drew).trans fr');have gr:Fr [] w1 wr:=fr;have hS:=HC.out wr gr)
   | (go_at_call 50;refine(HO.out _).mono ?_;rintro e wo ⟨og,rfl,ho,qo,fo'⟩;have fo:Fr [] wr wo:=(by first|exact fo'|exact((Fr.refl _ _).drewN _).trans fo'|exact((Fr.refl _ _).drew).trans fo');have go:Fr [] w1 wo:=gr.trans fo;have hS:=HC.out wo go)
   | (go_at_call 51;refine(HH.out _).mono ?_;rintro e wh ⟨hg,rfl,hh,qh,fh'⟩;have fh:Fr [] wo wh:=(by first|exact fh'|exact((Fr.refl _ _).drewN _).trans fh'|exact((Fr.refl _ _).drew).trans fh');have gh:Fr [] w1 wh:=go.trans fh;have hS:=HC.out wh gh)
   | (go_at_call 52;refine(HK.out _).mono ?_;rintro e wk ⟨kg,rfl,hk,qk,fk'⟩;have fk:Fr [] wh wk:=(by first|exact fk'|exact((Fr.refl _ _).drewN _).trans fk'|exact((Fr.refl _ _).drew).trans fk');have gk:Fr [] w1 wk:=gh.trans fk;have hS:=HC.out wk gk))
 have Hr:=hid (show B≤rg∧Rk.RegAt wk B rg 3 (Rk.shardOf key 3) [] from ⟨Nat.le_trans (Nat.le_trans hB HFz.out.size) (by simpa using hr),((qr.fr0 fo).fr0 fh).fr0 fk⟩)
 have Ho:=hid (show B≤og∧Ob.MapAt wk B og [] from ⟨Nat.le_trans (Nat.le_trans hB HFz.out.size) (Nat.le_trans gr.size (by simpa using ho)),(qo.fr0 fh).fr0 fk⟩)
 have Hh:=hid (show B≤hg∧Hb.HAt wk B hg [] from ⟨Nat.le_trans (Nat.le_trans hB HFz.out.size) (Nat.le_trans go.size (by simpa using hh)),qh.fr0 fk⟩)
 have Hk:=hid (show B≤kg∧Ck.ClockAt wk B kg 0 [] from ⟨Nat.le_trans (Nat.le_trans hB HFz.out.size) (Nat.le_trans gh.size (by simpa using hk)),qk⟩)
 have HF:=hid (show Fr [] w wk from HFz.out.trans gk)
 clear qr qo qh qk
 go_wp2_with fail
 go_ret2
 refine⟨_,rfl,HF.out.size,⟨.slice none 0 0,rg,og,hg,kg,Hr.out.1,Ho.out.1,Hh.out.1,Hk.out.1,Holds.new _ _ _,Own.nil _ _ _ _,Hr.out.2.fr0 ((Fr.refl _ _).alloc _),Ho.out.2.fr0 ((Fr.refl _ _).alloc _),Hh.out.2.fr0 ((Fr.refl _ _).alloc _),Hk.out.2.fr0 ((Fr.refl _ _).alloc _)⟩,HF.out.alloc _⟩
theorem new_any (w:World)(B:Nat)(hB:B≤w.heap.size):Calls Tryz.prog 5 #[.agg cells0] w fun e w'=>∃ g xp,e = .returned (.tuple #[.pointer (some ⟨g,0,none⟩),.int .i64 0])∧w.heap.size≤g∧SrvAt w' B g xp k0 ⟨M.core0,[],[]⟩∧Fr [] w w':=by
 have HN:=hid (fun W (h:B≤W.heap.size)=>core_new W B h)
 have HB:=hid hB
 unfold cells0 at *
 go_enter Tryz.func5,Tryz.ntmps5
 go_upto_region 1 with fail
 obtain⟨w1,hw1⟩:∃ W,W=w.alloc (.cells #[.int .i64 12,.int .i64 0,.int .i64 20006,.int .i64 3,.int .i64 2,.int .i64 6,.int .i64 65536,.int .i64 9] 31):=⟨_,rfl⟩
 rw[←hw1]
 obtain⟨z,hz⟩:∃ z,w.heap.size=z:=⟨_,rfl⟩
 have F1:Fr [] w w1:=by rw[hw1];exact(Fr.refl _ _).alloc _
 have HZ:=hid (show Holds w1 z 31 cells0 by rw[←hz,hw1];exact Holds.new w _ _)
 obtain⟨c0,c1,c2,c3,c4,c5,c6,c7⟩:=HZ.out.cs8
 simp[cells0] at c0 c1 c2 c3 c4 c5 c6 c7
 have HNw:=hid (HN.out w1 (Nat.le_trans hB F1.size))
 have HF1:=hid F1
 simp only[hz]
 clear F1 hw1
 go_wp2_with fail
 refine HNw.out.mono ?_
 rintro e w2 ⟨xp,rfl,hxp,hc,f2⟩
 have H2:=HZ.out.fr f2 (by simp)
 obtain⟨d0,d1,d2,d3,d4,d5,d6,d7⟩:=H2.cs8
 simp[cells0] at d0 d1 d2 d3 d4 d5 d6 d7
 have HC:=hid hc
 have HX:=hid (Nat.le_trans HF1.out.size hxp)
 have HF:=hid (HF1.out.trans f2)
 clear H2 hc f2 hxp c0 c1 c2 c3 c4 c5 c6 c7
 go_wp2_with fail
 go_ret2
 refine⟨_,xp,rfl,HF.out.size,⟨[],.slice none 0 0,.slice none 0 0,Nat.le_trans HB.out HF.out.size,Nat.le_trans HB.out HX.out,Holds.new _ _ _,HC.out.fr0 ((Fr.refl _ _).alloc _),rfl,Own.nil _ _ _ _,by simp,by simp,?_,by simp⟩,HF.out.alloc _⟩
 exact⟨[],by simp,Own.nil _ _ _ _,by simp⟩
def Uo:List TypeId:=78::Us
def cx0:Cx:=⟨.pointer none,0,0,0,{ kind:=0 },.slice none 0 0,0,⟨#[]⟩,{ kind:=0 },.slice none 0 0,false⟩
structure Opened (w w4:World)(B g xp:Nat)(k:Cf)(bs:List Blk)(s:M.Srv)(b:Blk)(vc v4 ve:Value):Prop where
 srv:Holds w4 g 77 (srvC k s.core xp vc ve).toArray
 own:Own w4 B 78 1 v4 (bs++[b]).length (flat cp (bs++[b]))
 old:∀ (i:Nat) b m,bs[i]? = some b→s.conns[i]? = some m→ConnAt w4 B xp k.room b i m
 new:ConnP w4 B xp k.room b s.conns.length {} cx0
 core:CoreAt w4 B xp k s.core
 evs:Ev.EvsAt w4 B ve s.events
 fr:FrX B [78] [] w w4
theorem open_push {w W W' w4:World}{B g xp:Nat}{k:Cf}{bs:List Blk}{s:M.Srv}{b:Blk}{ac:Option Addr}{cc j:Nat}{v4 ve:Value}{own4:Option Nat}{news:List Value}(h:SrvP w B g xp k bs s (.slice ac j cc) ve)(hj:bs.length=j)(f:Fr [] w W)(hB:B≤w.heap.size)
  (hcon:Holds W b.c 85 (connC b 1 cx0).toArray) (hse:Se.SeAt W b.se b.pi ⟨#[]⟩ 0) (hpi:Pi.PipeAt W b.pi k.room ⟨#[]⟩ false) (hpo:Pi.PipeAt W b.po k.room ⟨#[]⟩ false) (h1:w.heap.size≤b.c) (h2:w.heap.size≤b.se) (h3:w.heap.size≤b.pi) (h4:w.heap.size≤b.po) (ht:b.ta=none)
  (f':Fr [] W W') (hn:news=cp b) (hs:Sl w4 78 1 v4 (j+1) (flat cp bs++news) own4) (hf:Fr (ownOf (.slice ac j cc)).toList W' w4) (ho:own4=ownOf (.slice ac j cc)∨∃ g,own4=some g∧W'.heap.size≤g) (hm:0<1→∃ g,own4=some g) :
  Opened w w4 B g xp k bs s b (.slice ac j cc) v4 ve:=by
 have hown:=Own.fr0 h.conns (f.trans f')
 have hb:∀ y,y∈(ownOf (.slice ac j cc)).toList→tyOf W' y=some 78∧B≤y:=fun y hy=>hown.ty (by simpa using hy)
 have hBW:B≤W'.heap.size:=Nat.le_trans hB (f.trans f').size
 obtain⟨oo,-⟩:=own_after (B:=B) hBW (fun g hg=>(hown.ty hg).2) hs ho (hm (by omega))
 have x4:FrX B [78] [] W' w4:=FrX.of_frT hf (fun y hy=>(hb y hy).2) (fun y hy=>⟨78,by simp,(hb y hy).1⟩)
 have xw:FrX B [78] [] w w4:=(FrX.of_fr0 (f.trans f')).trans x4
 have e:flat cp (bs++[b])=flat cp bs++cp b:=by rw[flat_append,flat_one]
 have hh:∀ {g t:Nat} {cs:Array Value},Holds W g t cs→t≠78→Holds w4 g t cs:=fun hg ht=>(hg.fr f' (by simp)).frx x4 (by simpa using ht) (by simp)
 refine⟨h.cell.frx xw (by decide) (by simp),by rw[e,←hn];simpa[hj] using oo,fun i b m hb hm=>?_,?_,h.core.frx xw (by decide),h.evs.frx xw (by decide) (by decide) (by decide),xw⟩
 ·obtain⟨x,hx⟩:=h.each i b m hb hm
  exact⟨x,hx.frx xw (by decide) (by simp)⟩
 ·exact⟨Nat.le_trans hB h1,Nat.le_trans hB h2,Nat.le_trans hB h3,Nat.le_trans hB h4,hh hcon (by decide),hh hse (by decide),hh hpi (by decide),hh hpo (by decide),fun e=>by simp at e,fun e=>by simp at e,fun _=>ht,fun e=>by simp at e,fun e=>by simp at e⟩
theorem open_end {w w4:World}{B g xp:Nat}{k:Cf}{bs:List Blk}{s:M.Srv}{b:Blk}{vc v4 ve:Value}(h:SrvP w B g xp k bs s vc ve)(P:Opened w w4 B g xp k bs s b vc v4 ve)(h1:w.heap.size≤b.c)(h2:w.heap.size≤b.se)(h3:w.heap.size≤b.pi)(h4:w.heap.size≤b.po)(ht:b.ta=none)(hpp:b.po≠b.pi) :
  SrvAt (w4.setCell ⟨g,9,none⟩ v4) B g xp k { s with conns:=s.conns++[{}] }∧FrX B Uo [] w (w4.setCell ⟨g,9,none⟩ v4):=by
 have f:Fr [g] w4 (w4.setCell ⟨g,9,none⟩ v4):=(Fr.refl _ _).setCell (by simp) _
 have x5:FrX B [77] [] w4 (w4.setCell ⟨g,9,none⟩ v4):=FrX.of_frT f (by simpa using h.bg) (fun y hy=>⟨77,by simp,by simp at hy;subst hy;exact P.srv.ty⟩)
 have hlen:=h.len
 have hnew:∀ y,y∈b.all→w.heap.size≤y:=fun y hy=>by
  simp only[Blk.all,ht,Option.toList_none,List.mem_cons,List.not_mem_nil,or_false] at hy
  rcases hy with rfl|rfl|rfl|rfl<;>assumption
 have hold:∀ (i:Nat) b',bs[i]? = some b'→∀ y,y∈b'.all→y<w.heap.size:=fun i b' hb' y hy=>by
  have hi:=(List.getElem?_eq_some_iff.1 hb').1
  rw[hlen] at hi
  obtain⟨x,hx⟩:=h.each i b' _ hb' (List.getElem?_eq_getElem hi)
  exact hx.all_lt y hy
 refine⟨⟨bs++[b],v4,ve,h.bg,h.bxp,by simpa[srvC,confC] using P.srv.set 9 v4,P.core.frx x5 (by decide),by simp[hlen],P.own.frx0 x5 (by decide),?_,?_,P.evs.frx x5 (by decide) (by decide) (by decide),?_⟩,?_⟩
 ·intro i b' m hb' hm
  rcases Nat.lt_or_ge i bs.length with hi|hi
  ·rw[List.getElem?_append_left hi] at hb'
   simp only at hm
   rw[List.getElem?_append_left (by omega)] at hm
   obtain⟨x,hx⟩:=P.old i b' m hb' hm
   exact⟨x,hx.frx x5 (by decide) (by simp)⟩
  ·rw[List.getElem?_append_right hi] at hb'
   simp only at hm
   rw[List.getElem?_append_right (by omega)] at hm
   have hi0:i - bs.length=0:=by
    rcases Nat.eq_zero_or_pos (i - bs.length) with h0|h0
    ·exact h0
    ·rw[List.getElem?_eq_none (by simp;omega)] at hb'
     cases hb'
   have hi1:i - s.conns.length=0:=by omega
   rw[hi0] at hb'
   rw[hi1] at hm
   simp at hb' hm
   subst hb'
   subst hm
   have hii:i=s.conns.length:=by omega
   subst hii
   exact⟨cx0,P.new.frx x5 (by decide) (by simp)⟩
 ·intro i j b1 b2 hij hb1 hb2 y hy
  have key:∀ (i:Nat) b1,(bs++[b])[i]? = some b1→(i<bs.length∧bs[i]? = some b1)∨(i=bs.length∧b1=b):=fun i b1 hb1=>by
   rcases Nat.lt_or_ge i bs.length with hi|hi
   ·rw[List.getElem?_append_left hi] at hb1
    exact .inl ⟨hi,hb1⟩
   ·rw[List.getElem?_append_right hi] at hb1
    rcases Nat.eq_zero_or_pos (i - bs.length) with h0|h0
    ·rw[h0] at hb1
     simp at hb1
     exact .inr ⟨by omega,hb1.symm⟩
    ·rw[List.getElem?_eq_none (by simp;omega)] at hb1
     cases hb1
  rcases key i b1 hb1 with⟨_,e1⟩|⟨e1,e1'⟩<;>rcases key j b2 hb2 with⟨_,e2⟩|⟨e2,e2'⟩
  ·exact h.apart i j b1 b2 hij e1 e2 y hy
  ·intro hy2
   subst e2'
   have:=hnew y hy2
   have:=hold i b1 e1 y hy
   omega
  ·intro hy2
   subst e1'
   have:=hnew y hy
   have:=hold j b2 e2 y hy2
   omega
  ·omega
 ·intro i b' hb'
  rcases Nat.lt_or_ge i bs.length with hi|hi
  ·rw[List.getElem?_append_left hi] at hb'
   exact h.npo i b' hb'
  ·rw[List.getElem?_append_right hi] at hb'
   rcases Nat.eq_zero_or_pos (i - bs.length) with h0|h0
   ·rw[h0] at hb'
    simp at hb'
    subst hb'
    exact hpp
   ·rw[List.getElem?_eq_none (by simp;omega)] at hb'
    cases hb'
 ·exact(P.fr.mono (by decide) (fun _ h=>h)).trans (x5.mono (by decide) (fun _ h=>h))
theorem tj {P:Program}{ops:Array Oper}{Q:Exit→Act→World→Prop}{md:Region.Mode}{S:World→Prop}(i:Nat){d:Nat}{o1 o2 o3 o4 o5}{v:Value}{fuel:Nat}{listed:Array Bool}{l:List Value}{ds}{w:World}(hS:S w)(hi:ops[i]? = some ⟨some d,o1,o2,o3,o4,o5⟩:=by rfl)(hq:∀ c a w,Q (.panic c) (a.put (some d) v) w→Q (.panic c) a w:=by exact fun _ _ _ h=>h)(hk:(Region.noSelect ops&&Region.free md ops listed i&&(Region.ready md ops listed).contains i)=true:=by kernel_rfl)(hw:Region.wanted ⟨some d,o1,o2,o3,o4,o5⟩ (yielded ops l.toArray)=true:=by rfl)(hy:∀ w,S w→(execOp (Act.eval { tmps:=l.toArray,defers:=ds }) ⟨some d,o1,o2,o3,o4,o5⟩).run P w = .ok (.value v) w:=by (intro w h;(try dsimp only at h);go_simp<;>with_reducible rfl))(h:wpAnyH P md ops Q S fuel (listed.setIfInBounds i true) { tmps:=(l.set d v).toArray,defers:=ds } w):wpAnyH P md ops Q S (fuel+1) listed { tmps:=l.toArray,defers:=ds } w:=by
 refine tk i hS hi hq hk hw hy ?_
 rw[pt]
 exact h
theorem open_any (w:World)(B g xp:Nat)(k:Cf)(s:M.Srv)(h:SrvAt w B g xp k s)(hn:(s.conns.length:Int)<k.conns)(hk:k.conns≤1000)(hst:∀ m,m∈s.conns→m.state≠4)(hr0:0≤k.room)(hB:B≤w.heap.size) :
  Calls Tryz.prog 7 #[.pointer (some ⟨g,0,none⟩)] w fun e w'=>e = .returned (.tuple #[.int .i64 s.conns.length,.int .i64 0])∧SrvAt w' B g xp k { s with conns:=s.conns++[{}] }∧FrX B Uo [] w w':=by
 obtain⟨bs,vc,ve,h⟩:=h
 obtain⟨i3,hi,hz0,hz1,hz2⟩:=info_parts infoC
 obtain⟨ac,cc',hvc⟩:=h.conns.form
 subst hvc
 obtain⟨n,hnl⟩:∃ n,s.conns.length=n:=⟨_,rfl⟩
 have hbl:=h.len
 rw[hnl] at hbl hn
 have c0:=h.cell.cell 0
 have c2:=h.cell.cell 2
 have c9:=h.cell.cell 9
 have c11:=h.cell.cell 11
 simp[srvC,confC,hbl] at c0 c2 c9 c11
 have hgl:=h.cell.lt
 have hge:¬ k.conns≤(n:Int):=by omega
 have HE:=hid (fun (i:Nat) (hi:i<n)=>(show ∃ b st,bs[i]? = some b∧st≠4∧w.cell? ⟨b.c,0,none⟩=some (.int .i64 st)∧b.c<w.heap.size from by
  have hi2:i<bs.length:=by omega
  have hi3:i<s.conns.length:=by omega
  obtain⟨x,hx⟩:=h.each i bs[i] s.conns[i] (List.getElem?_eq_getElem hi2) (List.getElem?_eq_getElem hi3)
  have d:=hx.cell.cell 0
  simp[connC] at d
  exact⟨bs[i],s.conns[i].state,List.getElem?_eq_getElem hi2,hst _ (List.getElem_mem hi3),d,hx.cell.lt⟩))
 have HH:=hid h
 have HL:=hid (And.intro hnl hbl)
 have HI:=hid (And.intro hi (And.intro hz0 (And.intro hz1 hz2)))
 clear h hst hnl hbl hi hz0 hz1 hz2
 go_enter Tryz.func7,Tryz.ntmps7
 go_wp2_with fail
 go_loopw [4,16] (fun a i wr=>∃ j:Nat,j≤n∧a = .int .i64 j∧i = .int .i64 j∧wr=w) (fun _ i _=>n - (intOf i).toNat)
 case atStart=>exact⟨0,Nat.zero_le _,rfl,rfl,rfl⟩
 case round =>
  obtain⟨j,hj,rfl,rfl,rfl⟩:=hrel
  by_cases hlt:j<n
  ·obtain⟨b,st,hbi,hs4,d0,hcl⟩:=HE.out j hlt
   obtain⟨gc,cc,hgc,hvc,hrc,hgcl,hcc⟩:=HH.out.conns.cell cp_len rfl hbi
   simp at hvc
   have m0:=hcc 0 _ (by omega) rfl
   simp at m0
   have hj1:(j:Int)<(n:Int):=by omega
   have hs4':(st != 4)=true:=by simpa using hs4
   have hw:IntKind.i64.wrap ((j:Int)+1)=(j:Int)+1:=IntWalk.i64_in _ (by omega)
   go_wp2_with fail
   exact⟨⟨j+1,by omega,by simp,by simp,trivial⟩,by simp[intOf];omega⟩
  ·have hj1:¬ (j:Int)<(n:Int):=by omega
   have:j=n:=by omega
   subst this
   have HC:=hid (fun W (f:Fr [] wr W)=>(show W.cell? ⟨g,2,none⟩=some (.int .i64 k.room)∧W.cell? ⟨g,9,none⟩=some (.slice ac j cc')∧g<W.heap.size from by
    have H:=HH.out.cell.fr f (by simp)
    have e2:=H.cell 2
    have e9:=H.cell 9
    simp[srvC,confC,HL.out.2] at e2 e9
    exact⟨e2,e9,H.lt⟩))
   have HH2:=hid (show SrvP wr B g xp k bs s (.slice ac j cc') ve from by have:=HH.out;rw[HL.out.2] at this;exact this)
   have HOw:=hid (show Own wr B 78 1 (.slice ac j cc') j (flat cp bs) from by have:=HH2.out.conns;rw[HL.out.2] at this;exact this)
   have HS:=hid (fun W=>Se.new_any W k.room hr0)
   have HPi:=hid (fun W=>Pi.new_any k.room W)
   rw[Int.max_eq_left hr0] at HPi
   clear HE HH
   have hj1000:j≤1000:=by omega
   go_wp2_with fail
   have hS:=c2
   refine wp_region_noPanic ?_
   refine wp_region_held_drew (S:=(fun w'=>w'.cell? ⟨g,2,none⟩=some (.int .i64 k.room))) (by kernel_rfl) ?_ (fun hh=>?_)
   ·(first|go_keep|exact hS|(simpa[go_sem] using hS))
   refine tj 0 hh (h:=?_)
   try simp only[pt,pn,List.set]
   refine tj 1 hh (h:=?_)
   try simp only[pt,pn,List.set]
   refine tj 2 hh (h:=?_)
   try simp only[pt,pn,List.set]
   refine tj 3 hh (h:=?_)
   try simp only[pt,pn,List.set]
   refine tj 5 hh (h:=?_)
   try simp only[pt,pn,List.set]
   refine tj 6 hh (h:=?_)
   try simp only[pt,pn,List.set]
   refine tj 7 hh (h:=?_)
   try simp only[pt,pn,List.set]
   refine tj 8 hh (h:=?_)
   try simp only[pt,pn,List.set]
   refine tj 9 hh (h:=?_)
   try simp only[pt,pn,List.set]
   refine tj 11 hh (h:=?_)
   try simp only[pt,pn,List.set]
   refine tj 12 hh (h:=?_)
   try simp only[pt,pn,List.set]
   refine tj 13 hh (h:=?_)
   try simp only[pt,pn,List.set]
   refine tj 14 hh (h:=?_)
   try simp only[pt,pn,List.set]
   refine tj 15 hh (h:=?_)
   try simp only[pt,pn,List.set]
   refine wpAnyH_ready (rs:=[4,10]) (by kernel_rfl) (by simp) ?_
   refine AllReadyH.cons rfl (fun K hK=>?_) (AllReadyH.cons rfl (fun K hK=>?_) AllReadyH.nil)
   focus
    go_simp
    refine hK.out _ _ ?_ (fun hh=>?_)
    ·(first|go_keep|exact hS|(simpa[go_sem] using hS))
    clear hK K
    try simp only[pt,pn,List.set]
    refine wpAnyH_ready (rs:=[10]) (by kernel_rfl) (by simp) ?_
    refine AllReadyH.cons rfl (fun K hK=>?_) AllReadyH.nil
    go_simp
    (go_at_call 22;refine(HS.out _).mono ?_;rintro e w2 ⟨se,si,rfl,hse,hsi,hsl,q2,p2,f2'⟩;have f2:Fr [] wr w2:=(by first|exact f2'|exact((Fr.refl _ _).drewN _).trans f2'|exact((Fr.refl _ _).drew).trans f2');obtain⟨e2,e9,egl⟩:=HC.out w2 f2;have hS:=e2)
    try go_wp2_with fail
    refine hK.out _ _ ?_ (fun hh=>?_)
    ·(first|go_keep|exact hS|(simpa[go_sem] using hS))
    clear hK K
    try simp only[pt,pn,List.set]
    refine wpAnyH_ready (rs:=[16]) (by kernel_rfl) (by simp) ?_
    refine AllReadyH.cons rfl (fun K hK=>?_) AllReadyH.nil
    go_simp
    (go_at_call 23;refine(HPi.out _).mono ?_;rintro e w3 ⟨po,rfl,hpo,p3,f3'⟩;have f3:Fr [] w2 w3:=(by first|exact f3'|exact((Fr.refl _ _).drewN _).trans f3'|exact((Fr.refl _ _).drew).trans f3');have f23:=f2.trans f3;have q23:Se.SeAt w3 se si ⟨#[]⟩ 0:=Holds.fr q2 f3 (by simp);have p23:Pi.PipeAt w3 si k.room ⟨#[]⟩ false:=Holds.fr p2 f3 (by simp);obtain⟨g2,g9,ggl⟩:=HC.out w3 f23;have hS:=g2)
    try go_wp2_with fail
    refine hK.out _ _ ?_ (fun hh=>?_)
    ·(first|go_keep|exact hS|(simpa[go_sem] using hS))
    clear hK K
    try simp only[pt,pn,List.set]
    refine tj 17 hh (h:=?_)
    try simp only[pt,pn,List.set]
    refine wpAnyH_ready (rs:=[18]) (by kernel_rfl) (by simp) ?_
    refine AllReadyH.cons rfl (fun K hK=>?_) AllReadyH.nil
    go_simp
    refine hK.out _ _ ?_ (fun hh=>?_)
    ·(first|go_keep|exact hS|(simpa[go_sem] using hS))
    clear hK K
    try simp only[pt,pn,List.set]
    refine wpAnyH_ready (rs:=[19]) (by kernel_rfl) (by simp) ?_
    refine AllReadyH.cons rfl (fun K hK=>?_) AllReadyH.nil
    go_simp
    refine hK.out _ _ ?_ (fun hh=>?_)
    ·(first|go_keep|exact hS|(simpa[go_sem] using hS))
    clear hK K
    try simp only[pt,pn,List.set]
   rotate_left
   focus
    go_simp
    (go_at_call 22;refine(HS.out _).mono ?_;rintro e w2 ⟨se,si,rfl,hse,hsi,hsl,q2,p2,f2'⟩;have f2:Fr [] wr w2:=(by first|exact f2'|exact((Fr.refl _ _).drewN _).trans f2'|exact((Fr.refl _ _).drew).trans f2');obtain⟨e2,e9,egl⟩:=HC.out w2 f2;have hS:=e2)
    try go_wp2_with fail
    refine hK.out _ _ ?_ (fun hh=>?_)
    ·(first|go_keep|exact hS|(simpa[go_sem] using hS))
    clear hK K
    try simp only[pt,pn,List.set]
    refine wpAnyH_ready (rs:=[4,16]) (by kernel_rfl) (by simp) ?_
    refine AllReadyH.cons rfl (fun K hK=>?_) (AllReadyH.cons rfl (fun K hK=>?_) AllReadyH.nil)
    focus
     go_simp
     refine hK.out _ _ ?_ (fun hh=>?_)
     ·(first|go_keep|exact hS|(simpa[go_sem] using hS))
     clear hK K
     try simp only[pt,pn,List.set]
     refine wpAnyH_ready (rs:=[16]) (by kernel_rfl) (by simp) ?_
     refine AllReadyH.cons rfl (fun K hK=>?_) AllReadyH.nil
     go_simp
     (go_at_call 23;refine(HPi.out _).mono ?_;rintro e w3 ⟨po,rfl,hpo,p3,f3'⟩;have f3:Fr [] w2 w3:=(by first|exact f3'|exact((Fr.refl _ _).drewN _).trans f3'|exact((Fr.refl _ _).drew).trans f3');have f23:=f2.trans f3;have q23:Se.SeAt w3 se si ⟨#[]⟩ 0:=Holds.fr q2 f3 (by simp);have p23:Pi.PipeAt w3 si k.room ⟨#[]⟩ false:=Holds.fr p2 f3 (by simp);obtain⟨g2,g9,ggl⟩:=HC.out w3 f23;have hS:=g2)
     try go_wp2_with fail
     refine hK.out _ _ ?_ (fun hh=>?_)
     ·(first|go_keep|exact hS|(simpa[go_sem] using hS))
     clear hK K
     try simp only[pt,pn,List.set]
     refine tj 17 hh (h:=?_)
     try simp only[pt,pn,List.set]
     refine wpAnyH_ready (rs:=[18]) (by kernel_rfl) (by simp) ?_
     refine AllReadyH.cons rfl (fun K hK=>?_) AllReadyH.nil
     go_simp
     refine hK.out _ _ ?_ (fun hh=>?_)
     ·(first|go_keep|exact hS|(simpa[go_sem] using hS))
     clear hK K
     try simp only[pt,pn,List.set]
     refine wpAnyH_ready (rs:=[19]) (by kernel_rfl) (by simp) ?_
     refine AllReadyH.cons rfl (fun K hK=>?_) AllReadyH.nil
     go_simp
     refine hK.out _ _ ?_ (fun hh=>?_)
     ·(first|go_keep|exact hS|(simpa[go_sem] using hS))
     clear hK K
     try simp only[pt,pn,List.set]
    rotate_left
    focus
     go_simp
     (go_at_call 23;refine(HPi.out _).mono ?_;rintro e w3 ⟨po,rfl,hpo,p3,f3'⟩;have f3:Fr [] w2 w3:=(by first|exact f3'|exact((Fr.refl _ _).drewN _).trans f3'|exact((Fr.refl _ _).drew).trans f3');have f23:=f2.trans f3;have q23:Se.SeAt w3 se si ⟨#[]⟩ 0:=Holds.fr q2 f3 (by simp);have p23:Pi.PipeAt w3 si k.room ⟨#[]⟩ false:=Holds.fr p2 f3 (by simp);obtain⟨g2,g9,ggl⟩:=HC.out w3 f23;have hS:=g2)
     try go_wp2_with fail
     refine hK.out _ _ ?_ (fun hh=>?_)
     ·(first|go_keep|exact hS|(simpa[go_sem] using hS))
     clear hK K
     try simp only[pt,pn,List.set]
     refine tj 17 hh (h:=?_)
     try simp only[pt,pn,List.set]
     refine wpAnyH_ready (rs:=[4,18]) (by kernel_rfl) (by simp) ?_
     refine AllReadyH.cons rfl (fun K hK=>?_) (AllReadyH.cons rfl (fun K hK=>?_) AllReadyH.nil)
     focus
      go_simp
      refine hK.out _ _ ?_ (fun hh=>?_)
      ·(first|go_keep|exact hS|(simpa[go_sem] using hS))
      clear hK K
      try simp only[pt,pn,List.set]
      refine wpAnyH_ready (rs:=[18]) (by kernel_rfl) (by simp) ?_
      refine AllReadyH.cons rfl (fun K hK=>?_) AllReadyH.nil
      go_simp
      refine hK.out _ _ ?_ (fun hh=>?_)
      ·(first|go_keep|exact hS|(simpa[go_sem] using hS))
      clear hK K
      try simp only[pt,pn,List.set]
      refine wpAnyH_ready (rs:=[19]) (by kernel_rfl) (by simp) ?_
      refine AllReadyH.cons rfl (fun K hK=>?_) AllReadyH.nil
      go_simp
      refine hK.out _ _ ?_ (fun hh=>?_)
      ·(first|go_keep|exact hS|(simpa[go_sem] using hS))
      clear hK K
      try simp only[pt,pn,List.set]
     rotate_left
     focus
      go_simp
      refine hK.out _ _ ?_ (fun hh=>?_)
      ·(first|go_keep|exact hS|(simpa[go_sem] using hS))
      clear hK K
      try simp only[pt,pn,List.set]
      refine wpAnyH_ready (rs:=[4,19]) (by kernel_rfl) (by simp) ?_
      refine AllReadyH.cons rfl (fun K hK=>?_) (AllReadyH.cons rfl (fun K hK=>?_) AllReadyH.nil)
      focus
       go_simp
       refine hK.out _ _ ?_ (fun hh=>?_)
       ·(first|go_keep|exact hS|(simpa[go_sem] using hS))
       clear hK K
       try simp only[pt,pn,List.set]
       refine wpAnyH_ready (rs:=[19]) (by kernel_rfl) (by simp) ?_
       refine AllReadyH.cons rfl (fun K hK=>?_) AllReadyH.nil
       go_simp
       refine hK.out _ _ ?_ (fun hh=>?_)
       ·(first|go_keep|exact hS|(simpa[go_sem] using hS))
       clear hK K
       try simp only[pt,pn,List.set]
      rotate_left
      focus
       go_simp
       refine hK.out _ _ ?_ (fun hh=>?_)
       ·(first|go_keep|exact hS|(simpa[go_sem] using hS))
       clear hK K
       try simp only[pt,pn,List.set]
       refine wpAnyH_ready (rs:=[4]) (by kernel_rfl) (by simp) ?_
       refine AllReadyH.cons rfl (fun K hK=>?_) AllReadyH.nil
       go_simp
       refine hK.out _ _ ?_ (fun hh=>?_)
       ·(first|go_keep|exact hS|(simpa[go_sem] using hS))
       clear hK K
       try simp only[pt,pn,List.set]
      rotate_left
     rotate_left 2
    rotate_left 3
   rotate_left 4
   all_goals
    refine wpAnyH_ready (rs:=[20]) (by kernel_rfl) (by simp) ?_
    refine AllReadyH.cons rfl (fun K hK=>?_) AllReadyH.nil
    (refine step_append_sl rfl (.tmp 39) (.tmp 54) 75 rfl i3 _ 8 Tryz.underlying75 HI.out.1 HI.out.2.1 HI.out.2.2.1 HI.out.2.2.2 rfl (by decide) (.slice ac j cc') (ownOf (.slice ac j cc')) rfl (HOw.out.sl.fr0 (by repeat (first|exact Fr.refl _ _|exact f23|apply Fr.alloc|apply Fr.drewN|apply Fr.drew))) _ 1 1 [.pointer (some ⟨w3.heap.size,0,none⟩)] rfl rfl (Cells.one (at_new (cs:=#[.pointer (some ⟨w3.heap.size,0,none⟩)]) (t:=78) (by simp))) (by simp[Value.oneCell']) (by unfold maxLen;omega) (by omega) ?_;intro v4 w4 own4 hs4 hf4 ho4 hm4;obtain⟨a4,c4,rfl⟩:=hs4.form;have P4:=open_push (b:=⟨w3.heap.size,se,si,po,none⟩) (s:=s) HH2.out HL.out.2 (by repeat (first|exact Fr.refl _ _|exact f23|apply Fr.alloc|apply Fr.drewN|apply Fr.drew)) hB (by repeat (first|exact at_new (by simp)|apply Holds.alloc|apply Holds.drewN|apply Holds.drew)) (Holds.fr (S:=[]) q23 (by repeat (first|exact Fr.refl _ _|apply Fr.alloc|apply Fr.drewN|apply Fr.drew)) (by simp)) (Holds.fr (S:=[]) p23 (by repeat (first|exact Fr.refl _ _|apply Fr.alloc|apply Fr.drewN|apply Fr.drew)) (by simp)) (Holds.fr (S:=[]) p3 (by repeat (first|exact Fr.refl _ _|apply Fr.alloc|apply Fr.drewN|apply Fr.drew)) (by simp)) f23.size hse hsi (Nat.le_trans f2.size (by simpa using hpo)) rfl (Fr.refl _ _) rfl hs4 hf4 ho4 hm4;have hS:w4.cell? ⟨g,2,none⟩=some (.int .i64 k.room):=(by simpa[srvC,confC] using P4.srv.cell 2);have z9:=P4.srv.frozen 9;have y9:=P4.srv.cell 9;simp[srvC,confC] at y9;have yl:=P4.srv.lt)
    refine hK.out _ _ ?_ (fun hh=>?_)
    ·(first|go_keep|exact hS|(simpa[go_sem] using hS))
    clear hK K
    try simp only[pt,pn,List.set]
    refine tj 21 hh (h:=?_)
    try simp only[pt,pn,List.set]
    refine tj 22 hh (h:=?_)
    try simp only[pt,pn,List.set]
    refine wpAnyH_ready (rs:=[23]) (by kernel_rfl) (by simp) ?_
    refine AllReadyH.cons rfl (fun K hK=>?_) AllReadyH.nil
    go_simp
    refine hK.out _ _ ?_ (fun hh=>?_)
    ·(first|go_keep|exact hS|(simpa[go_sem] using hS))
    clear hK K
    try simp only[pt,pn,List.set]
    refine wpAnyH_done (by kernel_rfl) ?_ _
    refine NoPanic.normal ?_
   all_goals
    have PH:=hid (And.intro P4 (And.intro f23 (And.intro hse (And.intro hsi hpo))))
    have hne:po≠si:=fun e=>by
     have h1:=Holds.lt p2
     have h2:w2.heap.size≤po:=by simpa using hpo
     omega
    have HNE:=hid hne
    have hsz:=hid f2.size
    clear P4 q2 p2 p3 q23 p23 hs4 hf4 ho4 hm4 hne
    go_wp2_with fail
    go_ret2
    obtain⟨h1,h2⟩:=open_end (b:=⟨w3.heap.size,se,si,po,none⟩) HH2.out PH.out.1 PH.out.2.1.size PH.out.2.2.1 PH.out.2.2.2.1 (Nat.le_trans hsz.out (by simpa using PH.out.2.2.2.2)) rfl HNE.out
    refine⟨?_,h1,h2⟩
    simp[HL.out.1]
end Go.Proofs.YtjmkkcckfbnmeaaGreatDoor.Sv
