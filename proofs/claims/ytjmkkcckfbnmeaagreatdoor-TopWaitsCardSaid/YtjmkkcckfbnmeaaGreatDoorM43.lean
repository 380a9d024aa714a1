/- Texts SrvE, SrvF. -/
import Derived.Test.YtjmkkcckfbnmeaaGreatDoorM19
import Derived.Test.YtjmkkcckfbnmeaaGreatDoorM25
import Derived.Test.YtjmkkcckfbnmeaaGreatDoorM36
import Derived.Test.YtjmkkcckfbnmeaaGreatDoorM42
import Derived.Deep.Cut
import Derived.Deep.RegionHeld3
set_option maxRecDepth 100000
set_option maxHeartbeats 8000000
set_option linter.all false
open Go.Lib (hid)
namespace Go.Proofs.YtjmkkcckfbnmeaaGreatDoor.Sv
open Go.RowKit Cr
def cp (b:Blk):List Value:=[.pointer (some ⟨b.c,0,none⟩)]
theorem cp_len (b:Blk):(cp b).length=1:=rfl
theorem infoC:(Tryz.prog.info? 78).map (fun i=>(i.zero,i.size,i.bytes))=some (some (.pointer none),1,8):=by kernel_rfl
theorem infoEv:(Tryz.prog.info? 56).map (fun i=>(i.zero,i.size,i.bytes))=some (some (.agg #[.int .i64 0,.int .i64 0,.int .i64 0,.string ByteArray.empty,.int .i64 0,.string ByteArray.empty,.string ByteArray.empty,.string ByteArray.empty,.string ByteArray.empty,.int .i64 0,.int .i64 0,.slice none 0 0,.int .i64 0,.int .i64 0,.int .i64 0,.int .i64 0,.int .i64 0,.int .i64 0,.int .i64 0,.string ByteArray.empty,.int .i64 0,.bool false,.slice none 0 0]),23,264):=by kernel_rfl
def srvC (k:Cf)(x:M.Core)(xp:Nat)(vc ve:Value):List Value:=confC k x++[.pointer (some ⟨xp,0,none⟩),vc,ve,.bool false]
structure SrvP (w:World)(B g xp:Nat)(k:Cf)(bs:List Blk)(s:M.Srv)(vc ve:Value):Prop where
 bg:B≤g
 bxp:B≤xp
 cell:Holds w g 77 (srvC k s.core xp vc ve).toArray
 core:CoreAt w B xp k s.core
 len:bs.length=s.conns.length
 conns:Own w B 78 1 vc bs.length (flat cp bs)
 each:∀ (i:Nat) b m,bs[i]? = some b→s.conns[i]? = some m→ConnAt w B xp k.room b i m
 apart:∀ (i j:Nat) b b',i≠j→bs[i]? = some b→bs[j]? = some b'→∀ y,y∈b.all→y∉b'.all
 evs:Ev.EvsAt w B ve s.events
 npo:∀ (i:Nat) b,bs[i]? = some b→b.po≠b.pi
def SrvAt (w:World)(B g xp:Nat)(k:Cf)(s:M.Srv):Prop:=∃ bs vc ve,SrvP w B g xp k bs s vc ve
end Go.Proofs.YtjmkkcckfbnmeaaGreatDoor.Sv
namespace Go.Proofs.YtjmkkcckfbnmeaaGreatDoor.Sv
open Go.RowKit Cr Tk
open Go in
theorem tk {P:Program}{ops:Array Oper}{Q:Exit→Act→World→Prop}{md:Region.Mode}{S:World→Prop}(i:Nat){oi:Oper}{v:Value}{fuel:Nat}{listed:Array Bool}{a:Act}{w:World}(hS:S w)(hi:ops[i]? = some oi)(hq:∀ c a w,Q (.panic c) (a.put oi.dst v) w→Q (.panic c) a w)(hk:(Region.noSelect ops&&Region.free md ops listed i&&(Region.ready md ops listed).contains i)=true)(hw:Region.wanted oi (yielded ops a.tmps)=true)(hy:∀ w,S w→(execOp a.eval oi).run P w = .ok (.value v) w)(h:wpAnyH P md ops Q S fuel (listed.setIfInBounds i true) (a.put oi.dst v) w):wpAnyH P md ops Q S (fuel+1) listed a w:=by
 simp only[Bool.and_eq_true] at hk
 exact wpAnyH_take hi hk.1.1 hk.1.2 hk.2 hq (Or.inl ⟨hw,hy⟩) hS h
theorem pt (l:List Value)(d:Nat)(v:Value)(ds):Act.put { tmps:=l.toArray,defers:=ds } (some d) v={ tmps:=(l.set d v).toArray,defers:=ds }:=by simp[Act.put]
theorem pn (a:Act)(v:Value):Act.put a none v=a:=rfl
structure Nt (w W:World)(B g xp:Nat)(k:Cf)(xc:M.Core)(b:Blk)(vc ve:Value)(st:Int)(x:Cx)(tt:ByteArray)(sq:Int)(l:List M.Ev):Prop where
 fr:Fr [] w W
 srv:Holds W g 77 (srvC k xc xp vc ve).toArray
 con:Holds W b.c 85 (connC b st x).toArray
 ses:Se.SeAt W b.se b.pi tt sq
 evs:Ev.EvsAt W B ve l
theorem Nt.go {w W W':World}{B g xp:Nat}{k:Cf}{xc:M.Core}{b:Blk}{vc ve:Value}{st:Int}{x:Cx}{tt:ByteArray}{sq:Int}{l:List M.Ev}(h:Nt w W B g xp k xc b vc ve st x tt sq l)(hf:Fr [] W W'):Nt w W' B g xp k xc b vc ve st x tt sq l :=
 ⟨h.fr.trans hf,h.srv.fr hf (by simp),h.con.fr hf (by simp),h.ses.fr hf (by simp),h.evs.frx (FrX.of_fr0 (Ts:=[]) hf) (by simp) (by simp) (by simp)⟩
theorem Nt.far {w W:World}{B g xp p t:Nat}{k:Cf}{xc:M.Core}{b:Blk}{vc ve:Value}{st:Int}{x:Cx}{tt:ByteArray}{sq:Int}{l:List M.Ev}{cs:Array Value}(h:Nt w W B g xp k xc b vc ve st x tt sq l)(hp:Holds W p t cs)(hw:w.heap.size≤p)(hB:B≤w.heap.size)
  (h1:t≠77) (h2:t≠85) (h3:t≠127) (h4:t≠56) (h5:t≠49) (h6:t≠154) (i:Nat) (u:Value):Nt w (W.setCell ⟨p,i,none⟩ u) B g xp k xc b vc ve st x tt sq l :=
 ⟨Ev.Fr.setNew h.fr hw u,h.srv.far (h.srv.ne hp (Ne.symm h1)) _,h.con.far (h.con.ne hp (Ne.symm h2)) _,h.ses.far (h.ses.ne hp (Ne.symm h3)) _,h.evs.frx (Us:=[t]) (FrX.of_frT ((Fr.refl [p] W).setCell (by simp) _) (by simp;omega) (fun y hy=>⟨t,by simp,by simp at hy;subst hy;exact hp.ty⟩)) (by simpa using Ne.symm h5) (by simpa using Ne.symm h6) (by simpa using Ne.symm h4)⟩
structure Pushed (w w7:World)(B g xp:Nat)(k:Cf)(xc:M.Core)(b:Blk)(vc ve:Value)(st:Int)(x:Cx)(tt:ByteArray)(sq:Int)(L:List Ev.Raw)(r:Ev.Raw)(a3 a5:Option Addr)(c3 c5:Nat)(a:M.Resp)(v7:Value):Prop where
 srv:Holds w7 g 77 (srvC k xc xp vc ve).toArray
 con:Holds w7 b.c 85 (connC b st x).toArray
 ses:Se.SeAt w7 b.se b.pi tt sq
 h3:Holds w7 w.heap.size 53 (Ev.rsc a (.slice a5 a.items.length c5)).toArray
 h4:Holds w7 (w.heap.size+1) 41 (Ev.rqc x.q (.slice a3 x.q.ops.length c3)).toArray
 own:Own w7 B 56 23 v7 (L.length+1) (flat Ev.Raw.cells (L++[r]))
 ats:∀ y∈L++[r],y.At w7 B
 fr:FrX B [56] [] w w7
theorem note_push {w W W' w7:World}{B g xp:Nat}{k:Cf}{xc:M.Core}{b:Blk}{vc ve:Value}{st:Int}{x:Cx}{tt:ByteArray}{sq:Int}{l:List M.Ev}{L:List Ev.Raw}{r:Ev.Raw}{a3 a5:Option Addr}{c3 c5:Nat}{a:M.Resp}{v7:Value}{news:List Value}{own7:Option Nat}
  (N:Nt w W B g xp k xc b vc ve st x tt sq l) (hown:Own W B 56 23 ve L.length (flat Ev.Raw.cells L)) (hat:∀ y∈L,y.At W B) (hr:r.At W B) (h3:Holds W w.heap.size 53 (Ev.rsc a (.slice a5 a.items.length c5)).toArray)
  (h4:Holds W (w.heap.size+1) 41 (Ev.rqc x.q (.slice a3 x.q.ops.length c3)).toArray) (f:Fr [] W W') (hB:B≤W'.heap.size) (hn:news=r.cells) (hs:Sl w7 56 23 v7 (L.length+1) (flat Ev.Raw.cells L++news) own7) (hf:Fr (ownOf ve).toList W' w7) (ho:own7=ownOf ve∨∃ g,own7=some g∧W'.heap.size≤g) (hm:0<1→∃ g,own7=some g) :
  ∃ a7 c7,v7 = .slice a7 (L.length+1) c7∧Pushed w w7 B g xp k xc b vc ve st x tt sq L r a3 a5 c3 c5 a v7:=by
 have hown':=Own.fr0 hown f
 have hb:∀ y,y∈(ownOf ve).toList→tyOf W' y=some 56∧B≤y:=fun y hy=>hown'.ty (by simpa using hy)
 obtain⟨oo,-⟩:=own_after (B:=B) hB (fun g hg=>(hown'.ty hg).2) hs ho (hm (by omega))
 have x7:FrX B [56] [] W' w7:=FrX.of_frT hf (fun y hy=>(hb y hy).2) (fun y hy=>⟨56,by simp,(hb y hy).1⟩)
 have N':=N.go f
 have e:flat Ev.Raw.cells (L++[r])=flat Ev.Raw.cells L++r.cells:=by rw[flat_append,flat_one]
 obtain⟨a7,c7,hv⟩:=Own.form oo
 refine⟨a7,c7,hv,N'.srv.frx x7 (by decide) (by simp),N'.con.frx x7 (by decide) (by simp),Holds.frx N'.ses x7 (by decide) (by simp),(h3.fr f (by simp)).frx x7 (by decide) (by simp),(h4.fr f (by simp)).frx x7 (by decide) (by simp),by rw[e,←hn];exact oo,?_,(FrX.of_fr0 (N.fr.trans f)).trans x7⟩
 intro y hy
 have hy':y.At W B:=by
  rcases List.mem_append.1 hy with h|h
  ·exact hat y h
  ·simp at h
   subst h
   exact hr
 exact(hy'.frx (FrX.of_fr0 (Ts:=[]) f) (by simp) (by simp)).frx x7 (by decide) (by decide)
theorem note_end {w w7:World}{B g xp i:Nat}{k:Cf}{xc:M.Core}{b:Blk}{vc ve:Value}{st kind:Int}{x:Cx}{tt:ByteArray}{sq:Int}{l:List M.Ev}{L:List Ev.Raw}{a3 a5:Option Addr}{c3 c5:Nat}{a:M.Resp}{vo vi v7:Value}
  (P:Pushed w w7 B g xp k xc b vc ve st x tt sq L ⟨kind,i,x.seq,tt,x.q,vo,a,vi⟩ a3 a5 c3 c5 a v7) (hL:L.map Ev.Raw.ev=l) (hg:B≤g) :
  Ending.returned (.tuple #[])=Ending.returned (.tuple #[])∧∃ ve',Holds (w7.setCell ⟨g,10,none⟩ v7) g 77 (srvC k xc xp vc ve').toArray∧Ev.EvsAt (w7.setCell ⟨g,10,none⟩ v7) B ve' (l++[⟨kind,i,x.seq,a⟩])∧FrX B [56] [g] w (w7.setCell ⟨g,10,none⟩ v7):=by
 have f:Fr [g] w7 (w7.setCell ⟨g,10,none⟩ v7):=(Fr.refl _ _).setCell (by simp) _
 have x8:FrX B [77] [] w7 (w7.setCell ⟨g,10,none⟩ v7):=FrX.of_frT f (by simpa using hg) (fun y hy=>⟨77,by simp,by simp at hy;subst hy;exact P.srv.ty⟩)
 refine⟨rfl,v7,by simpa[srvC,confC] using P.srv.set 10 v7,⟨⟨_,?_,?_,fun r hr=>(P.ats r hr).frx x8 (by decide) (by decide)⟩⟩,(P.fr.mono (fun _ h=>h) (by simp)).trans (FrX.of_fr f (by simpa using hg))⟩
 ·rw[List.map_append,hL]
  rfl
 ·have:=P.own.frx0 x8 (by decide)
  simpa using this
theorem nt_cells {w w':World}{b:Blk}{st:Int}{x:Cx}{tt:ByteArray}{sq:Int}{a:M.Resp}{a3 a5:Option Addr}{c3 c5:Nat}(h1:Holds w' b.c 85 (connC b st x).toArray)(h2:Se.SeAt w' b.se b.pi tt sq)
  (h3:Holds w' w.heap.size 53 (Ev.rsc a (.slice a5 a.items.length c5)).toArray) (h4:Holds w' (w.heap.size+1) 41 (Ev.rqc x.q (.slice a3 x.q.ops.length c3)).toArray) :
  w'.cell? ⟨b.c,1,none⟩=some (.pointer (some ⟨b.se,0,none⟩))∧w'.cell? ⟨b.c,5,none⟩=some (.int .i64 x.seq)∧w'.cell? ⟨b.se,1,none⟩=some (.string tt)∧w'.cell? ⟨w.heap.size,0,none⟩=some (.int .i64 a.kind)∧w'.cell? ⟨w.heap.size,1,none⟩=some (.int .i64 a.err)∧w'.cell? ⟨w.heap.size,2,none⟩=some (.int .i64 a.token)∧w'.cell? ⟨w.heap.size,3,none⟩=some (.int .i64 a.version)∧w'.cell? ⟨w.heap.size,4,none⟩=some (.string a.card)∧w'.cell? ⟨w.heap.size,5,none⟩=some (.int .i64 a.index)∧w'.cell? ⟨w.heap.size,6,none⟩=some (.bool a.more)∧w'.cell? ⟨w.heap.size,7,none⟩=some (.slice a5 a.items.length c5)∧w'.cell? ⟨w.heap.size+1,0,none⟩=some (.int .i64 x.q.kind)∧w'.cell? ⟨w.heap.size+1,1,none⟩=some (.string x.q.tenant)∧w'.cell? ⟨w.heap.size+1,2,none⟩=some (.string x.q.col)∧w'.cell? ⟨w.heap.size+1,3,none⟩=some (.string x.q.uid)∧w'.cell? ⟨w.heap.size+1,4,none⟩=some (.string x.q.card)∧w'.cell? ⟨w.heap.size+1,5,none⟩=some (.int .i64 x.q.ck)∧w'.cell? ⟨w.heap.size+1,6,none⟩=some (.int .i64 x.q.cv)∧w'.cell? ⟨w.heap.size+1,7,none⟩=some (.slice a3 x.q.ops.length c3)∧w'.cell? ⟨w.heap.size+1,8,none⟩=some (.int .i64 x.q.token)∧w'.cell? ⟨w.heap.size+1,9,none⟩=some (.int .i64 x.q.most)∧w'.cell? ⟨w.heap.size+1,10,none⟩=some (.int .i64 x.q.ticks):=by
 refine⟨by simpa[connC] using h1.cell 1,by simpa[connC] using h1.cell 5,by simpa using h2.cell 1,by simpa[Ev.rsc] using h3.cell 0,by simpa[Ev.rsc] using h3.cell 1,by simpa[Ev.rsc] using h3.cell 2,by simpa[Ev.rsc] using h3.cell 3,by simpa[Ev.rsc] using h3.cell 4,by simpa[Ev.rsc] using h3.cell 5,by simpa[Ev.rsc] using h3.cell 6,by simpa[Ev.rsc] using h3.cell 7,by simpa[Ev.rqc] using h4.cell 0,by simpa[Ev.rqc] using h4.cell 1,by simpa[Ev.rqc] using h4.cell 2,by simpa[Ev.rqc] using h4.cell 3,by simpa[Ev.rqc] using h4.cell 4,by simpa[Ev.rqc] using h4.cell 5,by simpa[Ev.rqc] using h4.cell 6,by simpa[Ev.rqc] using h4.cell 7,by simpa[Ev.rqc] using h4.cell 8,by simpa[Ev.rqc] using h4.cell 9,by simpa[Ev.rqc] using h4.cell 10⟩
theorem note_any (w:World)(B g xp i:Nat)(k:Cf)(xc:M.Core)(bs:List Blk)(b:Blk)(vc ve va:Value)(st kind:Int)(x:Cx)(tt:ByteArray)(sq:Int)(a:M.Resp)(l:List M.Ev)(hB:B≤w.heap.size)(hg:B≤g)
  (hs:Holds w g 77 (srvC k xc xp vc ve).toArray) (hc:Own w B 78 1 vc bs.length (flat cp bs)) (hbi:bs[i]? = some b) (hcell:Holds w b.c 85 (connC b st x).toArray) (hse:Se.SeAt w b.se b.pi tt sq)
  (hw:x.what=1) (hops:Ev.OpsAt w B x.vo x.q.ops) (hl1:x.q.ops.length≤20) (hev:Ev.EvsAt w B ve l) (hia:Ev.ItsAt w B va a.items) (hla:a.items.length≤20) (hlen:l.length≤100000) :
  Calls Tryz.prog 34 #[.pointer (some ⟨g,0,none⟩),.int .i64 kind,.int .i64 i,.agg (Ev.rsc a va).toArray] w fun e w'=>e = .returned (.tuple #[])∧∃ ve',Holds w' g 77 (srvC k xc xp vc ve').toArray∧Ev.EvsAt w' B ve' (l++[⟨kind,i,x.seq,a⟩])∧FrX B [56] [g] w w':=by
 obtain⟨i3,hi,hz0,hz1,hz2⟩:=info_parts Lp.infoE
 obtain⟨j3,ji,jz0,jz1,jz2⟩:=info_parts Ev.infoI
 obtain⟨e3,ei,ez0,ez1,ez2⟩:=info_parts infoEv
 obtain⟨oa,oc,hov,hocs,holen⟩:=Ev.Own.cells hops
 obtain⟨ia,ic,hiv,hics,hilen⟩:=Ev.Own.cells hia
 subst hiv
 obtain⟨gc,cc,hgc,hvc,hrc,hgcl,hcc⟩:=hc.cell cp_len rfl hbi
 subst hvc
 have m0:=hcc 0 _ (by omega) rfl
 have hil:(i:Int)<(bs.length:Int):=by have:=(List.getElem?_eq_some_iff.1 hbi).1;omega
 have c9:=hs.cell 9
 have d4:=hcell.cell 4
 have d5:=hcell.cell 5
 have d7:=hcell.cell 7
 have d8:=hcell.cell 8
 have d9:=hcell.cell 9
 have d10:=hcell.cell 10
 have d11:=hcell.cell 11
 have d12:=hcell.cell 12
 have d13:=hcell.cell 13
 have d14:=hcell.cell 14
 have d15:=hcell.cell 15
 have d16:=hcell.cell 16
 have d17:=hcell.cell 17
 simp[srvC,confC] at c9
 simp[connC,hw,hov] at d4 d5 d7 d8 d9 d10 d11 d12 d13 d14 d15 d16 d17
 simp at m0
 have hgl:=hs.lt
 have hbl:=hcell.lt
 have hsl:=hse.lt
 have hnt:Nt w w B g xp k xc b _ ve st x tt sq l:=⟨Fr.refl _ _,hs,hcell,hse,hev⟩
 have HNT:=hid hnt
 have HO:=hid hops
 have HI:=hid hia
 have HOV:=hid hov
 simp only[Ev.rsc]
 clear hs hc hcell hse hops hev hia hcc hrc hnt hocs hics hov
 go_enter Tryz.func34,Tryz.ntmps34
 go_upto_region 5 with fail
 obtain⟨W0,hW0⟩:∃ W0,W0=(w.alloc (.cells #[.int .i64 a.kind,.int .i64 a.err,.int .i64 a.token,.int .i64 a.version,.string a.card,.int .i64 a.index,.bool a.more,.slice ia a.items.length ic] 53)).alloc (.cells #[.int .i64 x.q.kind,.string x.q.tenant,.string x.q.col,.string x.q.uid,.string x.q.card,.int .i64 x.q.ck,.int .i64 x.q.cv,.slice oa x.q.ops.length oc,.int .i64 x.q.token,.int .i64 x.q.most,.int .i64 x.q.ticks] 41):=⟨_,rfl⟩
 have f0:Fr [] w W0:=by rw[hW0];exact((Fr.refl _ _).alloc _).alloc _
 have b1:Holds W0 w.heap.size 53 (Ev.rsc a (.slice ia a.items.length ic)).toArray:=by rw[hW0];exact(Holds.new _ _ _).alloc _
 have b2:Holds W0 (w.heap.size+1) 41 (Ev.rqc x.q (.slice oa x.q.ops.length oc)).toArray:=by rw[hW0];exact at_new (by simp)
 have N0:=hid (HNT.out.go f0)
 have O0:=hid (Own.fr0 (by rw[←HOV.out];exact HO.out:Ev.OpsAt w B (.slice oa x.q.ops.length oc) x.q.ops) f0)
 have I0:=hid (Own.fr0 HI.out f0)
 rw[←hW0]
 have p7:=b2.cell 7
 have z7:=b2.frozen 7
 simp[Ev.rqc] at p7
 have l1:=b1.lt
 have l2:=b2.lt
 have B1:=hid b1
 have B2:=hid b2
 have hBW0:B≤W0.heap.size:=Nat.le_trans hB f0.size
 clear hW0 f0 b1 b2 c9 d4 d5 d7 d8 d9 d10 d11 d12 d13 d14 d15 d16 d17 m0
 obtain⟨_,_,he0,hc0,hl0⟩:=Ev.Own.cells O0.out
 cases he0
 go_upto_region 6 with(at_builtin;(refine Ev.wpList_copy B rfl (.const (.slice none 0 0)) (.tmp 35) 39 rfl i3 _ 56 Tryz.underlying39 hi hz0 hz1 hz2 rfl (by decide) rfl oa x.q.ops.length oc (flat Lp.cs x.q.ops) rfl hl0 hc0 (flat_cells (fun _=>Lp.cs_one) _) (by unfold maxLen;omega) (by omega) hBW0 ?_;intro v3 w3 o3 f3;obtain⟨a3,c3,hv3⟩:=Own.form o3;subst hv3;have b23:=B2.out.fr f3 (by simp);have p7:=b23.cell 7;have z7:=b23.frozen 7;have l2:=b23.lt;simp[Ev.rqc] at p7))
 obtain⟨W4,hW4⟩:∃ W4,W4=w3.setCell ⟨w.heap.size+1,7,none⟩ (.slice a3 x.q.ops.length c3):=⟨_,rfl⟩
 rw[←hW4]
 have N4:=hid (show Nt w W4 B g xp k xc b _ ve st x tt sq l by rw[hW4];exact(N0.out.go f3).far b23 (by omega) hB (by decide) (by decide) (by decide) (by decide) (by decide) (by decide) _ _)
 have B14:=hid (show Holds W4 w.heap.size 53 _ by rw[hW4];exact(B1.out.fr f3 (by simp)).far (by simp) _)
 have B24:=hid (show Holds W4 (w.heap.size+1) 41 (Ev.rqc x.q (.slice a3 x.q.ops.length c3)).toArray by rw[hW4];simpa[Ev.rqc] using b23.set 7 (.slice a3 x.q.ops.length c3))
 have x4:FrX B [41] [] w3 W4:=by rw[hW4];exact FrX.of_frT ((Fr.refl [w.heap.size+1] _).setCell (by simp) _) (by simp;omega) (fun y hy=>⟨41,by simp,by simp at hy;subst hy;exact b23.ty⟩)
 have O4:=hid (o3.frx0 x4 (by decide))
 have I4:=hid ((Own.fr0 I0.out f3).frx0 x4 (by decide))
 have hBW4:B≤W4.heap.size:=Nat.le_trans hB N4.out.fr.size
 clear hW4 x4 o3 f3 b23 hc0 hl0 hBW0
 have q7:=B14.out.cell 7
 have y7:=B14.out.frozen 7
 simp[Ev.rsc] at q7
 have l3:=B14.out.lt
 have l4:=B24.out.lt
 obtain⟨_,_,he1,hc1,hl1'⟩:=Ev.Own.cells I4.out
 cases he1
 go_upto_region 7 with(at_builtin;(refine Ev.wpList_copy B rfl (.const (.slice none 0 0)) (.tmp 39) 51 rfl j3 _ 48 Tryz.underlying51 ji jz0 jz1 jz2 rfl (by decide) rfl ia a.items.length ic (flat Ev.ic a.items) rfl hl1' hc1 (flat_cells Ev.ic_one _) (by unfold maxLen;omega) (by omega) hBW4 ?_;intro v5 w5 o5 f5;obtain⟨a5,c5,hv5⟩:=Own.form o5;subst hv5;have b15:=B14.out.fr f5 (by simp);have q7:=b15.cell 7;have y7:=b15.frozen 7;have l3:=b15.lt;simp[Ev.rsc] at q7))
 obtain⟨W6,hW6⟩:∃ W6,W6=w5.setCell ⟨w.heap.size,7,none⟩ (.slice a5 a.items.length c5):=⟨_,rfl⟩
 rw[←hW6]
 have N6:=hid (show Nt w W6 B g xp k xc b _ ve st x tt sq l by rw[hW6];exact(N4.out.go f5).far b15 (Nat.le_refl _) hB (by decide) (by decide) (by decide) (by decide) (by decide) (by decide) _ _)
 have B16:=hid (show Holds W6 w.heap.size 53 (Ev.rsc a (.slice a5 a.items.length c5)).toArray by rw[hW6];simpa[Ev.rsc] using b15.set 7 (.slice a5 a.items.length c5))
 have B26:=hid (show Holds W6 (w.heap.size+1) 41 (Ev.rqc x.q (.slice a3 x.q.ops.length c3)).toArray by rw[hW6];exact(B24.out.fr f5 (by simp)).far (by simp) _)
 have x6:FrX B [53] [] w5 W6:=by rw[hW6];exact FrX.of_frT ((Fr.refl [w.heap.size] _).setCell (by simp) _) (by simpa using hB) (fun y hy=>⟨53,by simp,by simp at hy;subst hy;exact b15.ty⟩)
 have O6:=hid ((Own.fr0 O4.out f5).frx0 x6 (by decide))
 have I6:=hid (o5.frx0 x6 (by decide))
 clear hW6 x6 o5 f5 b15 hc1 hl1' hBW4 q7 y7 l3 l4 p7 z7 l1 l2
 obtain⟨⟨L,hL,hown,hat⟩⟩:=N6.out.evs
 obtain⟨ea,ec,hev⟩:=Own.form hown
 have HEV:=hid hev
 have c10:=N6.out.srv.cell 10
 have z10:=N6.out.srv.frozen 10
 have s1:=N6.out.con.cell 1
 have s5:=N6.out.con.cell 5
 simp[srvC,confC,hev] at c10
 simp[connC] at s1 s5
 obtain⟨t0,t1,t2,t3,t4,t5,t6,t7⟩:=B16.out.cs8
 simp[Ev.rsc] at t0 t1 t2 t3 t4 t5 t6 t7
 obtain⟨u0,u1,u2,u3,u4,u5,u6,u7,u8,u9,u10⟩:=B26.out.cs11
 simp[Ev.rqc] at u0 u1 u2 u3 u4 u5 u6 u7 u8 u9 u10
 have HTn:=hid (fun (W:World) (f:Fr [] W6 W)=>Se.tenant_any W b.se b.pi tt sq (N6.out.ses.fr f (by simp)))
 have g6:=N6.out.srv.lt
 have HAT:=hid hat
 have HOWN:=hid hown
 have HLL:=hid hL
 clear hat hown hL hev
 have hg1:g≠b.c:=N6.out.srv.ne N6.out.con (by decide)
 have hg2:g≠b.se:=N6.out.srv.ne N6.out.ses (by decide)
 have hg3:g≠w.heap.size:=Nat.ne_of_lt hgl
 have hg4:g≠w.heap.size+1:=by omega
 have hg5:b.c≠g:=Ne.symm hg1
 have hg6:b.se≠g:=Ne.symm hg2
 have HONE:=hid (show ∀ u∈(Ev.Raw.cells ⟨kind,i,x.seq,tt,x.q,.slice a3 x.q.ops.length c3,a,.slice a5 a.items.length c5⟩),u.oneCell'=true from Ev.Raw.At.one (w:=W6) (B:=B) ⟨O6.out,I6.out,hl1,hla⟩)
 have hLl:L.length≤100000:=by rw[←HLL.out] at hlen;simpa using hlen
 have hS:=nt_cells (tt:=tt) N6.out.con N6.out.ses B16.out B26.out
 refine wp_region_noPanic ?_
 refine wp_region_held_drew (S:=(fun w'=>w'.cell? ⟨b.c,1,none⟩=some (.pointer (some ⟨b.se,0,none⟩))∧w'.cell? ⟨b.c,5,none⟩=some (.int .i64 x.seq)∧w'.cell? ⟨b.se,1,none⟩=some (.string tt)∧w'.cell? ⟨w.heap.size,0,none⟩=some (.int .i64 a.kind)∧w'.cell? ⟨w.heap.size,1,none⟩=some (.int .i64 a.err)∧w'.cell? ⟨w.heap.size,2,none⟩=some (.int .i64 a.token)∧w'.cell? ⟨w.heap.size,3,none⟩=some (.int .i64 a.version)∧w'.cell? ⟨w.heap.size,4,none⟩=some (.string a.card)∧w'.cell? ⟨w.heap.size,5,none⟩=some (.int .i64 a.index)∧w'.cell? ⟨w.heap.size,6,none⟩=some (.bool a.more)∧w'.cell? ⟨w.heap.size,7,none⟩=some (.slice a5 a.items.length c5)∧w'.cell? ⟨w.heap.size+1,0,none⟩=some (.int .i64 x.q.kind)∧w'.cell? ⟨w.heap.size+1,1,none⟩=some (.string x.q.tenant)∧w'.cell? ⟨w.heap.size+1,2,none⟩=some (.string x.q.col)∧w'.cell? ⟨w.heap.size+1,3,none⟩=some (.string x.q.uid)∧w'.cell? ⟨w.heap.size+1,4,none⟩=some (.string x.q.card)∧w'.cell? ⟨w.heap.size+1,5,none⟩=some (.int .i64 x.q.ck)∧w'.cell? ⟨w.heap.size+1,6,none⟩=some (.int .i64 x.q.cv)∧w'.cell? ⟨w.heap.size+1,7,none⟩=some (.slice a3 x.q.ops.length c3)∧w'.cell? ⟨w.heap.size+1,8,none⟩=some (.int .i64 x.q.token)∧w'.cell? ⟨w.heap.size+1,9,none⟩=some (.int .i64 x.q.most)∧w'.cell? ⟨w.heap.size+1,10,none⟩=some (.int .i64 x.q.ticks))) (by kernel_rfl) ?_ (fun hh=>?_)
 ·(first|with_reducible exact hS|go_keep)
 refine tk 0 (oi:=⟨some 42,_,_,_,_,_⟩) (v:=?_) hh rfl (fun _ _ _ h=>h) (by kernel_rfl) (by rfl) ?_ ?_
 rotate_left
 ·intro w h;(try dsimp only at h);go_simp<;>with_reducible rfl
 try simp only[pt,pn,List.set]
 refine tk 1 (oi:=⟨some 43,_,_,_,_,_⟩) (v:=?_) hh rfl (fun _ _ _ h=>h) (by kernel_rfl) (by rfl) ?_ ?_
 rotate_left
 ·intro w h;(try dsimp only at h);go_simp<;>with_reducible rfl
 try simp only[pt,pn,List.set]
 refine tk 2 (oi:=⟨some 44,_,_,_,_,_⟩) (v:=?_) hh rfl (fun _ _ _ h=>h) (by kernel_rfl) (by rfl) ?_ ?_
 rotate_left
 ·intro w h;(try dsimp only at h);go_simp<;>with_reducible rfl
 try simp only[pt,pn,List.set]
 refine tk 3 (oi:=⟨some 45,_,_,_,_,_⟩) (v:=?_) hh rfl (fun _ _ _ h=>h) (by kernel_rfl) (by rfl) ?_ ?_
 rotate_left
 ·intro w h;(try dsimp only at h);go_simp<;>with_reducible rfl
 try simp only[pt,pn,List.set]
 refine tk 5 (oi:=⟨some 47,_,_,_,_,_⟩) (v:=?_) hh rfl (fun _ _ _ h=>h) (by kernel_rfl) (by rfl) ?_ ?_
 rotate_left
 ·intro w h;(try dsimp only at h);go_simp<;>with_reducible rfl
 try simp only[pt,pn,List.set]
 refine tk 6 (oi:=⟨some 48,_,_,_,_,_⟩) (v:=?_) hh rfl (fun _ _ _ h=>h) (by kernel_rfl) (by rfl) ?_ ?_
 rotate_left
 ·intro w h;(try dsimp only at h);go_simp<;>with_reducible rfl
 try simp only[pt,pn,List.set]
 refine tk 7 (oi:=⟨some 49,_,_,_,_,_⟩) (v:=?_) hh rfl (fun _ _ _ h=>h) (by kernel_rfl) (by rfl) ?_ ?_
 rotate_left
 ·intro w h;(try dsimp only at h);go_simp<;>with_reducible rfl
 try simp only[pt,pn,List.set]
 refine tk 8 (oi:=⟨some 50,_,_,_,_,_⟩) (v:=?_) hh rfl (fun _ _ _ h=>h) (by kernel_rfl) (by rfl) ?_ ?_
 rotate_left
 ·intro w h;(try dsimp only at h);go_simp<;>with_reducible rfl
 try simp only[pt,pn,List.set]
 refine tk 9 (oi:=⟨some 51,_,_,_,_,_⟩) (v:=?_) hh rfl (fun _ _ _ h=>h) (by kernel_rfl) (by rfl) ?_ ?_
 rotate_left
 ·intro w h;(try dsimp only at h);go_simp<;>with_reducible rfl
 try simp only[pt,pn,List.set]
 refine tk 10 (oi:=⟨some 52,_,_,_,_,_⟩) (v:=?_) hh rfl (fun _ _ _ h=>h) (by kernel_rfl) (by rfl) ?_ ?_
 rotate_left
 ·intro w h;(try dsimp only at h);go_simp<;>with_reducible rfl
 try simp only[pt,pn,List.set]
 refine tk 11 (oi:=⟨some 53,_,_,_,_,_⟩) (v:=?_) hh rfl (fun _ _ _ h=>h) (by kernel_rfl) (by rfl) ?_ ?_
 rotate_left
 ·intro w h;(try dsimp only at h);go_simp<;>with_reducible rfl
 try simp only[pt,pn,List.set]
 refine tk 12 (oi:=⟨some 54,_,_,_,_,_⟩) (v:=?_) hh rfl (fun _ _ _ h=>h) (by kernel_rfl) (by rfl) ?_ ?_
 rotate_left
 ·intro w h;(try dsimp only at h);go_simp<;>with_reducible rfl
 try simp only[pt,pn,List.set]
 refine tk 13 (oi:=⟨some 55,_,_,_,_,_⟩) (v:=?_) hh rfl (fun _ _ _ h=>h) (by kernel_rfl) (by rfl) ?_ ?_
 rotate_left
 ·intro w h;(try dsimp only at h);go_simp<;>with_reducible rfl
 try simp only[pt,pn,List.set]
 refine tk 14 (oi:=⟨some 56,_,_,_,_,_⟩) (v:=?_) hh rfl (fun _ _ _ h=>h) (by kernel_rfl) (by rfl) ?_ ?_
 rotate_left
 ·intro w h;(try dsimp only at h);go_simp<;>with_reducible rfl
 try simp only[pt,pn,List.set]
 refine tk 15 (oi:=⟨some 57,_,_,_,_,_⟩) (v:=?_) hh rfl (fun _ _ _ h=>h) (by kernel_rfl) (by rfl) ?_ ?_
 rotate_left
 ·intro w h;(try dsimp only at h);go_simp<;>with_reducible rfl
 try simp only[pt,pn,List.set]
 refine tk 17 (oi:=⟨some 59,_,_,_,_,_⟩) (v:=?_) hh rfl (fun _ _ _ h=>h) (by kernel_rfl) (by rfl) ?_ ?_
 rotate_left
 ·intro w h;(try dsimp only at h);go_simp<;>with_reducible rfl
 try simp only[pt,pn,List.set]
 refine tk 18 (oi:=⟨some 60,_,_,_,_,_⟩) (v:=?_) hh rfl (fun _ _ _ h=>h) (by kernel_rfl) (by rfl) ?_ ?_
 rotate_left
 ·intro w h;(try dsimp only at h);go_simp<;>with_reducible rfl
 try simp only[pt,pn,List.set]
 refine wpAnyH_ready (rs:=[4,16]) (by kernel_rfl) (by simp) ?_
 refine AllReadyH.cons rfl (fun K hK=>?_) (AllReadyH.cons rfl (fun K hK=>?_) AllReadyH.nil)
 focus
  go_simp
  refine hK.out _ _ ?_ (fun hh=>?_)
  ·(first|with_reducible exact hS|go_keep)
  clear hK K
  try simp only[pt,pn,List.set]
  refine wpAnyH_ready (rs:=[16]) (by kernel_rfl) (by simp) ?_
  refine AllReadyH.cons rfl (fun K hK=>?_) AllReadyH.nil
  go_simp
  (first|(go_at_call 65;refine(HTn.out _ (by first|exact(Fr.refl _ _).drew|exact(Fr.refl _ _).drewN _)).mono ?_;rintro e w7 ⟨rfl,rfl⟩)|(refine step_append_sl rfl (.tmp 46) (.tmp 62) 45 rfl e3 _ 264 Tryz.underlying45 ei ez0 ez1 ez2 rfl (by decide) (.slice ea L.length ec) (ownOf (.slice ea L.length ec)) rfl (Own.fr0 (by rw[←HEV.out];exact HOWN.out:Own W6 B _ 23 (.slice ea L.length ec) L.length (flat Ev.Raw.cells L)) (by first|exact((Fr.refl _ _).drew.alloc _)|exact((Fr.refl _ _).alloc _).drew)).sl _ 1 1 _ rfl (by rfl) (Fm.Cells.of_holds (at_new (by simp))) (fun u hu=>HONE.out u hu) (by unfold maxLen;omega) (by omega) ?_;intro v7 w7 own7 hs7 hf7 ho7 hm7;obtain⟨a7,c7,rfl,P7⟩:=note_push (r:=⟨kind,i,x.seq,tt,x.q,.slice a3 x.q.ops.length c3,a,.slice a5 a.items.length c5⟩) (ve:=.slice ea L.length ec) (by rw[←HEV.out];exact N6.out) (by rw[←HEV.out];exact HOWN.out) HAT.out ⟨O6.out,I6.out,hl1,hla⟩ B16.out B26.out (by first|exact((Fr.refl _ _).drew.alloc _)|exact((Fr.refl _ _).alloc _).drew) (by have:=N6.out.fr.size;simp;omega) rfl hs7 hf7 ho7 hm7;have hS:=nt_cells (tt:=tt) P7.con P7.ses P7.h3 P7.h4;have z10:=P7.srv.frozen 10;have c10:=P7.srv.cell 10;simp[srvC,confC] at c10;have g7:=P7.srv.lt))
  try go_wp2_with fail
  refine hK.out _ _ ?_ (fun hh=>?_)
  ·(first|with_reducible exact hS|go_keep)
  clear hK K
  try simp only[pt,pn,List.set]
  refine tk 19 (oi:=⟨some 61,_,_,_,_,_⟩) (v:=?_) hh rfl (fun _ _ _ h=>h) (by kernel_rfl) (by rfl) ?_ ?_
  rotate_left
  ·intro w h;(try dsimp only at h);go_simp<;>with_reducible rfl
  try simp only[pt,pn,List.set]
  refine wpAnyH_ready (rs:=[20]) (by kernel_rfl) (by simp) ?_
  refine AllReadyH.cons rfl (fun K hK=>?_) AllReadyH.nil
  go_simp
  refine hK.out _ _ ?_ (fun hh=>?_)
  ·(first|with_reducible exact hS|go_keep)
  clear hK K
  try simp only[pt,pn,List.set]
 rotate_left
 focus
  go_simp
  (first|(go_at_call 65;refine(HTn.out _ (by first|exact(Fr.refl _ _).drew|exact(Fr.refl _ _).drewN _)).mono ?_;rintro e w7 ⟨rfl,rfl⟩)|(refine step_append_sl rfl (.tmp 46) (.tmp 62) 45 rfl e3 _ 264 Tryz.underlying45 ei ez0 ez1 ez2 rfl (by decide) (.slice ea L.length ec) (ownOf (.slice ea L.length ec)) rfl (Own.fr0 (by rw[←HEV.out];exact HOWN.out:Own W6 B _ 23 (.slice ea L.length ec) L.length (flat Ev.Raw.cells L)) (by first|exact((Fr.refl _ _).drew.alloc _)|exact((Fr.refl _ _).alloc _).drew)).sl _ 1 1 _ rfl (by rfl) (Fm.Cells.of_holds (at_new (by simp))) (fun u hu=>HONE.out u hu) (by unfold maxLen;omega) (by omega) ?_;intro v7 w7 own7 hs7 hf7 ho7 hm7;obtain⟨a7,c7,rfl,P7⟩:=note_push (r:=⟨kind,i,x.seq,tt,x.q,.slice a3 x.q.ops.length c3,a,.slice a5 a.items.length c5⟩) (ve:=.slice ea L.length ec) (by rw[←HEV.out];exact N6.out) (by rw[←HEV.out];exact HOWN.out) HAT.out ⟨O6.out,I6.out,hl1,hla⟩ B16.out B26.out (by first|exact((Fr.refl _ _).drew.alloc _)|exact((Fr.refl _ _).alloc _).drew) (by have:=N6.out.fr.size;simp;omega) rfl hs7 hf7 ho7 hm7;have hS:=nt_cells (tt:=tt) P7.con P7.ses P7.h3 P7.h4;have z10:=P7.srv.frozen 10;have c10:=P7.srv.cell 10;simp[srvC,confC] at c10;have g7:=P7.srv.lt))
  try go_wp2_with fail
  refine hK.out _ _ ?_ (fun hh=>?_)
  ·(first|with_reducible exact hS|go_keep)
  clear hK K
  try simp only[pt,pn,List.set]
  refine tk 19 (oi:=⟨some 61,_,_,_,_,_⟩) (v:=?_) hh rfl (fun _ _ _ h=>h) (by kernel_rfl) (by rfl) ?_ ?_
  rotate_left
  ·intro w h;(try dsimp only at h);go_simp<;>with_reducible rfl
  try simp only[pt,pn,List.set]
  refine wpAnyH_ready (rs:=[4,20]) (by kernel_rfl) (by simp) ?_
  refine AllReadyH.cons rfl (fun K hK=>?_) (AllReadyH.cons rfl (fun K hK=>?_) AllReadyH.nil)
  focus
   go_simp
   refine hK.out _ _ ?_ (fun hh=>?_)
   ·(first|with_reducible exact hS|go_keep)
   clear hK K
   try simp only[pt,pn,List.set]
   refine wpAnyH_ready (rs:=[20]) (by kernel_rfl) (by simp) ?_
   refine AllReadyH.cons rfl (fun K hK=>?_) AllReadyH.nil
   go_simp
   refine hK.out _ _ ?_ (fun hh=>?_)
   ·(first|with_reducible exact hS|go_keep)
   clear hK K
   try simp only[pt,pn,List.set]
  rotate_left
  focus
   go_simp
   refine hK.out _ _ ?_ (fun hh=>?_)
   ·(first|with_reducible exact hS|go_keep)
   clear hK K
   try simp only[pt,pn,List.set]
   refine wpAnyH_ready (rs:=[4]) (by kernel_rfl) (by simp) ?_
   refine AllReadyH.cons rfl (fun K hK=>?_) AllReadyH.nil
   go_simp
   refine hK.out _ _ ?_ (fun hh=>?_)
   ·(first|with_reducible exact hS|go_keep)
   clear hK K
   try simp only[pt,pn,List.set]
  rotate_left
 rotate_left 2
 all_goals
  refine wpAnyH_ready (rs:=[21]) (by kernel_rfl) (by simp) ?_
  refine AllReadyH.cons rfl (fun K hK=>?_) AllReadyH.nil
  (first|(go_at_call 65;refine(HTn.out _ (by first|exact(Fr.refl _ _).drew|exact(Fr.refl _ _).drewN _)).mono ?_;rintro e w7 ⟨rfl,rfl⟩)|(refine step_append_sl rfl (.tmp 46) (.tmp 62) 45 rfl e3 _ 264 Tryz.underlying45 ei ez0 ez1 ez2 rfl (by decide) (.slice ea L.length ec) (ownOf (.slice ea L.length ec)) rfl (Own.fr0 (by rw[←HEV.out];exact HOWN.out:Own W6 B _ 23 (.slice ea L.length ec) L.length (flat Ev.Raw.cells L)) (by first|exact((Fr.refl _ _).drew.alloc _)|exact((Fr.refl _ _).alloc _).drew)).sl _ 1 1 _ rfl (by rfl) (Fm.Cells.of_holds (at_new (by simp))) (fun u hu=>HONE.out u hu) (by unfold maxLen;omega) (by omega) ?_;intro v7 w7 own7 hs7 hf7 ho7 hm7;obtain⟨a7,c7,rfl,P7⟩:=note_push (r:=⟨kind,i,x.seq,tt,x.q,.slice a3 x.q.ops.length c3,a,.slice a5 a.items.length c5⟩) (ve:=.slice ea L.length ec) (by rw[←HEV.out];exact N6.out) (by rw[←HEV.out];exact HOWN.out) HAT.out ⟨O6.out,I6.out,hl1,hla⟩ B16.out B26.out (by first|exact((Fr.refl _ _).drew.alloc _)|exact((Fr.refl _ _).alloc _).drew) (by have:=N6.out.fr.size;simp;omega) rfl hs7 hf7 ho7 hm7;have hS:=nt_cells (tt:=tt) P7.con P7.ses P7.h3 P7.h4;have z10:=P7.srv.frozen 10;have c10:=P7.srv.cell 10;simp[srvC,confC] at c10;have g7:=P7.srv.lt))
  refine hK.out _ _ ?_ (fun hh=>?_)
  ·(first|with_reducible exact hS|go_keep)
  clear hK K
  try simp only[pt,pn,List.set]
  refine tk 22 (oi:=⟨some 64,_,_,_,_,_⟩) (v:=?_) hh rfl (fun _ _ _ h=>h) (by kernel_rfl) (by rfl) ?_ ?_
  rotate_left
  ·intro w h;(try dsimp only at h);go_simp<;>with_reducible rfl
  try simp only[pt,pn,List.set]
  refine tk 23 (oi:=⟨some 65,_,_,_,_,_⟩) (v:=?_) hh rfl (fun _ _ _ h=>h) (by kernel_rfl) (by rfl) ?_ ?_
  rotate_left
  ·intro w h;(try dsimp only at h);go_simp<;>with_reducible rfl
  try simp only[pt,pn,List.set]
  refine wpAnyH_ready (rs:=[24]) (by kernel_rfl) (by simp) ?_
  refine AllReadyH.cons rfl (fun K hK=>?_) AllReadyH.nil
  go_simp
  refine hK.out _ _ ?_ (fun hh=>?_)
  ·(first|with_reducible exact hS|go_keep)
  clear hK K
  try simp only[pt,pn,List.set]
  refine wpAnyH_done (by kernel_rfl) ?_ _
  refine NoPanic.normal ?_
 all_goals
  go_wp2_with fail
  go_end0
  exact note_end P7 HLL.out hg
end Go.Proofs.YtjmkkcckfbnmeaaGreatDoor.Sv
