/- Walks. -/
import Derived.Test.YtocppjcocnckmaaGreatDoorM40
import Derived.Test.YtocppjcocnckmaaGreatDoorM46
import Derived.Deep.Cut
import Derived.Deep.RegionHeld3
import Derived.RegionTactic
import Derived.BigRegion
import Derived.Deep.QuietTactic
import Derived.BigQuiet
set_option maxRecDepth 100000
set_option maxHeartbeats 8000000
set_option linter.all false
open Go.Lib (hid)
namespace Go.Proofs.YtocppjcocnckmaaGreatDoor
open Go.Proofs.Tryz
namespace Sv
open Go.RowKit Cr
def cp (b:Blk):List Value:=[.pointer (some ⟨b.c,0,none⟩)]
theorem lU (b:Blk):(cp b).length=1:=rfl
theorem Gf:(prog.info? 104).map (λi=>(i.zero,i.size,i.bytes))=some (some (.pointer none),1,8):=by kernel_rfl
theorem uG:(prog.info? 57).map (λi=>(i.zero,i.size,i.bytes))=some (some (.agg #[.int .i64 0,.int .i64 0,.int .i64 0,.string ByteArray.empty,.int .i64 0,.string ByteArray.empty,.string ByteArray.empty,.string ByteArray.empty,.string ByteArray.empty,.int .i64 0,.int .i64 0,.slice none 0 0,.int .i64 0,.int .i64 0,.int .i64 0,.int .i64 0,.int .i64 0,.int .i64 0,.int .i64 0,.string ByteArray.empty,.int .i64 0,.bool false,.slice none 0 0]),23,264):=by kernel_rfl
def dH (k:Cf)(x:M.Core)(xp:Nat)(vc ve:Value):List Value:=ew k x++[.pointer (some ⟨xp,0,none⟩),vc,ve,.bool false]
structure ft (w:World)(B g xp:Nat)(k:Cf)(bs:List Blk)(s:M.Srv)(vc ve:Value):Prop where
 bg:B<=g
 bxp:B<=xp
 cell:Holds w g 103 (dH k s.core xp vc ve).toArray
 core:aF w B xp k s.core
 len:bs.length=s.ag.length
 ag:Own w B 104 1 vc bs.length (flat cp bs)
 each:∀ (i:Nat) b m,bs[i]? = some b->s.ag[i]? = some m->CF w B xp k.room b i m
 apart:∀ (i j:Nat) b b',i≠j->bs[i]? = some b->bs[j]? = some b'->∀ y,y∈b.all->y∉b'.all
 evs:Ev.dz w B ve s.events
 npo:∀ (i:Nat) b,bs[i]? = some b->b.po≠b.pi
def dx (w:World)(B g xp:Nat)(k:Cf)(s:M.Srv):Prop:=∃ bs vc ve,ft w B g xp k bs s vc ve
open Go.RowKit Cr Tk
open Go in
theorem tk {P:Program}{ops:Array Oper}{Q:Exit->Act->World->Prop}{md:Region.Mode}{S:World->Prop}(i:Nat){oi:Oper}{v:Value}{fuel:Nat}{listed:Array Bool}{a:Act}{w:World}(hS:S w)(hi:ops[i]? = some oi)(hq:∀ c a w,Q (.panic c) (a.put oi.dst v) w->Q (.panic c) a w)(hk:(Region.noSelect ops&&Region.free md ops listed i&&(Region.ready md ops listed).contains i)=true)(hw:Region.wanted oi (yielded ops a.tmps)=true)(hy:∀ w,S w->(execOp a.eval oi).run P w = .ok (.value v) w)(h:wpAnyH P md ops Q S fuel (listed.setIfInBounds i true) (a.put oi.dst v) w):wpAnyH P md ops Q S (fuel+1) listed a w:=by
 simp only[Bool.and_eq_true] at hk
 exact wpAnyH_take hi hk.1.1 hk.1.2 hk.2 hq (Or.inl ⟨hw,hy⟩) hS h
theorem pt (l:List Value)(d:Nat)(v:Value)(ds):Act.put { tmps:=l.toArray,defers:=ds } (some d) v={ tmps:=(l.set d v).toArray,defers:=ds }:=by simp[Act.put]
theorem pn (a:Act)(v:Value):Act.put a none v=a:=rfl
structure Nt (w W:World)(B g xp:Nat)(k:Cf)(xc:M.Core)(b:Blk)(vc ve:Value)(st:Int)(x:Cx)(tt:ByteArray)(sq:Int)(l:List M.Ev):Prop where
 fr:Fr [] w W
 srv:Holds W g 103 (dH k xc xp vc ve).toArray
 con:Holds W b.c 112 (bA b st x).toArray
 ses:Se.eO W b.se b.pi tt sq
 evs:Ev.dz W B ve l
theorem Nt.go {w W W':World}{B g xp:Nat}{k:Cf}{xc:M.Core}{b:Blk}{vc ve:Value}{st:Int}{x:Cx}{tt:ByteArray}{sq:Int}{l:List M.Ev}(h:Nt w W B g xp k xc b vc ve st x tt sq l)(hf:Fr [] W W'):Nt w W' B g xp k xc b vc ve st x tt sq l :=
 ⟨h.fr.trans hf,h.srv.fr hf (by simp),h.con.fr hf (by simp),h.ses.fr hf (by simp),h.evs.frx (FrX.aA (Ts:=[]) hf) (by simp) (by simp) (by simp)⟩
theorem Nt.far {w W:World}{B g xp p t:Nat}{k:Cf}{xc:M.Core}{b:Blk}{vc ve:Value}{st:Int}{x:Cx}{tt:ByteArray}{sq:Int}{l:List M.Ev}{cs:Array Value}(h:Nt w W B g xp k xc b vc ve st x tt sq l)(hp:Holds W p t cs)(hw:w.heap.size<=p)(hB:B<=w.heap.size)
  (h1:t≠103) (h2:t≠112) (h3:t≠184) (h4:t≠57) (h5:t≠43) (h6:t≠59) (i:Nat) (u:Value):Nt w (W.setCell ⟨p,i,none⟩ u) B g xp k xc b vc ve st x tt sq l :=
 ⟨Ev.Fr.aw h.fr hw u,h.srv.far (h.srv.ne hp (Ne.symm h1)) _,h.con.far (h.con.ne hp (Ne.symm h2)) _,h.ses.far (h.ses.ne hp (Ne.symm h3)) _,h.evs.frx (Us:=[t]) (FrX.aB ((Fr.refl [p] W).setCell (by simp) _) (by simp;omega) (λy hy=>⟨t,by simp,by simp at hy;subst hy;exact hp.ty⟩)) (by simpa using Ne.symm h5) (by simpa using Ne.symm h6) (by simpa using Ne.symm h4)⟩
structure CB (w w7:World)(B g xp:Nat)(k:Cf)(xc:M.Core)(b:Blk)(vc ve:Value)(st:Int)(x:Cx)(tt:ByteArray)(sq:Int)(L:List Ev.Raw)(r:Ev.Raw)(a3 a5:Option Addr)(c3 c5:Nat)(a:M.aU)(v7:Value):Prop where
 srv:Holds w7 g 103 (dH k xc xp vc ve).toArray
 con:Holds w7 b.c 112 (bA b st x).toArray
 ses:Se.eO w7 b.se b.pi tt sq
 h3:Holds w7 w.heap.size 55 (Ev.rsc a (.slice a5 a.items.length c5)).toArray
 h4:Holds w7 (w.heap.size+1) 37 (Ev.rqc x.q (.slice a3 x.q.ops.length c3)).toArray
 own:Own w7 B 57 23 v7 (L.length+1) (flat Ev.Raw.cells (L++[r]))
 ats:∀ y∈L++[r],y.At w7 B
 fr:FrX B [57] [] w w7
theorem lJ {w W W' w7:World}{B g xp:Nat}{k:Cf}{xc:M.Core}{b:Blk}{vc ve:Value}{st:Int}{x:Cx}{tt:ByteArray}{sq:Int}{l:List M.Ev}{L:List Ev.Raw}{r:Ev.Raw}{a3 a5:Option Addr}{c3 c5:Nat}{a:M.aU}{v7:Value}{news:List Value}{own7:Option Nat}
  (N:Nt w W B g xp k xc b vc ve st x tt sq l) (hown:Own W B 57 23 ve L.length (flat Ev.Raw.cells L)) (hat:∀ y∈L,y.At W B) (hr:r.At W B) (h3:Holds W w.heap.size 55 (Ev.rsc a (.slice a5 a.items.length c5)).toArray)
  (h4:Holds W (w.heap.size+1) 37 (Ev.rqc x.q (.slice a3 x.q.ops.length c3)).toArray) (f:Fr [] W W') (hB:B<=W'.heap.size) (hn:news=r.cells) (hs:Sl w7 57 23 v7 (L.length+1) (flat Ev.Raw.cells L++news) own7) (hf:Fr (ay ve).toList W' w7) (ho:own7=ay ve∨∃ g,own7=some g/\W'.heap.size<=g) (hm:0<1->∃ g,own7=some g) :
  ∃ a7 c7,v7 = .slice a7 (L.length+1) c7/\CB w w7 B g xp k xc b vc ve st x tt sq L r a3 a5 c3 c5 a v7:=by
 have hown':=Own.fr0 hown f
 have hb:∀ y,y∈(ay ve).toList->cB W' y=some 57/\B<=y:=λy hy=>hown'.ty (by simpa using hy)
 obtain⟨oo,-⟩:=bn (B:=B) hB (λg hg=>(hown'.ty hg).2) hs ho (hm (by omega))
 have x7:FrX B [57] [] W' w7:=FrX.aB hf (λy hy=>(hb y hy).2) (λy hy=>⟨57,by simp,(hb y hy).1⟩)
 have N':=N.go f
 have e:flat Ev.Raw.cells (L++[r])=flat Ev.Raw.cells L++r.cells:=by rw[aP,bS]
 obtain⟨a7,c7,hv⟩:=Own.form oo
 refine⟨a7,c7,hv,N'.srv.frx x7 (by decide) (by simp),N'.con.frx x7 (by decide) (by simp),Holds.frx N'.ses x7 (by decide) (by simp),(h3.fr f (by simp)).frx x7 (by decide) (by simp),(h4.fr f (by simp)).frx x7 (by decide) (by simp),by rw[e,<-hn];exact oo,?_,(FrX.aA (N.fr.trans f)).trans x7⟩
 intro y hy
 have hy':y.At W B:=by
  rcases List.mem_append.1 hy with h|h
  ·exact hat y h
  simp at h
  subst h
  exact hr
 exact(hy'.frx (FrX.aA (Ts:=[]) f) (by simp) (by simp)).frx x7 (by decide) (by decide)
theorem AX {w w7:World}{B g xp i:Nat}{k:Cf}{xc:M.Core}{b:Blk}{vc ve:Value}{st kind:Int}{x:Cx}{tt:ByteArray}{sq:Int}{l:List M.Ev}{L:List Ev.Raw}{a3 a5:Option Addr}{c3 c5:Nat}{a:M.aU}{vo vi v7:Value}
  (P:CB w w7 B g xp k xc b vc ve st x tt sq L ⟨kind,i,x.seq,tt,x.q,vo,a,vi⟩ a3 a5 c3 c5 a v7) (hL:L.map Ev.Raw.ev=l) (hg:B<=g) :
  Ending.returned (.tuple #[])=Ending.returned (.tuple #[])/\∃ ve',Holds (w7.setCell ⟨g,10,none⟩ v7) g 103 (dH k xc xp vc ve').toArray/\Ev.dz (w7.setCell ⟨g,10,none⟩ v7) B ve' (l++[⟨kind,i,x.seq,a⟩])/\FrX B [57] [g] w (w7.setCell ⟨g,10,none⟩ v7):=by
 have f:Fr [g] w7 (w7.setCell ⟨g,10,none⟩ v7):=rZ.setCell (by simp) _
 have x8:FrX B [103] [] w7 (w7.setCell ⟨g,10,none⟩ v7):=FrX.aB f (by simpa using hg) (λy hy=>⟨103,by simp,by simp at hy;subst hy;exact P.srv.ty⟩)
 refine⟨rfl,v7,by simpa[dH,ew] using P.srv.set 10 v7,⟨⟨_,?_,?_,λr hr=>(P.ats r hr).frx x8 (by decide) (by decide)⟩⟩,(P.fr.mono (λ_ h=>h) (by simp)).trans (FrX.bY f (by simpa using hg))⟩
 ·rw[List.map_append,hL]
  rfl
 have:=P.own.bf x8 (by decide)
 simpa using this
theorem kH {w w':World}{b:Blk}{st:Int}{x:Cx}{tt:ByteArray}{sq:Int}{a:M.aU}{a3 a5:Option Addr}{c3 c5:Nat}(h1:Holds w' b.c 112 (bA b st x).toArray)(h2:Se.eO w' b.se b.pi tt sq)
  (h3:Holds w' w.heap.size 55 (Ev.rsc a (.slice a5 a.items.length c5)).toArray) (h4:Holds w' (w.heap.size+1) 37 (Ev.rqc x.q (.slice a3 x.q.ops.length c3)).toArray) :
  w'.cell? ⟨b.c,1,none⟩=some (.pointer (some ⟨b.se,0,none⟩))/\w'.cell? ⟨b.c,5,none⟩=some (.int .i64 x.seq)/\w'.cell? ⟨b.se,1,none⟩=some (.string tt)/\w'.cell? ⟨w.heap.size,0,none⟩=some (.int .i64 a.kind)/\w'.cell? ⟨w.heap.size,1,none⟩=some (.int .i64 a.err)/\w'.cell? ⟨w.heap.size,2,none⟩=some (.int .i64 a.token)/\w'.cell? ⟨w.heap.size,3,none⟩=some (.int .i64 a.version)/\w'.cell? ⟨w.heap.size,4,none⟩=some (.string a.au)/\w'.cell? ⟨w.heap.size,5,none⟩=some (.int .i64 a.index)/\w'.cell? ⟨w.heap.size,6,none⟩=some (.bool a.more)/\w'.cell? ⟨w.heap.size,7,none⟩=some (.slice a5 a.items.length c5)/\w'.cell? ⟨w.heap.size+1,0,none⟩=some (.int .i64 x.q.kind)/\w'.cell? ⟨w.heap.size+1,1,none⟩=some (.string x.q.aR)/\w'.cell? ⟨w.heap.size+1,2,none⟩=some (.string x.q.col)/\w'.cell? ⟨w.heap.size+1,3,none⟩=some (.string x.q.uid)/\w'.cell? ⟨w.heap.size+1,4,none⟩=some (.string x.q.au)/\w'.cell? ⟨w.heap.size+1,5,none⟩=some (.int .i64 x.q.ck)/\w'.cell? ⟨w.heap.size+1,6,none⟩=some (.int .i64 x.q.cv)/\w'.cell? ⟨w.heap.size+1,7,none⟩=some (.slice a3 x.q.ops.length c3)/\w'.cell? ⟨w.heap.size+1,8,none⟩=some (.int .i64 x.q.token)/\w'.cell? ⟨w.heap.size+1,9,none⟩=some (.int .i64 x.q.aD)/\w'.cell? ⟨w.heap.size+1,10,none⟩=some (.int .i64 x.q.bj):=by
 refine⟨by simpa[bA] using h1.cell 1,by simpa[bA] using h1.cell 5,by simpa using h2.cell 1,by simpa[Ev.rsc] using h3.cell 0,by simpa[Ev.rsc] using h3.cell 1,by simpa[Ev.rsc] using h3.cell 2,by simpa[Ev.rsc] using h3.cell 3,by simpa[Ev.rsc] using h3.cell 4,by simpa[Ev.rsc] using h3.cell 5,by simpa[Ev.rsc] using h3.cell 6,by simpa[Ev.rsc] using h3.cell 7,by simpa[Ev.rqc] using h4.cell 0,by simpa[Ev.rqc] using h4.cell 1,by simpa[Ev.rqc] using h4.cell 2,by simpa[Ev.rqc] using h4.cell 3,by simpa[Ev.rqc] using h4.cell 4,by simpa[Ev.rqc] using h4.cell 5,by simpa[Ev.rqc] using h4.cell 6,by simpa[Ev.rqc] using h4.cell 7,by simpa[Ev.rqc] using h4.cell 8,by simpa[Ev.rqc] using h4.cell 9,by simpa[Ev.rqc] using h4.cell 10⟩
theorem kI (w:World)(B g xp i:Nat)(k:Cf)(xc:M.Core)(bs:List Blk)(b:Blk)(vc ve va:Value)(st kind:Int)(x:Cx)(tt:ByteArray)(sq:Int)(a:M.aU)(l:List M.Ev)(hB:B<=w.heap.size)(hg:B<=g)
  (hs:Holds w g 103 (dH k xc xp vc ve).toArray) (hc:Own w B 104 1 vc bs.length (flat cp bs)) (hbi:bs[i]? = some b) (hcell:Holds w b.c 112 (bA b st x).toArray) (hse:Se.eO w b.se b.pi tt sq)
  (hw:x.pF=1) (hops:Ev.bD w B x.vo x.q.ops) (hl1:x.q.ops.length<=20) (hev:Ev.dz w B ve l) (hia:Ev.aV w B va a.items) (hla:a.items.length<=20) (hlen:l.length<=100000) :
  Calls prog 47 #[.pointer (some ⟨g,0,none⟩),.int .i64 kind,.int .i64 i,.agg (Ev.rsc a va).toArray] w λe w'=>e = .returned (.tuple #[])/\∃ ve',Holds w' g 103 (dH k xc xp vc ve').toArray/\Ev.dz w' B ve' (l++[⟨kind,i,x.seq,a⟩])/\FrX B [57] [g] w w':=by
 obtain⟨i3,hi,hz0,hz1,hz2⟩:=info_parts Lp.dU
 obtain⟨j3,ji,jz0,jz1,jz2⟩:=info_parts Ev.pf
 obtain⟨e3,ei,ez0,ez1,ez2⟩:=info_parts uG
 obtain⟨oa,oc,hov,hocs,holen⟩:=Ev.Own.cells hops
 obtain⟨ia,ic,hiv,hics,hilen⟩:=Ev.Own.cells hia
 subst hiv
 obtain⟨gc,cc,hgc,hvc,hrc,hgcl,hcc⟩:=hc.cell lU rfl hbi
 subst hvc
 have m0:=hcc 0 _ (by omega) rfl
 have hil:(i:Int)<(bs.length:Int):=by have:=(List.getElem?_eq_some_iff.1 hbi).1;omega
 have c9:=hs.cell 9
 have d4:=hcell.cell 4
 have d5:=hcell.cell 5
 have d7:=hcell.cell 7
 have d8:=hcell.cell 8
 have d9:=hcell.cell 9
 have d10:=hcell.cell 10
 have d11:=hcell.cell 11
 have d12:=hcell.cell 12
 have d13:=hcell.cell 13
 have d14:=hcell.cell 14
 have d15:=hcell.cell 15
 have d16:=hcell.cell 16
 have d17:=hcell.cell 17
 simp[dH,ew] at c9
 simp[bA,hw,hov] at d4 d5 d7 d8 d9 d10 d11 d12 d13 d14 d15 d16 d17
 simp at m0
 have hgl:=hs.lt
 have hbl:=hcell.lt
 have hsl:=hse.lt
 have hnt:Nt w w B g xp k xc b _ ve st x tt sq l:=⟨rZ,hs,hcell,hse,hev⟩
 have HNT:=hid hnt
 have HO:=hid hops
 have HI:=hid hia
 have HOV:=hid hov
 simp only[Ev.rsc]
 clear hs hc hcell hse hops hev hia hcc hrc hnt hocs hics hov
 go_enter func47,ntmps47
 go_upto_region 5 with fail
 obtain⟨W0,hW0⟩:∃ W0,W0=(w.alloc (.cells #[.int .i64 a.kind,.int .i64 a.err,.int .i64 a.token,.int .i64 a.version,.string a.au,.int .i64 a.index,.bool a.more,.slice ia a.items.length ic] 55)).alloc (.cells #[.int .i64 x.q.kind,.string x.q.aR,.string x.q.col,.string x.q.uid,.string x.q.au,.int .i64 x.q.ck,.int .i64 x.q.cv,.slice oa x.q.ops.length oc,.int .i64 x.q.token,.int .i64 x.q.aD,.int .i64 x.q.bj] 37):=⟨_,rfl⟩
 have f0:Fr [] w W0:=by rw[hW0];exact(rZ.alloc _).alloc _
 have b1:Holds W0 w.heap.size 55 (Ev.rsc a (.slice ia a.items.length ic)).toArray:=by rw[hW0];exact(Holds.new _ _ _).alloc _
 have b2:Holds W0 (w.heap.size+1) 37 (Ev.rqc x.q (.slice oa x.q.ops.length oc)).toArray:=by rw[hW0];exact aE (by simp)
 have N0:=hid (HNT.go f0)
 have O0:=hid (Own.fr0 (by rw[<-HOV];exact HO:Ev.bD w B (.slice oa x.q.ops.length oc) x.q.ops) f0)
 have I0:=hid (Own.fr0 HI f0)
 rw[<-hW0]
 have p7:=b2.cell 7
 have z7:=b2.frozen 7
 simp[Ev.rqc] at p7
 have l1:=b1.lt
 have l2:=b2.lt
 have B1:=hid b1
 have B2:=hid b2
 have hBW0:B<=W0.heap.size:=Nat.le_trans hB f0.size
 clear hW0 f0 b1 b2 c9 d4 d5 d7 d8 d9 d10 d11 d12 d13 d14 d15 d16 d17 m0
 obtain⟨_,_,he0,hc0,hl0⟩:=Ev.Own.cells O0
 cases he0
 go_upto_region 6 with(at_builtin;(refine Ev.dR B rfl (.const (.slice none 0 0)) (.tmp 35) 35 rfl i3 _ 56 underlying35 hi hz0 hz1 hz2 rfl (by decide) rfl oa x.q.ops.length oc (flat Lp.cs x.q.ops) rfl hl0 hc0 (cm (λ_=>Lp.cQ) _) (by unfold maxLen;omega) (by omega) hBW0 ?_;intro v3 w3 o3 f3;obtain⟨a3,c3,hv3⟩:=Own.form o3;subst hv3;have b23:=B2.fr f3 (by simp);have p7:=b23.cell 7;have z7:=b23.frozen 7;have l2:=b23.lt;simp[Ev.rqc] at p7))
 obtain⟨W4,hW4⟩:∃ W4,W4=w3.setCell ⟨w.heap.size+1,7,none⟩ (.slice a3 x.q.ops.length c3):=⟨_,rfl⟩
 rw[<-hW4]
 have N4:=hid (show Nt w W4 B g xp k xc b _ ve st x tt sq l by rw[hW4];exact(N0.go f3).far b23 (by omega) hB (by decide) (by decide) (by decide) (by decide) (by decide) (by decide) _ _)
 have B14:=hid (show Holds W4 w.heap.size 55 _ by rw[hW4];exact(B1.fr f3 (by simp)).far (by simp) _)
 have B24:=hid (show Holds W4 (w.heap.size+1) 37 (Ev.rqc x.q (.slice a3 x.q.ops.length c3)).toArray by rw[hW4];simpa[Ev.rqc] using b23.set 7 (.slice a3 x.q.ops.length c3))
 have x4:FrX B [37] [] w3 W4:=by rw[hW4];exact FrX.aB ((Fr.refl [w.heap.size+1] _).setCell (by simp) _) (by simp;omega) (λy hy=>⟨37,by simp,by simp at hy;subst hy;exact b23.ty⟩)
 have O4:=hid (o3.bf x4 (by decide))
 have I4:=hid ((Own.fr0 I0 f3).bf x4 (by decide))
 have hBW4:B<=W4.heap.size:=Nat.le_trans hB N4.fr.size
 clear hW4 x4 o3 f3 b23 hc0 hl0 hBW0
 have q7:=B14.cell 7
 have y7:=B14.frozen 7
 simp[Ev.rsc] at q7
 have l3:=B14.lt
 have l4:=B24.lt
 obtain⟨_,_,he1,hc1,hl1'⟩:=Ev.Own.cells I4
 cases he1
 go_upto_region 7 with(at_builtin;(refine Ev.dR B rfl (.const (.slice none 0 0)) (.tmp 39) 53 rfl j3 _ 48 underlying53 ji jz0 jz1 jz2 rfl (by decide) rfl ia a.items.length ic (flat Ev.ic a.items) rfl hl1' hc1 (cm Ev.kj _) (by unfold maxLen;omega) (by omega) hBW4 ?_;intro v5 w5 o5 f5;obtain⟨a5,c5,hv5⟩:=Own.form o5;subst hv5;have b15:=B14.fr f5 (by simp);have q7:=b15.cell 7;have y7:=b15.frozen 7;have l3:=b15.lt;simp[Ev.rsc] at q7))
 obtain⟨W6,hW6⟩:∃ W6,W6=w5.setCell ⟨w.heap.size,7,none⟩ (.slice a5 a.items.length c5):=⟨_,rfl⟩
 rw[<-hW6]
 have N6:=hid (show Nt w W6 B g xp k xc b _ ve st x tt sq l by rw[hW6];exact(N4.go f5).far b15 (Nat.le_refl _) hB (by decide) (by decide) (by decide) (by decide) (by decide) (by decide) _ _)
 have B16:=hid (show Holds W6 w.heap.size 55 (Ev.rsc a (.slice a5 a.items.length c5)).toArray by rw[hW6];simpa[Ev.rsc] using b15.set 7 (.slice a5 a.items.length c5))
 have B26:=hid (show Holds W6 (w.heap.size+1) 37 (Ev.rqc x.q (.slice a3 x.q.ops.length c3)).toArray by rw[hW6];exact(B24.fr f5 (by simp)).far (by simp) _)
 have x6:FrX B [55] [] w5 W6:=by rw[hW6];exact FrX.aB ((Fr.refl [w.heap.size] _).setCell (by simp) _) (by simpa using hB) (λy hy=>⟨55,by simp,by simp at hy;subst hy;exact b15.ty⟩)
 have O6:=hid ((Own.fr0 O4 f5).bf x6 (by decide))
 have I6:=hid (o5.bf x6 (by decide))
 clear hW6 x6 o5 f5 b15 hc1 hl1' hBW4 q7 y7 l3 l4 p7 z7 l1 l2
 obtain⟨⟨L,hL,hown,hat⟩⟩:=N6.evs
 obtain⟨ea,ec,hev⟩:=Own.form hown
 have HEV:=hid hev
 have c10:=N6.srv.cell 10
 have z10:=N6.srv.frozen 10
 have s1:=N6.con.cell 1
 have s5:=N6.con.cell 5
 simp[dH,ew,hev] at c10
 simp[bA] at s1 s5
 obtain⟨t0,t1,t2,t3,t4,t5,t6,t7⟩:=B16.cs8
 simp[Ev.rsc] at t0 t1 t2 t3 t4 t5 t6 t7
 obtain⟨u0,u1,u2,u3,u4,u5,u6,u7,u8,u9,u10⟩:=B26.dW
 simp[Ev.rqc] at u0 u1 u2 u3 u4 u5 u6 u7 u8 u9 u10
 have HTn:=hid (λ(W:World) (f:Fr [] W6 W)=>Se.mY W b.se b.pi tt sq (N6.ses.fr f (by simp)))
 have g6:=N6.srv.lt
 have HAT:=hid hat
 have HOWN:=hid hown
 have HLL:=hid hL
 clear hat hown hL hev
 have hg1:g≠b.c:=N6.srv.ne N6.con (by decide)
 have hg2:g≠b.se:=N6.srv.ne N6.ses (by decide)
 have hg3:g≠w.heap.size:=Nat.ne_of_lt hgl
 have hg4:g≠w.heap.size+1:=by omega
 have hg5:b.c≠g:=Ne.symm hg1
 have hg6:b.se≠g:=Ne.symm hg2
 have HONE:=hid (show ∀ u∈(Ev.Raw.cells ⟨kind,i,x.seq,tt,x.q,.slice a3 x.q.ops.length c3,a,.slice a5 a.items.length c5⟩),u.oneCell'=true from Ev.Raw.At.one (w:=W6) (B:=B) ⟨O6,I6,hl1,hla⟩)
 have hLl:L.length<=100000:=by rw[<-HLL] at hlen;simpa using hlen
 have hS:=kH (tt:=tt) N6.con N6.ses B16 B26
 refine wp_region_noPanic ?_
 refine wp_region_held_drew (S:=(λw'=>w'.cell? ⟨b.c,1,none⟩=some (.pointer (some ⟨b.se,0,none⟩))/\w'.cell? ⟨b.c,5,none⟩=some (.int .i64 x.seq)/\w'.cell? ⟨b.se,1,none⟩=some (.string tt)/\w'.cell? ⟨w.heap.size,0,none⟩=some (.int .i64 a.kind)/\w'.cell? ⟨w.heap.size,1,none⟩=some (.int .i64 a.err)/\w'.cell? ⟨w.heap.size,2,none⟩=some (.int .i64 a.token)/\w'.cell? ⟨w.heap.size,3,none⟩=some (.int .i64 a.version)/\w'.cell? ⟨w.heap.size,4,none⟩=some (.string a.au)/\w'.cell? ⟨w.heap.size,5,none⟩=some (.int .i64 a.index)/\w'.cell? ⟨w.heap.size,6,none⟩=some (.bool a.more)/\w'.cell? ⟨w.heap.size,7,none⟩=some (.slice a5 a.items.length c5)/\w'.cell? ⟨w.heap.size+1,0,none⟩=some (.int .i64 x.q.kind)/\w'.cell? ⟨w.heap.size+1,1,none⟩=some (.string x.q.aR)/\w'.cell? ⟨w.heap.size+1,2,none⟩=some (.string x.q.col)/\w'.cell? ⟨w.heap.size+1,3,none⟩=some (.string x.q.uid)/\w'.cell? ⟨w.heap.size+1,4,none⟩=some (.string x.q.au)/\w'.cell? ⟨w.heap.size+1,5,none⟩=some (.int .i64 x.q.ck)/\w'.cell? ⟨w.heap.size+1,6,none⟩=some (.int .i64 x.q.cv)/\w'.cell? ⟨w.heap.size+1,7,none⟩=some (.slice a3 x.q.ops.length c3)/\w'.cell? ⟨w.heap.size+1,8,none⟩=some (.int .i64 x.q.token)/\w'.cell? ⟨w.heap.size+1,9,none⟩=some (.int .i64 x.q.aD)/\w'.cell? ⟨w.heap.size+1,10,none⟩=some (.int .i64 x.q.bj))) (by kernel_rfl) ?_ (λhh=>?_)
 ·(first|with_reducible exact hS|go_keep)
 refine tk 0 (oi:=⟨some 42,_,_,_,_,_⟩) (v:=?_) hh rfl (λ_ _ _ h=>h) (by kernel_rfl) (by rfl) ?_ ?_
 rotate_left
 ·intro w h;(try dsimp only at h);go_simp<;>with_reducible rfl
 try simp only[pt,pn,List.set]
 refine tk 1 (oi:=⟨some 43,_,_,_,_,_⟩) (v:=?_) hh rfl (λ_ _ _ h=>h) (by kernel_rfl) (by rfl) ?_ ?_
 rotate_left
 ·intro w h;(try dsimp only at h);go_simp<;>with_reducible rfl
 try simp only[pt,pn,List.set]
 refine tk 2 (oi:=⟨some 44,_,_,_,_,_⟩) (v:=?_) hh rfl (λ_ _ _ h=>h) (by kernel_rfl) (by rfl) ?_ ?_
 rotate_left
 ·intro w h;(try dsimp only at h);go_simp<;>with_reducible rfl
 try simp only[pt,pn,List.set]
 refine tk 3 (oi:=⟨some 45,_,_,_,_,_⟩) (v:=?_) hh rfl (λ_ _ _ h=>h) (by kernel_rfl) (by rfl) ?_ ?_
 rotate_left
 ·intro w h;(try dsimp only at h);go_simp<;>with_reducible rfl
 try simp only[pt,pn,List.set]
 refine tk 5 (oi:=⟨some 47,_,_,_,_,_⟩) (v:=?_) hh rfl (λ_ _ _ h=>h) (by kernel_rfl) (by rfl) ?_ ?_
 rotate_left
 ·intro w h;(try dsimp only at h);go_simp<;>with_reducible rfl
 try simp only[pt,pn,List.set]
 refine tk 6 (oi:=⟨some 48,_,_,_,_,_⟩) (v:=?_) hh rfl (λ_ _ _ h=>h) (by kernel_rfl) (by rfl) ?_ ?_
 rotate_left
 ·intro w h;(try dsimp only at h);go_simp<;>with_reducible rfl
 try simp only[pt,pn,List.set]
 refine tk 7 (oi:=⟨some 49,_,_,_,_,_⟩) (v:=?_) hh rfl (λ_ _ _ h=>h) (by kernel_rfl) (by rfl) ?_ ?_
 rotate_left
 ·intro w h;(try dsimp only at h);go_simp<;>with_reducible rfl
 try simp only[pt,pn,List.set]
 refine tk 8 (oi:=⟨some 50,_,_,_,_,_⟩) (v:=?_) hh rfl (λ_ _ _ h=>h) (by kernel_rfl) (by rfl) ?_ ?_
 rotate_left
 ·intro w h;(try dsimp only at h);go_simp<;>with_reducible rfl
 try simp only[pt,pn,List.set]
 refine tk 9 (oi:=⟨some 51,_,_,_,_,_⟩) (v:=?_) hh rfl (λ_ _ _ h=>h) (by kernel_rfl) (by rfl) ?_ ?_
 rotate_left
 ·intro w h;(try dsimp only at h);go_simp<;>with_reducible rfl
 try simp only[pt,pn,List.set]
 refine tk 10 (oi:=⟨some 52,_,_,_,_,_⟩) (v:=?_) hh rfl (λ_ _ _ h=>h) (by kernel_rfl) (by rfl) ?_ ?_
 rotate_left
 ·intro w h;(try dsimp only at h);go_simp<;>with_reducible rfl
 try simp only[pt,pn,List.set]
 refine tk 11 (oi:=⟨some 53,_,_,_,_,_⟩) (v:=?_) hh rfl (λ_ _ _ h=>h) (by kernel_rfl) (by rfl) ?_ ?_
 rotate_left
 ·intro w h;(try dsimp only at h);go_simp<;>with_reducible rfl
 try simp only[pt,pn,List.set]
 refine tk 12 (oi:=⟨some 54,_,_,_,_,_⟩) (v:=?_) hh rfl (λ_ _ _ h=>h) (by kernel_rfl) (by rfl) ?_ ?_
 rotate_left
 ·intro w h;(try dsimp only at h);go_simp<;>with_reducible rfl
 try simp only[pt,pn,List.set]
 refine tk 13 (oi:=⟨some 55,_,_,_,_,_⟩) (v:=?_) hh rfl (λ_ _ _ h=>h) (by kernel_rfl) (by rfl) ?_ ?_
 rotate_left
 ·intro w h;(try dsimp only at h);go_simp<;>with_reducible rfl
 try simp only[pt,pn,List.set]
 refine tk 14 (oi:=⟨some 56,_,_,_,_,_⟩) (v:=?_) hh rfl (λ_ _ _ h=>h) (by kernel_rfl) (by rfl) ?_ ?_
 rotate_left
 ·intro w h;(try dsimp only at h);go_simp<;>with_reducible rfl
 try simp only[pt,pn,List.set]
 refine tk 15 (oi:=⟨some 57,_,_,_,_,_⟩) (v:=?_) hh rfl (λ_ _ _ h=>h) (by kernel_rfl) (by rfl) ?_ ?_
 rotate_left
 ·intro w h;(try dsimp only at h);go_simp<;>with_reducible rfl
 try simp only[pt,pn,List.set]
 refine tk 17 (oi:=⟨some 59,_,_,_,_,_⟩) (v:=?_) hh rfl (λ_ _ _ h=>h) (by kernel_rfl) (by rfl) ?_ ?_
 rotate_left
 ·intro w h;(try dsimp only at h);go_simp<;>with_reducible rfl
 try simp only[pt,pn,List.set]
 refine tk 18 (oi:=⟨some 60,_,_,_,_,_⟩) (v:=?_) hh rfl (λ_ _ _ h=>h) (by kernel_rfl) (by rfl) ?_ ?_
 rotate_left
 ·intro w h;(try dsimp only at h);go_simp<;>with_reducible rfl
 try simp only[pt,pn,List.set]
 refine wpAnyH_ready (rs:=[4,16]) (by kernel_rfl) (by simp) ?_
 refine AllReadyH.cons rfl (λK hK=>?_) (AllReadyH.cons rfl (λK hK=>?_) AllReadyH.nil)
 focus
  go_simp
  refine hK.out _ _ ?_ (λhh=>?_)
  ·(first|with_reducible exact hS|go_keep)
  clear hK K
  try simp only[pt,pn,List.set]
  refine wpAnyH_ready (rs:=[16]) (by kernel_rfl) (by simp) ?_
  refine AllReadyH.cons rfl (λK hK=>?_) AllReadyH.nil
  go_simp
  (first|(go_at_call 81;refine(HTn _ (by first|exact rZ.drew|exact rZ.drewN _)).mono ?_;rintro e w7 ⟨rfl,rfl⟩)|(refine bu rfl (.tmp 46) (.tmp 62) 47 rfl e3 _ 264 underlying47 ei ez0 ez1 ez2 rfl (by decide) (.slice ea L.length ec) (ay (.slice ea L.length ec)) rfl (Own.fr0 (by rw[<-HEV];exact HOWN:Own W6 B _ 23 (.slice ea L.length ec) L.length (flat Ev.Raw.cells L)) (by first|exact(rZ.drew.alloc _)|exact(rZ.alloc _).drew)).sl _ 1 1 _ rfl (by rfl) (Fm.Cells.bO (aE (by simp))) (λu hu=>HONE.out u hu) (by unfold maxLen;omega) (by omega) ?_;intro v7 w7 own7 hs7 hf7 ho7 hm7;obtain⟨a7,c7,rfl,P7⟩:=lJ (r:=⟨kind,i,x.seq,tt,x.q,.slice a3 x.q.ops.length c3,a,.slice a5 a.items.length c5⟩) (ve:=.slice ea L.length ec) (by rw[<-HEV];exact N6) (by rw[<-HEV];exact HOWN) HAT ⟨O6,I6,hl1,hla⟩ B16 B26 (by first|exact(rZ.drew.alloc _)|exact(rZ.alloc _).drew) (by have:=N6.fr.size;simp;omega) rfl hs7 hf7 ho7 hm7;have hS:=kH (tt:=tt) P7.con P7.ses P7.h3 P7.h4;have z10:=P7.srv.frozen 10;have c10:=P7.srv.cell 10;simp[dH,ew] at c10;have g7:=P7.srv.lt))
  try go_wp2_with fail
  refine hK.out _ _ ?_ (λhh=>?_)
  ·(first|with_reducible exact hS|go_keep)
  clear hK K
  try simp only[pt,pn,List.set]
  refine tk 19 (oi:=⟨some 61,_,_,_,_,_⟩) (v:=?_) hh rfl (λ_ _ _ h=>h) (by kernel_rfl) (by rfl) ?_ ?_
  rotate_left
  ·intro w h;(try dsimp only at h);go_simp<;>with_reducible rfl
  try simp only[pt,pn,List.set]
  refine wpAnyH_ready (rs:=[20]) (by kernel_rfl) (by simp) ?_
  refine AllReadyH.cons rfl (λK hK=>?_) AllReadyH.nil
  go_simp
  refine hK.out _ _ ?_ (λhh=>?_)
  ·(first|with_reducible exact hS|go_keep)
  clear hK K
  try simp only[pt,pn,List.set]
 rotate_left
 focus
  go_simp
  (first|(go_at_call 81;refine(HTn _ (by first|exact rZ.drew|exact rZ.drewN _)).mono ?_;rintro e w7 ⟨rfl,rfl⟩)|(refine bu rfl (.tmp 46) (.tmp 62) 47 rfl e3 _ 264 underlying47 ei ez0 ez1 ez2 rfl (by decide) (.slice ea L.length ec) (ay (.slice ea L.length ec)) rfl (Own.fr0 (by rw[<-HEV];exact HOWN:Own W6 B _ 23 (.slice ea L.length ec) L.length (flat Ev.Raw.cells L)) (by first|exact(rZ.drew.alloc _)|exact(rZ.alloc _).drew)).sl _ 1 1 _ rfl (by rfl) (Fm.Cells.bO (aE (by simp))) (λu hu=>HONE.out u hu) (by unfold maxLen;omega) (by omega) ?_;intro v7 w7 own7 hs7 hf7 ho7 hm7;obtain⟨a7,c7,rfl,P7⟩:=lJ (r:=⟨kind,i,x.seq,tt,x.q,.slice a3 x.q.ops.length c3,a,.slice a5 a.items.length c5⟩) (ve:=.slice ea L.length ec) (by rw[<-HEV];exact N6) (by rw[<-HEV];exact HOWN) HAT ⟨O6,I6,hl1,hla⟩ B16 B26 (by first|exact(rZ.drew.alloc _)|exact(rZ.alloc _).drew) (by have:=N6.fr.size;simp;omega) rfl hs7 hf7 ho7 hm7;have hS:=kH (tt:=tt) P7.con P7.ses P7.h3 P7.h4;have z10:=P7.srv.frozen 10;have c10:=P7.srv.cell 10;simp[dH,ew] at c10;have g7:=P7.srv.lt))
  try go_wp2_with fail
  refine hK.out _ _ ?_ (λhh=>?_)
  ·(first|with_reducible exact hS|go_keep)
  clear hK K
  try simp only[pt,pn,List.set]
  refine tk 19 (oi:=⟨some 61,_,_,_,_,_⟩) (v:=?_) hh rfl (λ_ _ _ h=>h) (by kernel_rfl) (by rfl) ?_ ?_
  rotate_left
  ·intro w h;(try dsimp only at h);go_simp<;>with_reducible rfl
  try simp only[pt,pn,List.set]
  refine wpAnyH_ready (rs:=[4,20]) (by kernel_rfl) (by simp) ?_
  refine AllReadyH.cons rfl (λK hK=>?_) (AllReadyH.cons rfl (λK hK=>?_) AllReadyH.nil)
  focus
   go_simp
   refine hK.out _ _ ?_ (λhh=>?_)
   ·(first|with_reducible exact hS|go_keep)
   clear hK K
   try simp only[pt,pn,List.set]
   refine wpAnyH_ready (rs:=[20]) (by kernel_rfl) (by simp) ?_
   refine AllReadyH.cons rfl (λK hK=>?_) AllReadyH.nil
   go_simp
   refine hK.out _ _ ?_ (λhh=>?_)
   ·(first|with_reducible exact hS|go_keep)
   clear hK K
   try simp only[pt,pn,List.set]
  rotate_left
  focus
   go_simp
   refine hK.out _ _ ?_ (λhh=>?_)
   ·(first|with_reducible exact hS|go_keep)
   clear hK K
   try simp only[pt,pn,List.set]
   refine wpAnyH_ready (rs:=[4]) (by kernel_rfl) (by simp) ?_
   refine AllReadyH.cons rfl (λK hK=>?_) AllReadyH.nil
   go_simp
   refine hK.out _ _ ?_ (λhh=>?_)
   ·(first|with_reducible exact hS|go_keep)
   clear hK K
   try simp only[pt,pn,List.set]
  rotate_left
 rotate_left 2
 all_goals
  refine wpAnyH_ready (rs:=[21]) (by kernel_rfl) (by simp) ?_
  refine AllReadyH.cons rfl (λK hK=>?_) AllReadyH.nil
  (first|(go_at_call 81;refine(HTn _ (by first|exact rZ.drew|exact rZ.drewN _)).mono ?_;rintro e w7 ⟨rfl,rfl⟩)|(refine bu rfl (.tmp 46) (.tmp 62) 47 rfl e3 _ 264 underlying47 ei ez0 ez1 ez2 rfl (by decide) (.slice ea L.length ec) (ay (.slice ea L.length ec)) rfl (Own.fr0 (by rw[<-HEV];exact HOWN:Own W6 B _ 23 (.slice ea L.length ec) L.length (flat Ev.Raw.cells L)) (by first|exact(rZ.drew.alloc _)|exact(rZ.alloc _).drew)).sl _ 1 1 _ rfl (by rfl) (Fm.Cells.bO (aE (by simp))) (λu hu=>HONE.out u hu) (by unfold maxLen;omega) (by omega) ?_;intro v7 w7 own7 hs7 hf7 ho7 hm7;obtain⟨a7,c7,rfl,P7⟩:=lJ (r:=⟨kind,i,x.seq,tt,x.q,.slice a3 x.q.ops.length c3,a,.slice a5 a.items.length c5⟩) (ve:=.slice ea L.length ec) (by rw[<-HEV];exact N6) (by rw[<-HEV];exact HOWN) HAT ⟨O6,I6,hl1,hla⟩ B16 B26 (by first|exact(rZ.drew.alloc _)|exact(rZ.alloc _).drew) (by have:=N6.fr.size;simp;omega) rfl hs7 hf7 ho7 hm7;have hS:=kH (tt:=tt) P7.con P7.ses P7.h3 P7.h4;have z10:=P7.srv.frozen 10;have c10:=P7.srv.cell 10;simp[dH,ew] at c10;have g7:=P7.srv.lt))
  refine hK.out _ _ ?_ (λhh=>?_)
  ·(first|with_reducible exact hS|go_keep)
  clear hK K
  try simp only[pt,pn,List.set]
  refine tk 22 (oi:=⟨some 64,_,_,_,_,_⟩) (v:=?_) hh rfl (λ_ _ _ h=>h) (by kernel_rfl) (by rfl) ?_ ?_
  rotate_left
  ·intro w h;(try dsimp only at h);go_simp<;>with_reducible rfl
  try simp only[pt,pn,List.set]
  refine tk 23 (oi:=⟨some 65,_,_,_,_,_⟩) (v:=?_) hh rfl (λ_ _ _ h=>h) (by kernel_rfl) (by rfl) ?_ ?_
  rotate_left
  ·intro w h;(try dsimp only at h);go_simp<;>with_reducible rfl
  try simp only[pt,pn,List.set]
  refine wpAnyH_ready (rs:=[24]) (by kernel_rfl) (by simp) ?_
  refine AllReadyH.cons rfl (λK hK=>?_) AllReadyH.nil
  go_simp
  refine hK.out _ _ ?_ (λhh=>?_)
  ·(first|with_reducible exact hS|go_keep)
  clear hK K
  try simp only[pt,pn,List.set]
  refine wpAnyH_done (by kernel_rfl) ?_ _
  refine NoPanic.normal ?_
 all_goals
  go_wp2_with fail
  go_end0
  exact AX P7 HLL hg
open Go.RowKit Cr Tk Fm
theorem Ax (k:Int)(s:ByteArray)(h0:0<=k)(h1:k<=255)(hs:s.size<=20000){w:World}{g n c:Nat}(hr:Row w 5 1 g n c (putCells [] k s))(j:Nat)(u:UInt8)(hu:(En.jy k s)[j]? = some u):w.cell? ⟨g,0+j,none⟩=some (.int .u8 u.toNat):=by
 rw[En.mi k s h0 h1 hs] at hr
 rw[Nat.zero_add]
 exact hr.cell (by simp[bc,hu])
theorem Eb {w W:World}{b:Blk}{st:Int}{x:Cx}{a:M.aU}{v:Value}(h:Holds W b.c 112 (bA b st x).toArray)(hf:Fr [] w W) :
  Ending.returned (.tuple #[])=Ending.returned (.tuple #[])/\Holds (((((((((((W.setCell ⟨b.c,19,none⟩ (.string (En.bytesOf (En.bE a)))).setCell ⟨b.c,20,none⟩ (.int .i64 a.kind)).setCell ⟨b.c,21,none⟩ (.int .i64 a.err)).setCell ⟨b.c,22,none⟩ (.int .i64 a.token)).setCell ⟨b.c,23,none⟩ (.int .i64 a.version)).setCell ⟨b.c,24,none⟩ (.string a.au)).setCell ⟨b.c,25,none⟩ (.int .i64 a.index)).setCell ⟨b.c,26,none⟩ (.bool a.more)).setCell ⟨b.c,27,none⟩ v).setCell ⟨b.c,28,none⟩ (.bool false)).setCell ⟨b.c,0,none⟩ (.int .i64 3)).drew b.c 112 (bA b 3 { x with fr:=En.bytesOf (En.bE a),rp:=a,vi:=v,last:=false }).toArray/\Fr [b.c] w (((((((((((W.setCell ⟨b.c,19,none⟩ (.string (En.bytesOf (En.bE a)))).setCell ⟨b.c,20,none⟩ (.int .i64 a.kind)).setCell ⟨b.c,21,none⟩ (.int .i64 a.err)).setCell ⟨b.c,22,none⟩ (.int .i64 a.token)).setCell ⟨b.c,23,none⟩ (.int .i64 a.version)).setCell ⟨b.c,24,none⟩ (.string a.au)).setCell ⟨b.c,25,none⟩ (.int .i64 a.index)).setCell ⟨b.c,26,none⟩ (.bool a.more)).setCell ⟨b.c,27,none⟩ v).setCell ⟨b.c,28,none⟩ (.bool false)).setCell ⟨b.c,0,none⟩ (.int .i64 3)).drew:=by
 refine⟨rfl,?_,(hf.mono (by simp)).trans ((((((((((((Fr.refl [b.c] W).setCell (p:=⟨b.c,19,none⟩) (by simp) _).setCell (p:=⟨b.c,20,none⟩) (by simp) _).setCell (p:=⟨b.c,21,none⟩) (by simp) _).setCell (p:=⟨b.c,22,none⟩) (by simp) _).setCell (p:=⟨b.c,23,none⟩) (by simp) _).setCell (p:=⟨b.c,24,none⟩) (by simp) _).setCell (p:=⟨b.c,25,none⟩) (by simp) _).setCell (p:=⟨b.c,26,none⟩) (by simp) _).setCell (p:=⟨b.c,27,none⟩) (by simp) _).setCell (p:=⟨b.c,28,none⟩) (by simp) _).setCell (p:=⟨b.c,0,none⟩) (by simp) _).drew⟩
 have:=(((((((((((h.set 19 (.string (En.bytesOf (En.bE a)))).set 20 (.int .i64 a.kind)).set 21 (.int .i64 a.err)).set 22 (.int .i64 a.token)).set 23 (.int .i64 a.version)).set 24 (.string a.au)).set 25 (.int .i64 a.index)).set 26 (.bool a.more)).set 27 v).set 28 (.bool false)).set 0 (.int .i64 3))
 exact Holds.drew (by simpa[bA] using this)
theorem fP (w:World)(B g:Nat)(b:Blk)(va:Value)(st:Int)(x:Cx)(a:M.aU)(hc:Holds w b.c 112 (bA b st x).toArray)(hia:Ev.aV w B va a.items)(ok:M.bH a=true) :
  Calls prog 49 #[.pointer (some ⟨g,0,none⟩),.pointer (some ⟨b.c,0,none⟩),.agg (Ev.rsc a va).toArray,.bool false] w λe w'=>e = .returned (.tuple #[])/\Holds w' b.c 112 (bA b 3 { x with fr:=En.bytesOf (En.bE a),rp:=a,vi:=va,last:=false }).toArray/\Fr [b.c] w w':=by
 have okp:=Rp.kE ok
 have hsz:=Rp.lF okp
 obtain⟨ia,ic,hiv⟩:=Own.form hia
 subst hiv
 have hcl:=hc.lt
 have HC:=hid hc
 have HI:=hid hia
 have hk:0<=a.kind/\a.kind<=11:=⟨okp.k0,okp.k1⟩
 have HE:=hid (λW (f:Fr [] w W)=>Rp.uT W B a (.slice ia a.items.length ic) (Own.fr0 hia f) okp)
 simp only[Ev.rsc] at HE ⊢
 clear hc hia okp ok
 go_enter func49,ntmps49
 go_wp2_with fail
 refine(HE _ (rZ.alloc _)).mono ?_
 rintro e w1 ⟨v1,rfl,hb1,f1⟩
 obtain⟨a1,n1,c1,rfl,hn1,hby⟩:=hb1
 have F1:=hid (((Fr.refl [] w).alloc _).trans f1)
 have B1:=hid ((Holds.new w 55 _).fr f1 (by simp))
 have t0:=B1.cell 0
 simp at t0
 obtain⟨bb,off,rfl,hbb,hbc⟩:=hby (by rw[Rp.rv,List.length_append];have:=(Rp.pg a).2;omega)
 obtain⟨body,hbody⟩:∃ body,body=En.bytesOf (En.eu a):=⟨_,rfl⟩
 have hbs:body.size=n1:=by rw[hbody,En.aK];exact hn1
 have hbz:body.size<=400:=by rw[hbs,<-hn1];exact Nat.le_trans hsz (by decide)
 subst hbs
 have kc1:=cE w1 bb off body.size c1 body rfl (λk u hu=>hbc k u (by rw[hbody,En.cX] at hu;exact hu))
 have HBd:=hid hbody
 clear f1 hby hbc hn1 hsz hbody
 go_wp2_with fail
 have HPt:=hid (EN w1 none 0 0 [] (λh=>by simp at h) rfl (by omega) (128+a.kind) body (by omega) (by omega) (by omega))
 simp only[Nat.zero_add] at HPt
 refine HPt.mono ?_
 rintro e w2 ⟨gp,cp',rfl,hgp,hrow,f2⟩
 have B2:=B1.fr f2 (by simp)
 have F2:=F1.trans f2
 have C2:=HC.fr F2 (by simp)
 have kc2:=cE w2.drew gp 0 (body.size+6) cp' (En.bytesOf (En.jy (128+a.kind) body)) (by rw[En.aK,En.dS]) (λk u hu=>Ax (128+a.kind) body (by omega) (by omega) (by omega) hrow.drew k u (by rw[En.cX] at hu;exact hu))
 have hfr:En.bytesOf (En.jy (128+a.kind) body)=En.bytesOf (En.bE a):=by rw[HBd];rfl
 rw[hfr] at kc2
 clear hfr kc1
 obtain⟨q0,q1,q2,q3,q4,q5,q6,q7⟩:=B2.cs8
 have d0:=C2.cell 0
 have d19:=C2.cell 19
 have d20:=C2.cell 20
 have d21:=C2.cell 21
 have d22:=C2.cell 22
 have d23:=C2.cell 23
 have d24:=C2.cell 24
 have d25:=C2.cell 25
 have d26:=C2.cell 26
 have d27:=C2.cell 27
 have d28:=C2.cell 28
 have z0:=C2.frozen 0
 have z19:=C2.frozen 19
 have z20:=C2.frozen 20
 have z21:=C2.frozen 21
 have z22:=C2.frozen 22
 have z23:=C2.frozen 23
 have z24:=C2.frozen 24
 have z25:=C2.frozen 25
 have z26:=C2.frozen 26
 have z27:=C2.frozen 27
 have z28:=C2.frozen 28
 simp at q0 q1 q2 q3 q4 q5 q6 q7
 simp[bA] at d0 d19 d20 d21 d22 d23 d24 d25 d26 d27 d28
 have l2:=B2.lt
 have l3:=C2.lt
 have F2':=hid F2
 have HC2:=hid C2
 clear B2 F2 C2 hrow hgp t0
 go_wp2_with fail
 go_region
 go_wp2_with fail
 go_end0
 exact Eb HC2 F2'.out
theorem lE {a:M.aU}(h:M.bH a=true):(En.bE a).length<=301:=by
 have:=Rp.lF (Rp.kE h)
 unfold En.bE
 rw[En.dS,En.aK]
 omega
theorem mJ {l:List M.aU}(h:∀ a,a∈l->M.bH a=true):(l.flatMap En.bE).length<=301*l.length:=by
 induction l with
 | nil=>simp
 | cons q l ih =>
  have h1:=lE (h q (by simp))
  have h2:=ih λx hx=>h x (by simp[hx])
  simp only[List.flatMap_cons,List.length_append,List.length_cons]
  omega
structure jk (s:M.Srv)(i:Nat)(m:M.bT):Prop where
 s0:0<=m.seq
 s1:m.seq<=100
 t:m.todo.length<=62
 o:m.out.length<=62
 tq:∀ q,q∈m.todo->M.bF q=true
 oa:∀ a,a∈m.out->M.bH a=true
 st:(m.state=1/\(∀ q r,m.todo=q::r->((q.kind==1) != m.bound)=true))∨(m.state=2/\M.bF m.dh=true/\M.eo s.core m.task=true/\(m.task.can s.core i=true->M.fV s.core m.task i=true))∨(m.state=3/\M.bF m.dh=true/\M.bH m.cL=true)
theorem A8 {s:M.Srv}{i:Nat}{m:M.bT}(h:M.kL s i m=true):jk s i m:=by
 unfold M.kL at h
 simp only[Bool.and_eq_true,decide_eq_true_eq,List.all_eq_true] at h
 obtain⟨⟨⟨⟨h1,h2,h3,h4⟩,h5⟩,h6⟩,h7⟩:=h
 refine⟨h1,h2,h3,h4,h5,h6,?_⟩
 by_cases e1:m.state=1
 ·rw[if_pos e1] at h7
  refine .inl ⟨e1,λq r e=>?_⟩
  rw[e] at h7
  exact h7
 rw[if_neg e1] at h7
 by_cases e2:m.state=2
 ·rw[if_pos e2] at h7
  simp only[Bool.and_eq_true,Bool.or_eq_true,Bool.not_eq_true'] at h7
  obtain⟨⟨a,b⟩,c⟩:=h7
  refine .inr (.inl ⟨e2,a,b,λhc=>?_⟩)
  rcases c with c|c
  ·rw[hc] at c;cases c
  exact c
 rw[if_neg e2] at h7
 simp only[Bool.and_eq_true,decide_eq_true_eq] at h7
 obtain⟨⟨a,b⟩,c⟩:=h7
 exact .inr (.inr ⟨a,b,c⟩)
theorem qF (w:World)(B g i:Nat)(k:Cf)(xc:M.Core)(xp:Nat)(vc ve:Value)(bs:List Blk)(b:Blk)(hs:Holds w g 103 (dH k xc xp vc ve).toArray)(hc:Own w B 104 1 vc bs.length (flat cp bs))(hbi:bs[i]? = some b) :
  Calls prog 36 #[.pointer (some ⟨g,0,none⟩),.int .i64 i] w λe w'=>e = .returned (.pointer (some ⟨b.c,0,none⟩))/\w=w':=by
 obtain⟨gc,cc,hgc,hvc,hrc,hgcl,hcc⟩:=hc.cell lU rfl hbi
 subst hvc
 have m0:=hcc 0 _ (by omega) rfl
 have hil:(i:Int)<(bs.length:Int):=by have:=(List.getElem?_eq_some_iff.1 hbi).1;omega
 have c9:=hs.cell 9
 simp[dH,ew] at c9
 simp at m0
 clear hs hc hcc hrc
 go_enter func36,ntmps36
 go_wp2_with fail
 go_ret
 exact⟨rfl,rfl⟩
theorem ef (w:World)(B g xp i:Nat)(k:Cf)(bs:List Blk)(s:M.Srv)(vc ve:Value)(b:Blk)(m:M.bT)(x:Cx)(h:ft w B g xp k bs s vc ve)(hbi:bs[i]? = some b)(hmi:s.ag[i]? = some m)(hx:db w B xp k.room b i m x)(hm:jk s i m)(hr0:20006<=k.room)(hr1:k.room<=100000) :
  cA 43 #[.pointer (some ⟨g,0,none⟩),.int .i64 i] w (.bool (s.can i)):=by
 have hcan:s.can i=(if m.state=1 then !m.todo.isEmpty else if m.state=2 then m.task.can s.core i else decide (m.state=3)):=by
  unfold M.Srv.can
  rw[hmi]
 have HA:=hid (qF w B g i k s.core xp vc ve bs b h.cell h.ag hbi)
 have c11:=h.cell.cell 11
 have d0:=hx.cell.cell 0
 have d1:=hx.cell.cell 1
 have d2:=hx.cell.cell 2
 have d3:=hx.cell.cell 3
 have d19:=hx.cell.cell 19
 simp[dH,ew] at c11
 simp[bA] at d0 d1 d2 d3 d19
 have hbl:=hx.cell.lt
 rcases hm.st with⟨e1,_⟩|⟨e2,hq,hmc,_⟩|⟨e3,hq,hrp⟩
 ·rw[if_pos e1] at hcan
  have HRd:=hid (Se.xu w b.se b.pi _ _ _ m.todo hx.ka hx.inp hm.tq (by have:=hm.t;omega))
  rw[e1] at d0
  have HCn:=hid hcan
  generalize m.todo.isEmpty=em at *
  clear h hx hm hcan hmi
  go_enter func43,ntmps43
  go_wp2_with fail
  refine HA.mono ?_
  rintro e w1 ⟨rfl,rfl⟩
  go_wp2_with fail
  refine uu HRd λw2 f2=>?_
  go_wp2_with fail
  go_ret
  exact⟨by rw[HCn];rfl,f2⟩
 ·rw[if_neg (by omega),if_pos e2] at hcan
  obtain⟨ta,hta,hBt,htv,htk⟩:=hx.ta e2
  have HCn:=hid hcan
  have HTc:=hid (Tk.ef w B ta xp i m.task k s.core htk h.core hmc)
  rw[e2] at d0
  rw[htv] at d3
  generalize m.task.can s.core i=cn at *
  clear h hx hm hcan hmi htv htk
  go_enter func43,ntmps43
  go_wp2_with fail
  refine HA.mono ?_
  rintro e w1 ⟨rfl,rfl⟩
  go_wp2_with fail
  refine uu HTc λw2 f2=>?_
  go_wp2_with fail
  go_ret
  exact⟨by rw[HCn];rfl,f2⟩
 rw[if_neg (by omega),if_neg (by omega),decide_eq_true e3] at hcan
 have HCn:=hid hcan
 have ho:=mJ hm.oa
 have hol:=hm.o
 have hrl:=lE hrp
 have hsz:(eF m).size<=18700:=by unfold eF;rw[En.aK];omega
 obtain⟨hfr,_,_⟩:=hx.ans e3
 have hfz:x.fr.size<=301:=by rw[hfr,En.aK];exact hrl
 have HRm:=hid (λW (f:Fr [] w W)=>Pi.kD W b.po k.room (eF m) false (Holds.fr hx.fK f (by simp)) (by omega) (by omega) (by omega))
 have hge:¬ (k.room - (eF m).size:Int)<(x.fr.size:Int):=by omega
 rw[e3] at d0
 clear h hx hm hcan hmi ho hfr
 generalize (eF m).size=sz at *
 generalize hfs:x.fr=fb at *
 go_enter func43,ntmps43
 go_wp2_with fail
 refine HA.mono ?_
 rintro e w1 ⟨rfl,rfl⟩
 go_wp2_with fail
 go_quiet ((go_at_call 77;exact uh (HRm _ (by first|exact rZ.drewN _|exact rZ.drew|exact rZ))))
 go_wp2_with fail
 go_ret
 exact⟨by rw[HCn];rfl,rZ.drewN _⟩
theorem j5 {α:Type}{f:α->List Value} : ∀ {l:List α} {i:Nat} {b b':α},l[i]? = some b->f b'=f b->flat f (l.set i b')=flat f l
 | [],_,_,_,h,_=>by simp at h
 | a::l,0,b,b',h,e=>by
  simp at h
  subst h
  show f b'++flat f l=f a++flat f l
  rw[e]
 | a::l,i+1,b,b',h,e=>by
  show f a++flat f (l.set i b')=f a++flat f l
  rw[j5 (by simpa using h) e]
section
variable {w w':World} {B g xp i:Nat} {k:Cf} {bs:List Blk} {s:M.Srv} {vc ve ve':Value} {b b':Blk} {m m':M.bT} {x x':Cx} {xc':M.Core} {ev':List M.Ev} {Us:List TypeId} {S:List Nat} {room:Int} {who:Int}
theorem db.qH (h:db w B xp room b who m x):∀ y,y∈b.all->y<w.heap.size:=by
 intro y hy
 simp only[Blk.all,List.mem_cons] at hy
 rcases hy with rfl|rfl|rfl|rfl|hy
 ·exact h.cell.lt
 ·exact h.ka.lt
 ·exact Holds.lt h.inp
 ·exact Holds.lt h.fK
 by_cases e:m.state=2
 ·obtain⟨ta,h1,_,_,vo,vi,h4⟩:=h.ta e
  rw[h1] at hy
  simp at hy
  subst hy
  exact h4.cell.lt
 rw[h.nta e] at hy
 simp at hy
theorem db.Cv (h:db w B xp room b who m x):∀ y,y∈b.all->∃ t,cB w y=some t/\t≠43/\t≠59/\t≠104/\t≠57/\t≠103/\t∉Ts:=by
 intro y hy
 simp only[Blk.all,List.mem_cons] at hy
 rcases hy with rfl|rfl|rfl|rfl|hy
 ·exact⟨_,h.cell.ty,by decide,by decide,by decide,by decide,by decide,by decide⟩
 ·exact⟨_,h.ka.ty,by decide,by decide,by decide,by decide,by decide,by decide⟩
 ·exact⟨_,Holds.ty h.inp,by decide,by decide,by decide,by decide,by decide,by decide⟩
 ·exact⟨_,Holds.ty h.fK,by decide,by decide,by decide,by decide,by decide,by decide⟩
 by_cases e:m.state=2
 ·obtain⟨ta,h1,_,_,vo,vi,h4⟩:=h.ta e
  rw[h1] at hy
  simp at hy
  subst hy
  exact⟨_,h4.cell.ty,by decide,by decide,by decide,by decide,by decide,by decide⟩
 rw[h.nta e] at hy
 simp at hy
theorem wO {y:Nat}(h:w.heap.size<=y):cB w y=none:=by
 unfold cB
 rw[Array.getElem?_eq_none h]
theorem ft.dh (h:ft w B g xp k bs s vc ve)(hbi:bs[i]? = some b)(hmi:s.ag[i]? = some m)(hx:db w B xp k.room b i m x)(hb:b'.c=b.c)(hpp:b'.po=b.po/\b'.pi=b.pi)(hsrv:Holds w' g 103 (dH k xc' xp vc ve').toArray)(hcore:aF w' B xp k xc')(hconn:db w' B xp k.room b' i m' x')(hevs:Ev.dz w' B ve' ev')
  (hf:FrX B Us S w w') (hU:∀ t,t∈104::CTs->t∉Us) (hS:∀ y,y∈S->y=g∨y∈b.all∨w.heap.size<=y) (hall:∀ y,y∈b'.all->y∈b.all∨w.heap.size<=y) :
  ft w' B g xp k (bs.set i b') ⟨xc',s.ag.set i m',ev'⟩ vc ve':=by
 have hil:=(List.getElem?_eq_some_iff.1 hbi).1
 have hsty:∀ y,y∈S->∀ t,cB w y=some t->t≠43/\t≠59/\t≠104:=λy hy t ht=>by
  rcases hS y hy with rfl|h'|h'
  ·rw[h.cell.ty] at ht
   cases ht
   exact⟨by decide,by decide,by decide⟩
  ·obtain⟨t',h1,h2,h3,h4,_⟩:=hx.Cv y h'
   rw[h1] at ht
   cases ht
   exact⟨h2,h3,h4⟩
  rw[wO h'] at ht
  cases ht
 refine⟨h.bg,h.bxp,hsrv,hcore,by simpa using h.len,?_,?_,?_,hevs,?_⟩
 ·rw[j5 hbi (show cp b'=cp b by simp[cp,hb]),List.length_set]
  exact h.ag.frx hf (hU _ (by simp)) λy hy hm=>(hsty y hm _ (h.ag.ty hy).1).2.2 rfl
 ·intro j b2 m2 hj hm2
  by_cases e:i=j
  ·subst e
   have hil2:=(List.getElem?_eq_some_iff.1 hmi).1
   have e1:(bs.set i b')[i]? = some b':=by simp[hil]
   have e2:(s.ag.set i m')[i]? = some m':=by simp[hil2]
   rw[e1] at hj
   simp only[] at hm2
   rw[e2] at hm2
   cases hj
   cases hm2
   exact⟨x',hconn⟩
  rw[List.getElem?_set_ne e] at hj hm2
  obtain⟨x2,hx2⟩:=h.each j b2 m2 hj hm2
  refine⟨x2,hx2.frx hf (λt ht=>hU t (by simp[ht])) λy hy=>⟨λhm=>?_,λt ht=>⟨(hsty y hy t ht).1,(hsty y hy t ht).2.1⟩⟩⟩
  rcases hS y hy with rfl|h'|h'
  ·obtain⟨t',h1,_,_,_,_,h5,_⟩:=hx2.Cv _ hm
   rw[h.cell.ty] at h1
   exact h5 (Option.some.inj h1).symm
  ·exact h.apart i j b b2 e hbi hj y h' hm
  have:=hx2.qH _ hm
  omega
 ·intro a c b1 b2 hac ha hc y hy hm
  by_cases ea:i=a
  ·subst ea
   rw[List.getElem?_set_ne hac] at hc
   have e1:(bs.set i b')[i]? = some b':=by simp[hil]
   rw[e1] at ha
   cases ha
   rcases hall y hy with h'|h'
   ·exact h.apart i c b b2 hac hbi hc y h' hm
   have hcl:=(List.getElem?_eq_some_iff.1 hc).1
   have hcm:s.ag[c]? = some (s.ag[c]'(by rw[<-h.len];exact hcl)):=List.getElem?_eq_getElem _
   obtain⟨x2,hx2⟩:=h.each c b2 _ hc hcm
   have:=hx2.qH _ hm
   omega
  rw[List.getElem?_set_ne ea] at ha
  by_cases ec:i=c
  ·subst ec
   have e1:(bs.set i b')[i]? = some b':=by simp[hil]
   rw[e1] at hc
   cases hc
   rcases hall y hm with h'|h'
   ·exact h.apart a i b1 b hac ha hbi y hy h'
   have hcl:=(List.getElem?_eq_some_iff.1 ha).1
   have hcm:s.ag[a]? = some (s.ag[a]'(by rw[<-h.len];exact hcl)):=List.getElem?_eq_getElem _
   obtain⟨x2,hx2⟩:=h.each a b1 _ ha hcm
   have:=hx2.qH _ hy
   omega
  rw[List.getElem?_set_ne ec] at hc
  exact h.apart a c b1 b2 hac ha hc y hy hm
 intro j b2 hj
 by_cases e:i=j
 ·subst e
  have e1:(bs.set i b')[i]? = some b':=by simp[hil]
  rw[e1] at hj
  cases hj
  rw[hpp.1,hpp.2]
  exact h.npo i b hbi
 rw[List.getElem?_set_ne e] at hj
 exact h.npo j b2 hj
theorem db.fr0 (h:db w B xp room b who m x)(hf:Fr [] w w'):db w' B xp room b who m x:=h.frx (Us:=[]) (S:=[]) (FrX.aA hf) (by simp) (by simp)
theorem ft.fr0 (h:ft w B g xp k bs s vc ve)(hf:Fr [] w w'):ft w' B g xp k bs s vc ve :=
 ⟨h.bg,h.bxp,h.cell.fr hf (by simp),h.core.fr0 hf,h.len,Own.fr0 h.ag hf,λi b m hb hm=>by
  obtain⟨x,hx⟩:=h.each i b m hb hm
  exact⟨x,hx.fr0 hf⟩,h.apart,h.evs.frx (FrX.aA (Ts:=[]) hf) (by simp) (by simp) (by simp),h.npo⟩
end
theorem nJ {q:M.Req}(h:M.bF q=true):q.ops.length<=8:=by
 have hs:=(Rq.iy h).1
 generalize q.kind=k at *
 generalize q.aR=a at *
 generalize q.col=b at *
 generalize q.uid=c at *
 generalize q.au=d at *
 generalize q.ck=e at *
 generalize q.cv=f at *
 generalize q.ops.length=g at *
 generalize q.token=i at *
 generalize q.aD=j at *
 generalize q.bj=l at *
 cases hs<;>omega
def gQ (W:World)(c:Nat)(s:Int)(q:M.Req)(v:Value):World:=(((((((((((((((W.setCell ⟨c,4,none⟩ (.int .i64 1)).setCell ⟨c,5,none⟩ (.int .i64 s)).setCell ⟨c,6,none⟩ (.int .i64 q.kind)).setCell ⟨c,7,none⟩ (.int .i64 q.kind)).setCell ⟨c,8,none⟩ (.string q.aR)).setCell ⟨c,9,none⟩ (.string q.col)).setCell ⟨c,10,none⟩ (.string q.uid)).setCell ⟨c,11,none⟩ (.string q.au)).setCell ⟨c,12,none⟩ (.int .i64 q.ck)).setCell ⟨c,13,none⟩ (.int .i64 q.cv)).setCell ⟨c,14,none⟩ v).setCell ⟨c,15,none⟩ (.int .i64 q.token)).setCell ⟨c,16,none⟩ (.int .i64 q.aD)).setCell ⟨c,17,none⟩ (.int .i64 q.bj)).setCell ⟨c,18,none⟩ (.int .i64 0))
theorem C7 {W:World}{c:Nat}{s:Int}{q:M.Req}{v:Value} : Fr [c] W (gQ W c s q v):=((((((((((((((((Fr.refl [c] W).setCell (p:=⟨c,4,none⟩) (by simp) _).setCell (p:=⟨c,5,none⟩) (by simp) _).setCell (p:=⟨c,6,none⟩) (by simp) _).setCell (p:=⟨c,7,none⟩) (by simp) _).setCell (p:=⟨c,8,none⟩) (by simp) _).setCell (p:=⟨c,9,none⟩) (by simp) _).setCell (p:=⟨c,10,none⟩) (by simp) _).setCell (p:=⟨c,11,none⟩) (by simp) _).setCell (p:=⟨c,12,none⟩) (by simp) _).setCell (p:=⟨c,13,none⟩) (by simp) _).setCell (p:=⟨c,14,none⟩) (by simp) _).setCell (p:=⟨c,15,none⟩) (by simp) _).setCell (p:=⟨c,16,none⟩) (by simp) _).setCell (p:=⟨c,17,none⟩) (by simp) _).setCell (p:=⟨c,18,none⟩) (by simp) _)
def eQ (x:Cx)(s:Int)(q:M.Req)(v:Value):Cx:={ x with pF:=1,seq:=s,kind:=q.kind,q:=q,vo:=v,err:=0 }
theorem uk {W:World}{t st s:Int}{q:M.Req}{v:Value}{b:Blk}{x:Cx}{ty:TypeId}(h:Holds W b.c ty (bA b st x).toArray):Holds (gQ W b.c s q v) b.c ty (bA b st (eQ x s q v)).toArray:=by
 have h:Holds W b.c ty (bA b st x).toArray:=h
 have:=(((((((((((((((h.set 4 (.int .i64 1)).set 5 (.int .i64 s)).set 6 (.int .i64 q.kind)).set 7 (.int .i64 q.kind)).set 8 (.string q.aR)).set 9 (.string q.col)).set 10 (.string q.uid)).set 11 (.string q.au)).set 12 (.int .i64 q.ck)).set 13 (.int .i64 q.cv)).set 14 v).set 15 (.int .i64 q.token)).set 16 (.int .i64 q.aD)).set 17 (.int .i64 q.bj)).set 18 (.int .i64 0))
 simpa[bA,gQ,eQ] using this
structure Rd (w W:World)(B g xp:Nat)(k:Cf)(bs:List Blk)(s:M.Srv)(vc ve:Value)(b:Blk)(m:M.bT)(x:Cx)(q:M.Req)(l:List M.Req)(vo:Value)(ev:List M.Ev):Prop where
 srv:Holds W g 103 (dH k s.core xp vc ve).toArray
 own:Own W B 104 1 vc bs.length (flat cp bs)
 con:Holds W b.c 112 (bA b 1 x).toArray
 ses:Se.eO W b.se b.pi (jX (m.bound||q.kind==1)) (m.seq+1)
 inp:Pi.bw W b.pi k.room (En.bytesOf (l.flatMap En.bU)) false
 fK:Pi.bw W b.po k.room (eF m) false
 ops:Ev.bD W B vo q.ops
 core:aF W B xp k s.core
 evs:Ev.dz W B ve ev
 frx:FrX B [57] (g::b.all) w W
theorem Rd.note {w W W':World}{B g xp:Nat}{k:Cf}{bs:List Blk}{s:M.Srv}{vc ve ve':Value}{b:Blk}{m:M.bT}{x:Cx}{q:M.Req}{l:List M.Req}{vo:Value}{ev ev':List M.Ev}(h:Rd w W B g xp k bs s vc ve b m x q l vo ev)
  (hs:Holds W' g 103 (dH k s.core xp vc ve').toArray) (he:Ev.dz W' B ve' ev') (hf:FrX B [57] [g] W W'):Rd w W' B g xp k bs s vc ve' b m x q l vo ev':=by
 have hn:∀ {y t:Nat} {cs:Array Value},Holds W y t cs->t≠103->y∉[g]:=λhy ht hm=>hy.ne h.srv ht (by simpa using hm)
 have hx:FrX B [57,103] [] W W':=(hf.mono (Ts:=[57,103]) (by simp) (λ_ h=>h)).jY (λz hz=>.inr (.inr ⟨103,by simp,by simp at hz;subst hz;exact h.srv.ty⟩))
 exact⟨hs,h.own.bf hx (by decide),h.con.frx hf (by decide) (hn h.con (by decide)),Holds.frx h.ses hf (by decide) (hn h.ses (by decide)),Holds.frx h.inp hf (by decide) (hn h.inp (by decide)),Holds.frx h.fK hf (by decide) (hn h.fK (by decide)),h.ops.bf hx (by decide),h.core.frx hx (by decide),he,h.frx.trans (hf.mono (λ_ h=>h) (by simp))⟩
theorem Rd.fr0 {w W W':World}{B g xp:Nat}{k:Cf}{bs:List Blk}{s:M.Srv}{vc ve:Value}{b:Blk}{m:M.bT}{x:Cx}{q:M.Req}{l:List M.Req}{vo:Value}{ev:List M.Ev}(h:Rd w W B g xp k bs s vc ve b m x q l vo ev)(hf:Fr [] W W'):Rd w W' B g xp k bs s vc ve b m x q l vo ev :=
 ⟨h.srv.fr hf (by simp),Own.fr0 h.own hf,h.con.fr hf (by simp),h.ses.fr hf (by simp),Holds.fr h.inp hf (by simp),Holds.fr h.fK hf (by simp),Own.fr0 h.ops hf,h.core.fr0 hf,h.evs.frx (FrX.aA (Ts:=[]) hf) (by simp) (by simp) (by simp),h.frx.trans (FrX.aA hf)⟩
theorem As {w w1:World}{B g xp i:Nat}{k:Cf}{bs:List Blk}{s:M.Srv}{vc ve:Value}{b:Blk}{m:M.bT}{x:Cx}{q:M.Req}{l:List M.Req}{vo:Value}(h:ft w B g xp k bs s vc ve)(hx:db w B xp k.room b i m x)(h1:m.state=1)
  (ho:Ev.bD w1 B vo q.ops) (hs:Se.eO w1 b.se b.pi (jX (m.bound||q.kind==1)) (m.seq+1)) (hp:Pi.bw w1 b.pi k.room (En.bytesOf (l.flatMap En.bU)) false) (hf:Fr [b.se,b.pi] w w1) (hcc:b.c∉[b.se,b.pi]) (hpo:b.po∉[b.se,b.pi]) :
  Rd w (gQ w1 b.c (m.seq+1) q vo) B g xp k bs s vc ve b m (eQ x (m.seq+1) q vo) q l vo s.events:=by
 have x1:FrX B [184,145] [] w w1:=FrX.aB hf (λy hy=>by
  simp at hy
  rcases hy with rfl|rfl
  ·exact hx.bse
  ·exact hx.bpi) (λy hy=>by
  simp at hy
  rcases hy with rfl|rfl
  ·exact⟨184,by simp,hx.ka.ty⟩
  exact⟨145,by simp,Holds.ty hx.inp⟩)
 have con1:=hx.cell.fr hf hcc
 have f2:Fr [b.c] w1 (gQ w1 b.c (m.seq+1) q vo):=C7
 have x2:FrX B [112] [] w1 (gQ w1 b.c (m.seq+1) q vo):=FrX.aB f2 (by simpa using hx.bc) (λy hy=>⟨112,by simp,by simp at hy;subst hy;exact con1.ty⟩)
 refine⟨(h.cell.frx x1 (by decide) (by simp)).frx x2 (by decide) (by simp),(h.ag.bf x1 (by decide)).bf x2 (by decide),?_,Holds.frx hs x2 (by decide) (by simp),Holds.frx hp x2 (by decide) (by simp),Holds.frx (Holds.fr hx.fK hf hpo) x2 (by decide) (by simp),ho.bf x2 (by decide),(h.core.frx x1 (by decide)).frx x2 (by decide),(h.evs.frx x1 (by decide) (by decide) (by decide)).frx x2 (by decide) (by decide) (by decide),?_⟩
 ·have:=uk (t:=0) (s:=m.seq+1) (q:=q) (v:=vo) con1
  rw[h1] at this
  exact this
 refine FrX.trans (FrX.bY hf (λy hy=>?_) |>.mono (λ_ h=>h) (by simp[Blk.all])) ((FrX.bY f2 (by simpa using hx.bc)).mono (λ_ h=>h) (by simp[Blk.all]))
 simp at hy
 rcases hy with rfl|rfl
 ·exact hx.bse
 exact hx.bpi
theorem oN {w':World}{g xp n:Nat}{k:Cf}{c:M.Core}{vc ve:Value}{b:Blk}{st sq:Int}{x:Cx}{q:M.Req}{v:Value}(h1:Holds w' g 103 (dH k c xp vc ve).toArray)(h2:Holds w' b.c 112 (bA b st x).toArray)(h3:Se.eO w' b.se b.pi tn sq)(hb:Holds w' n 37 (Ev.rqc q v).toArray) :
  w'.cell? ⟨g,8,none⟩=some (.pointer (some ⟨xp,0,none⟩))/\w'.cell? ⟨b.c,1,none⟩=some (.pointer (some ⟨b.se,0,none⟩))/\w'.cell? ⟨b.se,1,none⟩=some (.string tn)/\w'.cell? ⟨n,0,none⟩=some (.int .i64 q.kind)/\w'.cell? ⟨n,1,none⟩=some (.string q.aR)/\w'.cell? ⟨n,2,none⟩=some (.string q.col)/\w'.cell? ⟨n,3,none⟩=some (.string q.uid)/\w'.cell? ⟨n,4,none⟩=some (.string q.au)/\w'.cell? ⟨n,5,none⟩=some (.int .i64 q.ck)/\w'.cell? ⟨n,6,none⟩=some (.int .i64 q.cv)/\w'.cell? ⟨n,7,none⟩=some v/\w'.cell? ⟨n,8,none⟩=some (.int .i64 q.token)/\w'.cell? ⟨n,9,none⟩=some (.int .i64 q.aD)/\w'.cell? ⟨n,10,none⟩=some (.int .i64 q.bj) :=
 ⟨by simpa[dH,ew] using h1.cell 8,by simpa[bA] using h2.cell 1,by simpa using h3.cell 1,by simpa[Ev.rqc] using hb.cell 0,by simpa[Ev.rqc] using hb.cell 1,by simpa[Ev.rqc] using hb.cell 2,by simpa[Ev.rqc] using hb.cell 3,by simpa[Ev.rqc] using hb.cell 4,by simpa[Ev.rqc] using hb.cell 5,by simpa[Ev.rqc] using hb.cell 6,by simpa[Ev.rqc] using hb.cell 7,by simpa[Ev.rqc] using hb.cell 8,by simpa[Ev.rqc] using hb.cell 9,by simpa[Ev.rqc] using hb.cell 10⟩
theorem rG {w w':World}{B g xp n:Nat}{k:Cf}{bs:List Blk}{s:M.Srv}{vc ve:Value}{b:Blk}{m:M.bT}{x:Cx}{q:M.Req}{l:List M.Req}{vo v:Value}{ev:List M.Ev}(h:Rd w w' B g xp k bs s vc ve b m x q l vo ev)(htn:jX (m.bound||q.kind==1)=tn)(hb:Holds w' n 37 (Ev.rqc q v).toArray) :
  w'.cell? ⟨g,8,none⟩=some (.pointer (some ⟨xp,0,none⟩))/\w'.cell? ⟨b.c,1,none⟩=some (.pointer (some ⟨b.se,0,none⟩))/\w'.cell? ⟨b.se,1,none⟩=some (.string tn)/\w'.cell? ⟨n,0,none⟩=some (.int .i64 q.kind)/\w'.cell? ⟨n,1,none⟩=some (.string q.aR)/\w'.cell? ⟨n,2,none⟩=some (.string q.col)/\w'.cell? ⟨n,3,none⟩=some (.string q.uid)/\w'.cell? ⟨n,4,none⟩=some (.string q.au)/\w'.cell? ⟨n,5,none⟩=some (.int .i64 q.ck)/\w'.cell? ⟨n,6,none⟩=some (.int .i64 q.cv)/\w'.cell? ⟨n,7,none⟩=some v/\w'.cell? ⟨n,8,none⟩=some (.int .i64 q.token)/\w'.cell? ⟨n,9,none⟩=some (.int .i64 q.aD)/\w'.cell? ⟨n,10,none⟩=some (.int .i64 q.bj) :=
 oN h.srv h.con (by rw[<-htn];exact h.ses) hb
theorem xy {w w':World}{B g xp n:Nat}{k:Cf}{bs:List Blk}{s:M.Srv}{vc ve:Value}{b:Blk}{m:M.bT}{x:Cx}{q:M.Req}{l:List M.Req}{vo v u:Value}{ev:List M.Ev}(h:Rd w w' B g xp k bs s vc ve b m x q l vo ev)(htn:jX (m.bound||q.kind==1)=tn)(hb:Holds w' n 37 (Ev.rqc q v).toArray) :
  (w'.setCell ⟨b.c,3,none⟩ u).cell? ⟨g,8,none⟩=some (.pointer (some ⟨xp,0,none⟩))/\(w'.setCell ⟨b.c,3,none⟩ u).cell? ⟨b.c,1,none⟩=some (.pointer (some ⟨b.se,0,none⟩))/\(w'.setCell ⟨b.c,3,none⟩ u).cell? ⟨b.se,1,none⟩=some (.string tn)/\(w'.setCell ⟨b.c,3,none⟩ u).cell? ⟨n,0,none⟩=some (.int .i64 q.kind)/\(w'.setCell ⟨b.c,3,none⟩ u).cell? ⟨n,1,none⟩=some (.string q.aR)/\(w'.setCell ⟨b.c,3,none⟩ u).cell? ⟨n,2,none⟩=some (.string q.col)/\(w'.setCell ⟨b.c,3,none⟩ u).cell? ⟨n,3,none⟩=some (.string q.uid)/\(w'.setCell ⟨b.c,3,none⟩ u).cell? ⟨n,4,none⟩=some (.string q.au)/\(w'.setCell ⟨b.c,3,none⟩ u).cell? ⟨n,5,none⟩=some (.int .i64 q.ck)/\(w'.setCell ⟨b.c,3,none⟩ u).cell? ⟨n,6,none⟩=some (.int .i64 q.cv)/\(w'.setCell ⟨b.c,3,none⟩ u).cell? ⟨n,7,none⟩=some v/\(w'.setCell ⟨b.c,3,none⟩ u).cell? ⟨n,8,none⟩=some (.int .i64 q.token)/\(w'.setCell ⟨b.c,3,none⟩ u).cell? ⟨n,9,none⟩=some (.int .i64 q.aD)/\(w'.setCell ⟨b.c,3,none⟩ u).cell? ⟨n,10,none⟩=some (.int .i64 q.bj) :=
 oN (x:={ x with tv:=u }) (h.srv.far (h.srv.ne h.con (by decide)) _) (by simpa[bA] using h.con.set 3 u) (by rw[<-htn];exact h.ses.far (h.ses.ne h.con (by decide)) _) (hb.far (hb.ne h.con (by decide)) _)
theorem ue {w W w6:World}{B g xp i:Nat}{k:Cf}{bs:List Blk}{s:M.Srv}{vc ve ve':Value}{b:Blk}{m:M.bT}{x:Cx}{q:M.Req}{l:List M.Req}{vo:Value}(h:ft w B g xp k bs s vc ve)(hbi:bs[i]? = some b)(hmi:s.ag[i]? = some m)(hx:db w B xp k.room b i m x)
  (h1:m.state=1) (htd:m.todo=q::l) (hq:M.bF q=true) (hk:q.kind=1) (R:Rd w W B g xp k bs s vc ve' b m (eQ x (m.seq+1) q vo) q l vo (s.events++[⟨1,i,m.seq+1,{ kind:=0 }⟩]++[⟨2,i,m.seq+1,{ kind:=q.kind }⟩]))
  (hc:Holds w6 b.c 112 (bA b 3 { eQ x (m.seq+1) q vo with fr:=En.bytesOf (En.bE { kind:=q.kind }),rp:={ kind:=q.kind },vi:=.slice none 0 0,last:=false }).toArray) (hf:Fr [b.c] W w6) :
  ∃ bs' ve',ft w6 B g xp k bs' (s.pick i) vc ve'/\FrX B (57::Ts) (g::b.all) w w6:=by
 have hp:s.pick i=⟨s.core,s.ag.set i { m with todo:=l,seq:=m.seq+1,dh:=q,bound:=true,state:=3,cL:={ kind:=1 } },s.events++[⟨1,i,m.seq+1,{ kind:=0 }⟩]++[⟨2,i,m.seq+1,{ kind:=q.kind }⟩]⟩:=by
  unfold M.Srv.pick
  simp[hmi,M.Srv.can,h1,htd,hk]
 have x6:FrX B [112] [] W w6:=FrX.aB hf (by simpa using hx.bc) (λy hy=>⟨112,by simp,by simp at hy;subst hy;exact R.con.ty⟩)
 have hfx:FrX B (57::Ts) (g::b.all) w w6:=(R.frx.mono (by simp) (λ_ h=>h)).trans ((FrX.bY hf (by simpa using hx.bc)).mono (λ_ h=>h) (by simp[Blk.all]))
 have hb:(m.bound||(q.kind==1))=true:=by simp[hk]
 have hnc:∀ {y t:Nat} {cs:Array Value},Holds W y t cs->t≠112->Holds w6 y t cs:=λhy ht=>hy.frx x6 (by simpa using ht) (by simp)
 rw[hp]
 refine⟨_,ve',h.dh (b':=b) hbi hmi hx rfl ⟨rfl,rfl⟩ (hnc R.srv (by decide)) (R.core.frx x6 (by decide)) (x':={ eQ x (m.seq+1) q vo with fr:=En.bytesOf (En.bE { kind:=q.kind }),rp:={ kind:=q.kind },vi:=.slice none 0 0,last:=false }) ?_ (R.evs.frx x6 (by decide) (by decide) (by decide)) hfx (by decide) (λy hy=>by
  rcases List.mem_cons.1 hy with h'|h'
  ·exact .inl h'
  exact .inr (.inl h')) (λy hy=>.inl hy),hfx⟩
 refine⟨hx.bc,hx.bse,hx.bpi,hx.bpo,hc,by have:=hnc R.ses (by decide);rw[hb] at this;exact this,hnc R.inp (by decide),hnc R.fK (by decide),λe=>by simp at e,λ_=>⟨rfl,rfl,rfl,R.ops.bf x6 (by decide),Nat.le_trans (nJ hq) (by omega)⟩,λ_=>hx.nta (by omega),λe=>by simp at e,λ_=>⟨by rw[hk],by rw[hk],Own.nil _ _ _ _,by simp,rfl⟩⟩
theorem xx {w W w6:World}{B g xp i ta:Nat}{k:Cf}{bs:List Blk}{s:M.Srv}{vc ve ve':Value}{b:Blk}{m:M.bT}{x:Cx}{q:M.Req}{l:List M.Req}{vo:Value}(h:ft w B g xp k bs s vc ve)(hbi:bs[i]? = some b)(hmi:s.ag[i]? = some m)(hx:db w B xp k.room b i m x)
  (h1:m.state=1) (htd:m.todo=q::l) (hq:M.bF q=true) (hk:¬ q.kind=1) (hbd:m.bound=true) (hB:B<=w.heap.size) (R:Rd w W B g xp k bs s vc ve' b m (eQ x (m.seq+1) q vo) q l vo (s.events++[⟨1,i,m.seq+1,{ kind:=0 }⟩]))
  (hta:w.heap.size<=ta) (hT:Tk.cU W B ta xp i (M.Task.start s.core q)) (hw:w6=(W.setCell ⟨b.c,3,none⟩ (.pointer (some ⟨ta,0,none⟩))).setCell ⟨b.c,0,none⟩ (.int .i64 2)) :
  ∃ bs' ve',ft w6 B g xp k bs' (s.pick i) vc ve'/\FrX B (57::Ts) (g::b.all) w w6:=by
 have hp:s.pick i=⟨s.core,s.ag.set i { m with todo:=l,seq:=m.seq+1,dh:=q,task:=M.Task.start s.core q,state:=2 },s.events++[⟨1,i,m.seq+1,{ kind:=0 }⟩]⟩:=by
  unfold M.Srv.pick
  simp[hmi,M.Srv.can,h1,htd,hk]
 have hf:Fr [b.c] W w6:=by rw[hw];exact(rZ.setCell (p:=⟨b.c,3,none⟩) (by simp) _).setCell (p:=⟨b.c,0,none⟩) (by simp) _
 have x6:FrX B [112] [] W w6:=FrX.aB hf (by simpa using hx.bc) (λy hy=>⟨112,by simp,by simp at hy;subst hy;exact R.con.ty⟩)
 have hfx:FrX B (57::Ts) (g::b.all) w w6:=(R.frx.mono (by simp) (λ_ h=>h)).trans ((FrX.bY hf (by simpa using hx.bc)).mono (λ_ h=>h) (by simp[Blk.all]))
 have hnc:∀ {y t:Nat} {cs:Array Value},Holds W y t cs->t≠112->Holds w6 y t cs:=λhy ht=>hy.frx x6 (by simpa using ht) (by simp)
 rw[hp]
 refine⟨_,ve',h.dh (b':={ b with ta:=some ta }) hbi hmi hx rfl ⟨rfl,rfl⟩ (hnc R.srv (by decide)) (R.core.frx x6 (by decide)) (x':={ eQ x (m.seq+1) q vo with tv:=.pointer (some ⟨ta,0,none⟩) }) ?_ (R.evs.frx x6 (by decide) (by decide) (by decide)) hfx (by decide) (λy hy=>by
  rcases List.mem_cons.1 hy with h'|h'
  ·exact .inl h'
  ·exact .inr (.inl h')) (λy hy=>by
  simp only[Blk.all,List.mem_cons,Option.toList,List.not_mem_nil,or_false] at hy
  rcases hy with rfl|rfl|rfl|rfl|rfl
  ·exact .inl (by simp[Blk.all])
  ·exact .inl (by simp[Blk.all])
  ·exact .inl (by simp[Blk.all])
  ·exact .inl (by simp[Blk.all])
  exact .inr hta),hfx⟩
 obtain⟨to_,ti,hTP⟩:=hT
 refine⟨hx.bc,hx.bse,hx.bpi,hx.bpo,?_,by have:=hnc R.ses (by decide);rw[hbd] at this;simpa[hbd] using this,hnc R.inp (by decide),hnc R.fK (by decide),λ_=>⟨ta,rfl,Nat.le_trans hB hta,rfl,to_,ti,hTP.frx x6 (by decide) (by decide) (by decide)⟩,λ_=>⟨rfl,rfl,rfl,R.ops.bf x6 (by decide),Nat.le_trans (nJ hq) (by omega)⟩,λe=>by simp at e,λ_=>hk,λe=>by simp at e⟩
 rw[hw]
 have:=(R.con.set 3 (.pointer (some ⟨ta,0,none⟩))).set 0 (.int .i64 2)
 simpa[bA,eQ] using this
theorem eS (w:World)(B g xp i:Nat)(k:Cf)(bs:List Blk)(s:M.Srv)(vc ve:Value)(b:Blk)(m:M.bT)(x:Cx)(q:M.Req)(l:List M.Req)(h:ft w B g xp k bs s vc ve)(hbi:bs[i]? = some b)(hmi:s.ag[i]? = some m)(hx:db w B xp k.room b i m x)(hm:jk s i m)(hmc:M.mayCore s.core=true)
  (h1:m.state=1) (htd:m.todo=q::l) (hB:B<=w.heap.size) (hev:s.events.length<=90000) (hG:Sh.Gl w) (hB4:4<=B) :
  Calls prog 44 #[.pointer (some ⟨g,0,none⟩),.int .i64 i,.pointer (some ⟨b.c,0,none⟩)] w λe w'=>e = .returned (.tuple #[])/\∃ bs' ve',ft w' B g xp k bs' (s.pick i) vc ve'/\FrX B (57::Ts) (g::b.all) w w':=by
 have hpo:b.po∉[b.se,b.pi]:=by
  have a1:=Holds.ne hx.fK hx.ka (by decide)
  have a2:=h.npo i b hbi
  simp[a1,a2]
 have hsl:=hx.ka.lt
 have hbl:=hx.cell.lt
 have hgl:=h.cell.lt
 have hqo:=hm.tq q (by simp[htd])
 have hcc:b.c∉[b.se,b.pi]:=by
  have a1:=hx.cell.ne hx.ka (by decide)
  have a2:=hx.cell.ne hx.inp (by decide)
  simp[a1,a2]
 have hqb:((q.kind==1) != m.bound)=true:=by
  rcases hm.st with⟨_,h'⟩|⟨e,_⟩|⟨e,_⟩
  ·exact h' q l htd
  ·omega
  omega
 have hin:=hx.inp
 unfold kB at hin
 rw[htd] at hin
 have HNx:=hid (Se.kJ w B b.se b.pi m.seq k.room m.bound q l hx.ka hin (λy hy=>hm.tq y (by rw[htd];exact hy)) (by have:=hm.t;rw[htd] at this;simp at this;omega) hqb hm.s0 (by have:=hm.s1;omega) hB hx.bse hx.bpi hG hB4)
 have c11:=h.cell.cell 11
 have d1:=hx.cell.cell 1
 simp[dH,ew] at c11
 simp[bA] at d1
 have HG:=hid hG
 have HH:=hid h
 have HX:=hid hx
 have HQ:=hid hqo
 have HM:=hid hm
 have HQB:=hid hqb
 have H1:=hid (And.intro h1 (And.intro hmi htd))
 clear h hx hqo hm hin hqb htd hG
 go_enter func44,ntmps44
 go_wp2_with fail
 refine HNx.mono ?_
 rintro e w1 ⟨vo,rfl,ho1,hs1,hp1,f1⟩
 obtain⟨oa,oc,hvo⟩:=Own.form ho1
 subst hvo
 have R1:=hid (As HH HX h1 ho1 hs1 hp1 f1 hcc hpo)
 have C1:=hid (HX.cell.fr f1 hcc)
 have d4:=C1.cell 4
 have d5:=C1.cell 5
 have d6:=C1.cell 6
 have d7:=C1.cell 7
 have d8:=C1.cell 8
 have d9:=C1.cell 9
 have d10:=C1.cell 10
 have d11:=C1.cell 11
 have d12:=C1.cell 12
 have d13:=C1.cell 13
 have d14:=C1.cell 14
 have d15:=C1.cell 15
 have d16:=C1.cell 16
 have d17:=C1.cell 17
 have d18:=C1.cell 18
 have z4:=C1.frozen 4
 have z5:=C1.frozen 5
 have z6:=C1.frozen 6
 have z7:=C1.frozen 7
 have z8:=C1.frozen 8
 have z9:=C1.frozen 9
 have z10:=C1.frozen 10
 have z11:=C1.frozen 11
 have z12:=C1.frozen 12
 have z13:=C1.frozen 13
 have z14:=C1.frozen 14
 have z15:=C1.frozen 15
 have z16:=C1.frozen 16
 have z17:=C1.frozen 17
 have z18:=C1.frozen 18
 simp[bA] at d4 d5 d6 d7 d8 d9 d10 d11 d12 d13 d14 d15 d16 d17 d18
 have hbl1:=C1.lt
 simp only[Se.gM]
 clear ho1 hs1 hp1 f1 c11 d1
 go_upto_region 3 with fail
 obtain⟨W2,hW2⟩:∃ W2,W2=gQ w1 b.c (m.seq+1) q (.slice oa q.ops.length oc):=⟨_,rfl⟩
 rw[<-hW2] at R1
 simp only[gQ] at hW2
 rw[<-hW2]
 clear hW2 d4 z4 d5 z5 d6 z6 d7 z7 d8 z8 d9 z9 d10 z10 d11 z11 d12 z12 d13 z13 d14 z14 d15 z15 d16 z16 d17 z17 d18 z18
 have d4:=R1.con.cell 4
 have d5:=R1.srv.lt
 simp[bA,eQ] at d4
 have hB2:B<=W2.heap.size:=Nat.le_trans hB R1.frx.size
 have HNt:=hid (kI W2 B g xp i k s.core bs b vc ve (.slice none 0 0) 1 1 _ _ _ { kind:=0 } s.events hB2 HH.bg R1.srv R1.own hbi R1.con R1.ses rfl R1.ops (Nat.le_trans (nJ HQ.out) (by omega)) R1.evs (Own.nil _ _ _ _) (by simp) (by omega))
 simp only[Ev.rsc,eQ] at HNt
 go_wp2_with fail
 refine HNt.mono ?_
 rintro e w3 ⟨rfl,ve3,hs3,he3,f3⟩
 have R3:=hid (R1.note hs3 he3 f3)
 clear hs3 he3 f3 d4 d5
 obtain⟨hk1,hk2⟩:=Rq.bd (Rq.iy HQ).1
 have hb11:(q.kind==11)=false:=by
  have:¬ q.kind=11:=by omega
  simpa using this
 have d4:=R3.con.cell 4
 have d7:=R3.con.cell 7
 have d8:=R3.con.cell 8
 have d9:=R3.con.cell 9
 have d10:=R3.con.cell 10
 have d11:=R3.con.cell 11
 have d12:=R3.con.cell 12
 have d13:=R3.con.cell 13
 have d14:=R3.con.cell 14
 have d15:=R3.con.cell 15
 have d16:=R3.con.cell 16
 have d17:=R3.con.cell 17
 simp[bA,eQ] at d4 d7 d8 d9 d10 d11 d12 d13 d14 d15 d16 d17
 have hrl3:=R3.con.lt
 by_cases hk:q.kind=1
 ·have hkb:(q.kind==1)=true:=by simpa using hk
  have HK:=hid hk
  clear hk
  go_upto_region 11 with fail
  obtain⟨W4,hW4⟩:∃ W4,W4=(w3.alloc (.cells #[.int .i64 q.kind,.string q.aR,.string q.col,.string q.uid,.string q.au,.int .i64 q.ck,.int .i64 q.cv,.slice oa q.ops.length oc,.int .i64 q.token,.int .i64 q.aD,.int .i64 q.bj] 37)).alloc (.cells #[.int .i64 q.kind,.int .i64 0,.int .i64 0,.int .i64 0,.string ⟨#[]⟩,.int .i64 0,.bool false,.slice none 0 0] 55):=⟨_,rfl⟩
  have f4:Fr [] w3 W4:=by rw[hW4];exact(rZ.alloc _).alloc _
  have b6:=hid (show Holds W4 w3.heap.size 37 _ by rw[hW4];exact(Holds.new w3 _ _).alloc _)
  have b7:=hid (show Holds W4 (w3.heap.size+1) 55 _ by rw[hW4];exact aE (by simp))
  have R4:=hid (R3.fr0 f4)
  rw[<-hW4]
  clear hW4 f4 hrl3 d4 d7 d8 d9 d10 d11 d12 d13 d14 d15 d16 d17
  have HN2:=hid (kI W4 B g xp i k s.core bs b vc _ (.slice none 0 0) 1 2 _ _ _ { kind:=q.kind } _ (Nat.le_trans hB R4.frx.size) HH.bg R4.srv R4.own hbi R4.con R4.ses rfl R4.ops (Nat.le_trans (nJ HQ.out) (by omega)) R4.evs (Own.nil _ _ _ _) (by simp) (by simp;omega))
  simp only[Ev.rsc,eQ] at HN2
  obtain⟨r0,r1,r2,r3,r4,r5,r6,r7⟩:=b7.cs8
  simp at r0 r1 r2 r3 r4 r5 r6 r7
  go_wp2_with fail
  refine HN2.mono ?_
  rintro e w5 ⟨rfl,ve5,hs5,he5,f5⟩
  have hn5:∀ {y t:Nat} {cs:Array Value},Holds W4 y t cs->t≠103->t≠57->Holds w5 y t cs:=λhy ht h2=>hy.frx f5 (by simpa using h2) (λhm=>hy.ne R4.srv ht (by simpa using hm))
  have b65:=hid (hn5 b6 (by decide) (by decide))
  have b75:=hid (hn5 b7 (by decide) (by decide))
  have R5:=hid (R4.note hs5 he5 f5)
  clear hs5 he5 f5 hn5 r0 r1 r2 r3 r4 r5 r6 r7
  have HAn:=hid (fP w5 B g b (.slice none 0 0) 1 _ { kind:=q.kind } R5.con (Own.nil _ _ _ _) (by rw[HK];decide))
  simp only[Ev.rsc] at HAn
  obtain⟨r0,r1,r2,r3,r4,r5,r6,r7⟩:=b75.cs8
  have u0:=b65.cell 0
  simp at r0 r1 r2 r3 r4 r5 r6 r7 u0
  go_wp2_with fail
  refine HAn.mono ?_
  rintro e w6 ⟨rfl,hc6,f6⟩
  have HE:=hid (ue HH hbi H1.2.1 HX H1.1 H1.2.2 HQ HK R5 hc6 f6)
  clear hc6 f6
  go_wp2_with fail
  exact bodyPost_ret (results_none rfl _ _ _) rfl ⟨rfl,HE⟩
 have hkb:(q.kind==1)=false:=by simpa using hk
 go_upto_region 13 with fail
 have hbd:m.bound=true:=by have:=HQB.out;rw[hkb] at this;simpa using this
 obtain⟨W4,hW4⟩:∃ W4,W4=w3.alloc (.cells #[.int .i64 q.kind,.string q.aR,.string q.col,.string q.uid,.string q.au,.int .i64 q.ck,.int .i64 q.cv,.slice oa q.ops.length oc,.int .i64 q.token,.int .i64 q.aD,.int .i64 q.bj] 37):=⟨_,rfl⟩
 have f4:Fr [] w3 W4:=by rw[hW4];exact rZ.alloc _
 have b6:=hid (show Holds W4 w3.heap.size 37 (Ev.rqc q (.slice oa q.ops.length oc)).toArray by rw[hW4];exact Holds.new w3 _ _)
 have R4:=hid (R3.fr0 f4)
 rw[<-hW4]
 clear hW4 f4 hrl3 d4 d7 d8 d9 d10 d11 d12 d13 d14 d15 d16 d17
 have HTn:=hid (λ(W:World) (f:Fr [] W4 W)=>Se.mY W b.se b.pi _ _ (R4.ses.fr f (by simp)))
 have htn:jX (m.bound||q.kind==1)=tn:=by rw[hbd];rfl
 rw[htn] at HTn
 have HSt:=hid (λ(W:World) (f:Fr [] W4 W)=>Tk.wZ W B xp i k s.core q _ (R4.core.fr0 f) hmc HQ.out hk (Own.fr0 R4.ops f) (Nat.le_trans hB (Nat.le_trans R4.frx.size f.size)) (Nat.le_trans (nJ HQ.out) (by omega)) ((HG.frx R4.frx hB4).fr0 f))
 simp only[Ev.rqc] at HSt
 have hS:=rG (R4.fr0 rZ.drew) htn b6.drew
 have hrl4:=R4.con.lt
 have hn1:g≠b.c:=R4.srv.ne R4.con (by decide)
 have hn2:b.c≠g:=Ne.symm hn1
 have hn3:b.se≠b.c:=R4.ses.ne R4.con (by decide)
 have hn4:b.c≠b.se:=Ne.symm hn3
 have hn5:w3.heap.size≠b.c:=b6.ne R4.con (by decide)
 have hn6:b.c≠w3.heap.size:=Ne.symm hn5
 go_region_held3 (λw'=>w'.cell? ⟨g,8,none⟩=some (.pointer (some ⟨xp,0,none⟩))/\w'.cell? ⟨b.c,1,none⟩=some (.pointer (some ⟨b.se,0,none⟩))/\w'.cell? ⟨b.se,1,none⟩=some (.string tn)/\w'.cell? ⟨w3.heap.size,0,none⟩=some (.int .i64 q.kind)/\w'.cell? ⟨w3.heap.size,1,none⟩=some (.string q.aR)/\w'.cell? ⟨w3.heap.size,2,none⟩=some (.string q.col)/\w'.cell? ⟨w3.heap.size,3,none⟩=some (.string q.uid)/\w'.cell? ⟨w3.heap.size,4,none⟩=some (.string q.au)/\w'.cell? ⟨w3.heap.size,5,none⟩=some (.int .i64 q.ck)/\w'.cell? ⟨w3.heap.size,6,none⟩=some (.int .i64 q.cv)/\w'.cell? ⟨w3.heap.size,7,none⟩=some (.slice oa q.ops.length oc)/\w'.cell? ⟨w3.heap.size,8,none⟩=some (.int .i64 q.token)/\w'.cell? ⟨w3.heap.size,9,none⟩=some (.int .i64 q.aD)/\w'.cell? ⟨w3.heap.size,10,none⟩=some (.int .i64 q.bj)) (first|with_reducible exact hS|with_reducible exact hP|go_keep)
  (first
   | (go_at_call 81;refine(HTn _ (by first|exact rZ.drew|exact rZ.drewN _)).mono ?_;rintro e w5 ⟨rfl,rfl⟩)
   | (go_at_call 80;refine(HSt _ (by first|exact rZ.drew|exact rZ.drewN _)).mono ?_;rintro e w5 ⟨ta,rfl,hta,hT5,f5'⟩;have f5:Fr [] W4 w5:=(by first|exact((Fr.refl [] W4).drew.trans f5')|exact(((Fr.refl [] W4).drewN _).trans f5'));have hS:=rG (R4.fr0 f5) htn (b6.fr f5 (by simp));have hP:=xy (u:=.pointer (some ⟨ta,0,none⟩)) (R4.fr0 f5) htn (b6.fr f5 (by simp));have hz3:=(R4.con.fr f5 (by simp)).frozen 3;have hv3:=(R4.con.fr f5 (by simp)).cell 3;have hl3:=(R4.con.fr f5 (by simp)).lt;simp[bA,eQ] at hv3))
 all_goals
  have HE:=hid (xx (w6:=(w5.setCell ⟨b.c,3,none⟩ (.pointer (some ⟨ta,0,none⟩))).setCell ⟨b.c,0,none⟩ (.int .i64 2)) HH hbi H1.2.1 HX H1.1 H1.2.2 HQ hk hbd hB (R4.fr0 f5) (Nat.le_trans R4.frx.size hta) hT5 rfl)
  have hz0:=(R4.con.fr f5 (by simp)).frozen 0
  have hv0:=(R4.con.fr f5 (by simp)).cell 0
  simp[bA] at hv0
  clear hS hT5 f5 f5'
  go_wp2_with fail
  go_end0
  exact⟨rfl,HE⟩
end Sv
