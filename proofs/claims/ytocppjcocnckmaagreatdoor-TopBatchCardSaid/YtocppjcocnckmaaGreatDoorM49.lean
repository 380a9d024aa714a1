/- Walks. -/
import Derived.Test.YtocppjcocnckmaaGreatDoorM48
import Derived.Deep.MidRow
import Derived.Deep.RegionHeld3
set_option maxRecDepth 100000
set_option maxHeartbeats 8000000
set_option linter.all false
open Go.Lib (hid)
namespace Go.Proofs.YtocppjcocnckmaaGreatDoor
open Go.Proofs.Tryz
namespace Sv
open Go.RowKit Cr
theorem kX {w:World}{B:Nat}{ea:Option Addr}{ec:Nat}{L:List Ev.Raw}(h:Own w B 57 23 (.slice ea L.length ec) L.length (flat Ev.Raw.cells L)){j:Nat}{r:Ev.Raw}(hr:L[j]? = some r) :
  ∃ gq,ea=some ⟨gq,0,none⟩/\gq<w.heap.size/\w.rangeAt gq (j*23) r.cells:=by
 obtain⟨gq,cq,hgq,hv,hrow,hgl,hcell⟩:=h.cell Ev.vT rfl hr
 cases hv
 exact⟨gq,rfl,hgl,λi v hv=>hcell i v (by have:=(List.getElem?_eq_some_iff.1 hv).1;rw[Ev.vT] at this;exact this) hv⟩
section
variable {P:Program}
theorem cV {ops:Array Oper}{rest:List Oper}{o:Oper}{a:Act}{w:World}{Q:Exit->Act->World->Prop}(hgd:o.guard=none)(ty:TypeId)(x y:Operand)(ho:o.op = .store ty x y)
  (g:Nat) (cells:Array Value) (hx:a.eval x = .pointer (some ⟨g,0,none⟩)) (hy:a.eval y = .agg cells)
  (t:TypeId) (old:Array Value) (hg:w.heap[g]? = some (.cells old t (0,0))) (hi:(P.info? ty).map (·.size)=some cells.size)
  (hold:old.size=cells.size) (h1:cells.all (·.oneCell')=true)
  (h:∀ W,Holds W g t cells->Fr [g] w W->wpList P ops Q rest (a.put o.dst undef) W):wpList P ops Q (o::rest) a w :=
 wpList_store_row hgd ty x y ho g cells hx hy t old hg hi hold h1 (h _ (setRow_heap w g old _ t _ hg) ⟨rfl,rfl,rfl,by simp,λk _ hk=>setRow_other w g k _ (by simpa using hk)⟩)
end
theorem dL:(prog.info? 57).map (·.size)=some 23:=by kernel_rfl
def evC (kind conn seq:Int)(tt:ByteArray)(q:M.Req)(vo:Value)(a:M.aU)(vi:Value):Array Value:=#[.int .i64 kind,.int .i64 conn,.int .i64 seq,.string tt,.int .i64 q.kind,.string q.aR,.string q.col,.string q.uid,.string q.au,.int .i64 q.ck,.int .i64 q.cv,vo,.int .i64 q.token,.int .i64 q.aD,.int .i64 q.bj,.int .i64 a.kind,.int .i64 a.err,.int .i64 a.token,.int .i64 a.version,.string a.au,.int .i64 a.index,.bool a.more,vi]
theorem DO {w0 W W' w7:World}{B:Nat}{L:List Ev.Raw}{o v7:Value}{r:Ev.Raw}{news:List Value}{own7:Option Nat}(h0:w0.heap.size=B)(f0:Fr [] w0 W)(hown:Own W B 57 23 o L.length (flat Ev.Raw.cells L))(hat:∀ y∈L,y.At W B)(hr:r.At W B)(f:Fr [] W W')(hn:news=r.cells)
  (hs:Sl w7 57 23 v7 (L.length+1) (flat Ev.Raw.cells L++news) own7) (hf:Fr (ay o).toList W' w7) (ho:own7=ay o∨∃ g,own7=some g/\W'.heap.size<=g) (hm:0<1->∃ g,own7=some g) :
  Own w7 B 57 23 v7 (L++[r]).length (flat Ev.Raw.cells (L++[r]))/\(∀ y∈L++[r],y.At w7 B)/\Fr [] w0 w7:=by
 have hB:B<=W'.heap.size:=by rw[<-h0];exact(f0.trans f).size
 have hown':=Own.fr0 hown f
 have hb:∀ y,y∈(ay o).toList->cB W' y=some 57/\B<=y:=λy hy=>hown'.ty (by simpa using hy)
 obtain⟨oo,-⟩:=bn (B:=B) hB (λg hg=>(hown'.ty hg).2) hs ho (hm (by omega))
 have x7:FrX B [57] [] W' w7:=FrX.aB hf (λy hy=>(hb y hy).2) (λy hy=>⟨57,by simp,(hb y hy).1⟩)
 have e:flat Ev.Raw.cells (L++[r])=flat Ev.Raw.cells L++r.cells:=by rw[aP,bS]
 refine⟨by rw[e,<-hn];simpa using oo,λy hy=>?_,(f0.trans f).step hf (λy hy=>.inr (by rw[h0];exact(hb y hy).2))⟩
 have hy':y.At W B:=by
  rcases List.mem_append.1 hy with h|h
  ·exact hat y h
  simp at h
  subst h
  exact hr
 exact(hy'.frx (FrX.aA (Ts:=[]) f) (by simp) (by simp)).frx x7 (by decide) (by decide)
theorem Fo {w w':World}{B:Nat}{L:List Ev.Raw}(h:∀ y∈L,y.At w B)(hf:Fr [] w w'):∀ y∈L,y.At w' B:=λy hy=>(h y hy).frx (FrX.aA (Ts:=[]) hf) (by simp) (by simp)
theorem uS (w:World)(B g xp:Nat)(k:Cf)(s:M.Srv)(h:dx w B g xp k s)(hev:s.events.length<=100000) :
  Calls prog 22 #[.pointer (some ⟨g,0,none⟩)] w λe w'=>∃ v,e = .returned v/\Ev.dz w' w.heap.size v s.events/\Fr [] w w':=by
 obtain⟨bs,vc,ve,h⟩:=h
 obtain⟨i3,hi,hz0,hz1,hz2⟩:=info_parts Lp.dU
 obtain⟨j3,ji,jz0,jz1,jz2⟩:=info_parts Ev.pf
 obtain⟨e3,ei,ez0,ez1,ez2⟩:=info_parts uG
 obtain⟨⟨L,hL,hown,hat⟩⟩:=h.evs
 obtain⟨ea,ec,hve⟩:=Own.form hown
 subst hve
 have c10:=h.cell.cell 10
 simp[dH,ew] at c10
 have hgl:=h.cell.lt
 obtain⟨Z,hZ⟩:∃ Z,w.heap.size=Z:=⟨_,rfl⟩
 have HO:=hid hown
 have HA:=hid hat
 have HL:=hid hL
 have hLl:L.length<=100000:=by rw[<-hL] at hev;simpa using hev
 have HZ:=hid hZ
 rw[hZ]
 clear h hat hown hL hev
 go_enter func22,ntmps22
 go_wp2_with fail
 go_loopw [3,11] (λo i wr=>∃ L':List Ev.Raw,L'.length<=L.length/\i = .int .i64 L'.length/\L'.map Ev.Raw.ev=(L.take L'.length).map Ev.Raw.ev/\Own wr Z 57 23 o L'.length (flat Ev.Raw.cells L')/\(∀ r∈L',r.At wr Z)/\Fr [] w wr) (λ_ i _=>L.length - (intOf i).toNat)
 case atStart=>exact⟨[],Nat.zero_le _,rfl,rfl,Own.nil _ _ _ _,by simp,rZ⟩
 obtain⟨L',hj,rfl,hmap,own',at',fr⟩:=hrel
 by_cases hlt:L'.length<L.length
 ·obtain⟨r,hr⟩:∃ r,L[L'.length]? = some r:=⟨_,List.getElem?_eq_getElem hlt⟩
  have hra:=HA.out r (List.mem_of_getElem? hr)
  obtain⟨kind,conn,seq,tt,q,vo,a,vi⟩:=r
  have hops:Ev.bD w B vo q.ops:=hra.ops
  have hits:Ev.aV w B vi a.items:=hra.its
  have hl1:q.ops.length<=20:=hra.l1
  have hl2:a.items.length<=20:=hra.l2
  obtain⟨oa,oc,rfl,-,-⟩:=Ev.Own.cells hops
  obtain⟨ia,ic,rfl,-,-⟩:=Ev.Own.cells hits
  obtain⟨gq,hea,hgq,hrng⟩:=kX (Own.fr0 HO fr) hr
  subst hea
  obtain⟨a',c',rfl⟩:=Own.form own'
  obtain⟨o,ho⟩:∃ o,L'.length*23=o:=⟨_,rfl⟩
  rw[ho] at hrng
  obtain⟨C,hC⟩:∃ C:List Value,C=[.int .i64 kind,.int .i64 conn,.int .i64 seq,.string tt,.int .i64 q.kind,.string q.aR,.string q.col,.string q.uid,.string q.au,.int .i64 q.ck,.int .i64 q.cv,.slice oa q.ops.length oc,.int .i64 q.token,.int .i64 q.aD,.int .i64 q.bj,.int .i64 a.kind,.int .i64 a.err,.int .i64 a.token,.int .i64 a.version,.string a.au,.int .i64 a.index,.bool a.more,.slice ia a.items.length ic]:=⟨_,rfl⟩
  have HR:=hid (show wr.rangeAt gq o C by rw[hC];exact hrng)
  have HCC:=hid hC
  clear hrng hC
  have hszZ:Z<=wr.heap.size:=by rw[<-HZ];exact fr.size
  have HJ:=hid (show (L'++[(⟨kind,conn,seq,tt,q,.slice oa q.ops.length oc,a,.slice ia a.items.length ic⟩:Ev.Raw)]).map Ev.Raw.ev=(L.take (L'.length+1)).map Ev.Raw.ev by
   rw[List.take_succ,hr,List.map_append,List.map_append,hmap]
   rfl)
  have HOps:=hid (Own.fr0 hops fr)
  have HIts:=hid (Own.fr0 hits fr)
  have HOwn:=hid own'
  have HAt:=hid at'
  have HF:=hid fr
  clear hr hra hops hits own' at' hmap
  have hj1:(L'.length:Int)<(L.length:Int):=by omega
  have hj2:L'.length<=100000:=by omega
  go_upto_region 5 with(first|(refine cV rfl 57 (.tmp 5) (.tmp 14) rfl _ C.toArray rfl rfl _ _ (heap_alloc_new _ _) (by rw[HCC];exact dL) (by simp[HCC.out]) (by simp[HCC.out,Value.oneCell']) ?_;intro W0 b0 fs0)|(refine wpList_load_mid rfl 57 (.tmp 13) rfl gq o rfl C _ HR underlying57 rfl (by rw[HCC];exact dL) ?_))
  obtain⟨N,hN⟩:∃ N,wr.heap.size=N:=⟨_,rfl⟩
  have HN:=hid hN
  have f0:Fr [] wr W0:=((Fr.refl [] wr).alloc _).step fs0 (λx hx=>.inr (by simp at hx;omega))
  rw[hN,HCC] at b0
  have b0:Holds W0 N 57 (evC kind conn seq tt q (.slice oa q.ops.length oc) a (.slice ia a.items.length ic)):=b0
  try simp only[hN]
  have hBW0:Z<=W0.heap.size:=Nat.le_trans hszZ f0.size
  have p11:=b0.cell 11
  have z11:=b0.frozen 11
  have l0:=b0.lt
  simp[evC] at p11
  have B0:=hid b0
  have O0:=hid (Own.fr0 HOps f0)
  have I0:=hid (Own.fr0 HIts f0)
  have F0:=hid f0
  clear fs0 f0 b0 hN HR
  obtain⟨_,_,he0,hc0,hl0⟩:=Ev.Own.cells O0
  cases he0
  go_upto_region 6 with(at_builtin;(refine Ev.dR Z rfl (.const (.slice none 0 0)) (.tmp 17) 35 rfl i3 _ 56 underlying35 hi hz0 hz1 hz2 rfl (by decide) rfl oa q.ops.length oc (flat Lp.cs q.ops) rfl hl0 hc0 (cm (λ_=>Lp.cQ) _) (by unfold maxLen;omega) (by omega) hBW0 ?_;intro v3 w3 o3 f3;obtain⟨a3,c3,hv3⟩:=Own.form o3;subst hv3;have b3:=B0.fr f3 (by simp);have p11:=b3.cell 11;have z11:=b3.frozen 11;have l0:=b3.lt;simp[evC] at p11))
  obtain⟨W4,hW4⟩:∃ W4,W4=w3.setCell ⟨N,11,none⟩ (.slice a3 q.ops.length c3):=⟨_,rfl⟩
  rw[<-hW4]
  have B4:=hid (show Holds W4 N 57 (evC kind conn seq tt q (.slice a3 q.ops.length c3) a (.slice ia a.items.length ic)) by rw[hW4];simpa[evC] using b3.set 11 (.slice a3 q.ops.length c3))
  have F4:=hid (show Fr [] wr W4 by rw[hW4];exact Ev.Fr.aw (p:=⟨N,11,none⟩) (F0.trans f3) (by rw[HN];exact Nat.le_refl _) _)
  have x4:FrX Z [57] [] w3 W4:=by rw[hW4];exact FrX.aB ((Fr.refl [N] _).setCell (by simp) _) (by have:=HN.out;simp;omega) (λy hy=>⟨57,by simp,by simp at hy;subst hy;exact b3.ty⟩)
  have O4:=hid (o3.bf x4 (by decide))
  have I4:=hid (Own.fr0 HIts F4)
  have hBW4:Z<=W4.heap.size:=Nat.le_trans hszZ F4.size
  clear hW4 x4 o3 f3 b3 hc0 hl0 hBW0 p11 z11 l0
  have q22:=B4.cell 22
  have y22:=B4.frozen 22
  have l4:=B4.lt
  simp[evC] at q22
  obtain⟨_,_,he1,hc1,hl1'⟩:=Ev.Own.cells I4
  cases he1
  go_upto_region 7 with(at_builtin;(refine Ev.dR Z rfl (.const (.slice none 0 0)) (.tmp 23) 53 rfl j3 _ 48 underlying53 ji jz0 jz1 jz2 rfl (by decide) rfl ia a.items.length ic (flat Ev.ic a.items) rfl hl1' hc1 (cm Ev.kj _) (by unfold maxLen;omega) (by omega) hBW4 ?_;intro v5 w5 o5 f5;obtain⟨a5,c5,hv5⟩:=Own.form o5;subst hv5;have b5:=B4.fr f5 (by simp);have q22:=b5.cell 22;have y22:=b5.frozen 22;have l4:=b5.lt;simp[evC] at q22))
  obtain⟨W6,hW6⟩:∃ W6,W6=w5.setCell ⟨N,22,none⟩ (.slice a5 a.items.length c5):=⟨_,rfl⟩
  rw[<-hW6]
  have B6:=hid (show Holds W6 N 57 (evC kind conn seq tt q (.slice a3 q.ops.length c3) a (.slice a5 a.items.length c5)) by rw[hW6];simpa[evC] using b5.set 22 (.slice a5 a.items.length c5))
  have F6:=hid (show Fr [] wr W6 by rw[hW6];exact Ev.Fr.aw (p:=⟨N,22,none⟩) (F4.trans f5) (by rw[HN];exact Nat.le_refl _) _)
  have x6:FrX Z [57] [] w5 W6:=by rw[hW6];exact FrX.aB ((Fr.refl [N] _).setCell (by simp) _) (by have:=HN.out;simp;omega) (λy hy=>⟨57,by simp,by simp at hy;subst hy;exact b5.ty⟩)
  have O6:=hid ((Own.fr0 O4 f5).bf x6 (by decide))
  have I6:=hid (o5.bf x6 (by decide))
  clear hW6 x6 o5 f5 b5 hc1 hl1' hBW4 q22 y22 l4
  have l6:=B6.lt
  have HONE:=hid (show ∀ u∈(Ev.Raw.cells ⟨kind,conn,seq,tt,q,.slice a3 q.ops.length c3,a,.slice a5 a.items.length c5⟩),u.oneCell'=true from Ev.Raw.At.one (w:=W6) (B:=Z) ⟨O6,I6,hl1,hl2⟩)
  go_wp2_with (first|(refine wpList_load_row rfl 57 (.tmp 5) rfl N rfl 57 #[.int .i64 kind,.int .i64 conn,.int .i64 seq,.string tt,.int .i64 q.kind,.string q.aR,.string q.col,.string q.uid,.string q.au,.int .i64 q.ck,.int .i64 q.cv,.slice a3 q.ops.length c3,.int .i64 q.token,.int .i64 q.aD,.int .i64 q.bj,.int .i64 a.kind,.int .i64 a.err,.int .i64 a.token,.int .i64 a.version,.string a.au,.int .i64 a.index,.bool a.more,.slice a5 a.items.length c5] (0,0) _ B6 underlying57 rfl dL ?_)|(at_builtin;(refine af rfl (.tmp 27) (.tmp 29) 47 rfl e3 _ 264 underlying47 ei ez0 ez1 ez2 rfl (by decide) (.slice a' L'.length c') (ay (.slice a' L'.length c')) rfl (Own.fr0 HOwn (F6.alloc _)).sl _ 1 1 _ rfl (by rfl) (Fm.Cells.bO (aE (by simp))) (λu hu=>HONE.out u hu) (by unfold maxLen;omega) (by omega) ?_;intro v7 w7 own7 hs7 hf7 ho7 hm7;obtain⟨P1,P2,P3⟩:=DO (r:=⟨kind,conn,seq,tt,q,.slice a3 q.ops.length c3,a,.slice a5 a.items.length c5⟩) HZ (HF.trans F6) (Own.fr0 HOwn F6) (Fo HAt F6) ⟨O6,I6,hl1,hl2⟩ (rZ.alloc _) rfl hs7 hf7 ho7 hm7;have PH:=hid (And.intro P1 (And.intro P2 P3));clear hs7 hf7 ho7 hm7 P1 P2 P3)))
  go_roundw
  case rel =>
   have hJ:=HJ.out
   refine⟨_,?_,?_,?_,PH.1,PH.2.1,PH.2.2⟩
   ·simp;omega
   ·simp
   rw[List.map_append] at hJ ⊢
   simpa[Ev.Raw.ev] using hJ
  simp[intOf];omega
 have hj1:¬ (L'.length:Int)<(L.length:Int):=by omega
 have hjj:L'.length=L.length:=by omega
 have HJJ:=hid hjj
 have HP:=hid (And.intro hmap (And.intro own' (And.intro at' fr)))
 clear hmap own' at' fr hjj
 go_wp2_with fail
 go_ret
 obtain⟨h1,h2,h3,h4⟩:=HP.out
 refine⟨_,rfl,⟨⟨L',?_,h2,h3⟩⟩,h4⟩
 rw[h1,HJJ,List.take_length,HL]
def STs:List TypeId:=103::104::57::(CTs++Ts)
theorem dx.frx {w w':World}{B g xp:Nat}{k:Cf}{s:M.Srv}{Vs:List TypeId}(h:dx w B g xp k s)(hf:FrX B Vs [] w w')(ht:∀ t,t∈STs->t∉Vs):dx w' B g xp k s:=by
 obtain⟨bs,vc,ve,h⟩:=h
 have hc:∀ t,t∈CTs->t∉Vs:=λt h=>ht t ((by decide:∀ t,t∈CTs->t∈STs) t h)
 refine⟨bs,vc,ve,h.bg,h.bxp,h.cell.frx hf (ht _ (by simp[STs])) (by simp),h.core.frx hf (λt h=>ht t ((by decide:∀ t,t∈Ts->t∈STs) t h)),h.len,h.ag.bf hf (ht _ (by simp[STs])),λi b m hb hm=>?_,h.apart,h.evs.frx hf (hc _ (by simp)) (hc _ (by simp)) (ht _ (by simp[STs])),h.npo⟩
 obtain⟨x,hx⟩:=h.each i b m hb hm
 exact⟨x,hx.frx hf hc (by simp)⟩
theorem dx.fr0 {w w':World}{B g xp:Nat}{k:Cf}{s:M.Srv}(h:dx w B g xp k s)(hf:Fr [] w w'):dx w' B g xp k s:=h.frx (FrX.aA (Ts:=[]) hf) (by simp)
def acs:M.Ac->List Value
 | .opn=>[.int .i64 1,.int .i64 0,.int .i64 0,.string ⟨#[]⟩]
 | .snd k q=>[.int .i64 2,.int .i64 k,.int .i64 0,.string (En.bytesOf (q.flatMap En.bU))]
 | .pck k=>[.int .i64 4,.int .i64 k,.int .i64 0,.string ⟨#[]⟩]
theorem ts {l:List M.Req}(h:∀ q,q∈l->M.bF q=true)(h62:l.length<=62):(En.bytesOf (l.flatMap En.bU)).size<=20006:=by
 rw[En.aK]
 have:=Se.mX h
 omega
theorem Fk (w:World)(B g xp:Nat)(k:Cf)(s:M.Srv)(a:M.Ac)(h:dx w B g xp k s)(hG:Sh.Gl w)(hB4:4<=B)(ha:M.pC k.ag s a)(hk:k.ag<=1000)(hr0:20006<=k.room)(hr1:k.room<=100000)(hB:B<=w.heap.size) :
  Calls prog 19 #[.pointer (some ⟨g,0,none⟩),.agg (acs a).toArray] w λe w'=>(∃ b,e = .returned (.bool b)/\(a = .opn->b=true))/\dx w' B g xp k (s.act a)/\FrX B Uo [] w w':=by
 have f0:Fr [] w (w.alloc (.cells (acs a).toArray 31)):=rZ.alloc _
 have F0:=hid f0
 have hu:∀ t,t∈Us->t∈Uo:=λt h=>by simp[Uo,h]
 cases a with
 | opn =>
  have HO:=hid (nK _ B g xp k s (h.fr0 f0) ha.1 hk ha.2 (by omega) (Nat.le_trans hB f0.size))
  clear h f0 ha hG
  simp only[acs] at HO F0 ⊢
  go_enter func19,ntmps19
  go_wp2_with fail
  refine HO.mono ?_
  rintro e w2 ⟨rfl,h2,x2⟩
  have H2:=hid (And.intro h2 x2)
  clear h2 x2
  go_wp2_with fail
  go_ret
  exact⟨⟨_,rfl,λ_=>rfl⟩,H2.1,(FrX.aA F0).trans H2.2⟩
 | snd i q =>
  obtain⟨m,hmi,h4,hlen,hok⟩:=ha
  have hz:=ts hok (by simpa using hlen)
  have HO:=hid (Ad _ B g xp i k s m q (h.fr0 f0) hmi h4 (by omega) hr1 (by show ((En.bytesOf ((m.todo++q).flatMap En.bU)).size:Int)<=k.room;omega))
  clear h f0 hG hz hok hlen
  simp only[acs] at HO F0 ⊢
  generalize En.bytesOf (q.flatMap En.bU)=sb at *
  go_enter func19,ntmps19
  go_wp2_with fail
  refine HO.mono ?_
  rintro e w2 ⟨rfl,h2,x2⟩
  have H2:=hid (And.intro h2 x2)
  clear h2 x2
  go_wp2_with fail
  go_ret
  exact⟨⟨_,rfl,λ_=>rfl⟩,H2.1,(FrX.aA F0).trans (H2.2.mono hu (λ_ h=>h))⟩
 | pck i =>
  have HO:=hid (rL _ B g xp i k s (h.fr0 f0) (hG.fr0 f0) hB4 ha.1 ha.2.1 (by omega) hr1 (Nat.le_trans hB f0.size) (by have:=ha.2.2;omega))
  clear h f0 ha hG
  simp only[acs] at HO F0 ⊢
  go_enter func19,ntmps19
  go_wp2_with fail
  refine HO.mono ?_
  rintro e w2 ⟨rfl,h2,x2⟩
  have H2:=hid (And.intro h2 x2)
  clear h2 x2
  go_wp2_with fail
  go_ret
  exact⟨⟨_,rfl,λe=>by cases e⟩,H2.1,(FrX.aA F0).trans (H2.2.mono hu (λ_ h=>h))⟩
theorem mF {s:ByteArray}(h:0<s.size):s.toList.isEmpty=false:=by
 rw[Lib.toList_data]
 cases hl:s.data.toList with
 | nil =>
  have e:s.data.toList.length=s.size:=by simp
  rw[hl] at e
  simp at e
  omega
 | cons a l=>rfl
theorem yn {xs:List Value}{i:Nat}{v:Value}(h:xs[i]? = some v):xs.set i v=xs:=by
 apply List.ext_getElem?
 intro j
 rw[List.getElem?_set]
 split
 ·next e =>
  subst e
  split
  ·exact h.symm
  next hn=>exact(List.getElem?_eq_none (by omega)).symm
 rfl
theorem zM (w:World)(B g xp i n:Nat)(k:Cf)(s:M.Srv)(m:M.bT)(bs bo go co:Nat)(so:ByteArray)(xs:List Value)(h:dx w B g xp k s)(hmi:s.ag[i]? = some m)(hz:(eF m).size<=40000)(h1:Holds w bs 75 #[.pointer (some ⟨g,0,none⟩)])(h2:Holds w bo 44 #[.slice (some ⟨go,0,none⟩) n co])(h3:Row w 9 1 go n co xs)(hxi:xs[i]? = some (.string so))(hin:i<n)(hg:B<=go)(hso:so.size<=100000000) :
  Calls prog 17 #[.int .i64 i,.int .i64 40000,.pointer (some ⟨bs,0,none⟩),.pointer (some ⟨bo,0,none⟩)] w λe w'=>(∃ b,e = .returned (.bool b))/\dx w' B g xp k { s with ag:=s.ag.set i { m with out:=[] } }/\Row w' 9 1 go n co (xs.set i (.string (so++eF m)))/\FrX B Us [go] w w':=by
 have HT:=hid (nc w B g xp i k s m 40000 h hmi (by omega) (by omega))
 have c1:=h1.cell 0
 have c2:=h2.cell 0
 simp at c1 c2
 have hl1:=h1.lt
 have hl2:=h2.lt
 have H1:=hid h1
 have H2:=hid h2
 have H3:=hid h3
 have HXI:=hid hxi
 obtain⟨S,hS⟩:∃ S,eF m=S:=⟨_,rfl⟩
 rw[hS] at HT hz ⊢
 obtain⟨sv,hsv⟩:∃ sv:M.Srv,{ s with ag:=s.ag.set i { m with out:=[] } }=sv:=⟨_,rfl⟩
 rw[hsv] at HT ⊢
 have hsum:so.size+S.size<=9223372036854775807:=by omega
 clear h h1 h2 h3 hmi hS hsv hxi
 go_enter func17,ntmps17
 go_wp2_with fail
 refine HT.mono ?_
 rintro e w2 ⟨rfl,q2,x2⟩
 have r2:=H3.frx x2 (by decide) (by simp)
 have Q2:=hid q2
 have X2:=hid x2
 have R2:=hid r2
 have b2:=H2.frx x2 (by decide) (by simp)
 have d2:=b2.cell 0
 have dl2:=b2.lt
 simp at d2
 have e0:w2.cell? ⟨go,i,none⟩=some (.string so):=r2.cell HXI
 have hin':(i:Int)<(n:Int):=by omega
 have ez0:=r2.frozen i
 have el:=r2.lt
 clear q2 x2 r2 b2 c1 c2
 rcases Nat.eq_zero_or_pos S.size with h0|h0
 ·obtain rfl:=Pr.wE h0
  clear h0
  go_wp2_with fail
  go_ret
  have e:so++(⟨#[]⟩:ByteArray)=so:=by
   apply ByteArray.ext
   simp
  rw[e,yn HXI]
  exact⟨⟨_,rfl⟩,Q2,R2,X2.mono (λ_ h=>h) (by simp)⟩
 have hne:=mF h0
 have h0':¬ S.size=0:=by omega
 clear h0
 go_wp2_with fail
 go_ret
 have hx:FrX B [9] [] w2 (w2.setCell ⟨go,i,none⟩ (.string (so++S))):=FrX.aB ((Fr.refl [go] _).setCell (by simp) _) (by simpa using hg) (λy hy=>⟨9,by simp,by simp at hy;subst hy;exact R2.ty⟩)
 exact⟨⟨_,rfl⟩,Q2.frx hx (by decide),by simpa using R2.set i (.string (so++S)),(X2.mono (λ_ h=>h) (by simp)).trans ((FrX.bY ((Fr.refl [go] _).setCell (by simp) _) (by simpa using hg)))⟩
theorem Fr.fR {w W W':World}{Z:Nat}{Us:List TypeId}(h:Fr [] w W)(hZ:w.heap.size=Z)(hf:FrX Z Us [] W W'):Fr [] w W' :=
 FrX.below (B:=Z) ((FrX.aA (Ts:=Us) (S:=[]) h).trans hf) (by omega)
structure Pl (k:Cf)(w W:World)(Z g xp a6 a8 a10 a11:Nat)(s:M.Srv)(v11 v10:Value)(n11 n10:Nat)(x11 x10:List Value):Prop where
 fr:Fr [] w W
 srv:dx W Z g xp k s
 c6:Holds W a6 49 #[.slice none 0 0,.slice none 0 0,.slice none 0 0,.slice none 0 0]
 c8:Holds W a8 75 #[.pointer (some ⟨g,0,none⟩)]
 c10:Holds W a10 49 #[.slice none 0 0,.slice none 0 0,v10,.slice none 0 0]
 c11:Holds W a11 44 #[v11]
 o11:Own W Z 9 1 v11 n11 x11
 o10:Own W Z 4 1 v10 n10 x10
section
variable {k:Cf} {w W W':World} {Z g xp a6 a8 a10 a11:Nat} {s s':M.Srv} {v11 v10 v':Value} {n11 n10 n':Nat} {x11 x10 x':List Value}
theorem Pl.fr0 (h:Pl k w W Z g xp a6 a8 a10 a11 s v11 v10 n11 n10 x11 x10)(hf:Fr [] W W'):Pl k w W' Z g xp a6 a8 a10 a11 s v11 v10 n11 n10 x11 x10 :=
 ⟨h.fr.trans hf,h.srv.fr0 hf,h.c6.fr hf (by simp),h.c8.fr hf (by simp),h.c10.fr hf (by simp),h.c11.fr hf (by simp),h.o11.fr0 hf,h.o10.fr0 hf⟩
theorem Pl.dh (hZ:w.heap.size=Z)(h:Pl k w W Z g xp a6 a8 a10 a11 s v11 v10 n11 n10 x11 x10)(hs:dx W' Z g xp k s')(hf:FrX Z Uo [] W W'):Pl k w W' Z g xp a6 a8 a10 a11 s' v11 v10 n11 n10 x11 x10 :=
 ⟨Fr.fR h.fr hZ hf,hs,h.c6.frx hf (by decide) (by simp),h.c8.frx hf (by decide) (by simp),h.c10.frx hf (by decide) (by simp),h.c11.frx hf (by decide) (by simp),h.o11.bf hf (by decide),h.o10.bf hf (by decide)⟩
theorem Pl.out (hZ:w.heap.size=Z)(h:Pl k w W Z g xp a6 a8 a10 a11 s v11 v10 n11 n10 x11 x10)(h11:Z<=a11)(f:Fr [] W W'){w7:World}{own7:Option Nat}(hs:Sl w7 9 1 v' n' x' own7)(hf:Fr (ay v11).toList W' w7)(ho:own7=ay v11∨∃ g,own7=some g/\W'.heap.size<=g)(hm:∃ g,own7=some g) :
  Holds w7 a11 44 #[v11]/\Pl k w (w7.setCell ⟨a11,0,none⟩ v') Z g xp a6 a8 a10 a11 s v' v10 n' n10 x' x10:=by
 have h1:=h.fr0 f
 have hb:∀ y,y∈(ay v11).toList->cB W' y=some 9/\Z<=y:=λy hy=>h1.o11.ty (by simpa using hy)
 have hBW:Z<=W'.heap.size:=by rw[<-hZ];exact h1.fr.size
 obtain⟨oo,-⟩:=bn (B:=Z) hBW (λg hg=>(h1.o11.ty hg).2) hs ho hm
 have x7:FrX Z [9] [] W' w7:=FrX.aB hf (λy hy=>(hb y hy).2) (λy hy=>⟨9,by simp,(hb y hy).1⟩)
 have c11:=h1.c11.frx x7 (by decide) (by simp)
 have x8:FrX Z [44] [] w7 (w7.setCell ⟨a11,0,none⟩ v'):=FrX.aB ((Fr.refl [a11] _).setCell (by simp) _) (by simpa using h11) (λy hy=>⟨44,by simp,by simp at hy;subst hy;exact c11.ty⟩)
 exact⟨c11,Fr.fR (Fr.fR h1.fr hZ x7) hZ x8,(h1.srv.frx x7 (by decide)).frx x8 (by decide),(h1.c6.frx x7 (by decide) (by simp)).frx x8 (by decide) (by simp),(h1.c8.frx x7 (by decide) (by simp)).frx x8 (by decide) (by simp),(h1.c10.frx x7 (by decide) (by simp)).frx x8 (by decide) (by simp),by simpa using c11.set 0 v',oo.bf x8 (by decide),(h1.o10.bf x7 (by decide)).bf x8 (by decide)⟩
theorem Pl.did (hZ:w.heap.size=Z)(h:Pl k w W Z g xp a6 a8 a10 a11 s v11 v10 n11 n10 x11 x10)(h10:Z<=a10)(hne:a6≠a10)(f:Fr [] W W'){w7:World}{own7:Option Nat}(hs:Sl w7 4 1 v' n' x' own7)(hf:Fr (ay v10).toList W' w7)(ho:own7=ay v10∨∃ g,own7=some g/\W'.heap.size<=g)(hm:∃ g,own7=some g) :
  Holds w7 a10 49 #[.slice none 0 0,.slice none 0 0,v10,.slice none 0 0]/\Pl k w (w7.setCell ⟨a10,2,none⟩ v') Z g xp a6 a8 a10 a11 s v11 v' n11 n' x11 x':=by
 have h1:=h.fr0 f
 have hb:∀ y,y∈(ay v10).toList->cB W' y=some 4/\Z<=y:=λy hy=>h1.o10.ty (by simpa using hy)
 have hBW:Z<=W'.heap.size:=by rw[<-hZ];exact h1.fr.size
 obtain⟨oo,-⟩:=bn (B:=Z) hBW (λg hg=>(h1.o10.ty hg).2) hs ho hm
 have x7:FrX Z [4] [] W' w7:=FrX.aB hf (λy hy=>(hb y hy).2) (λy hy=>⟨4,by simp,(hb y hy).1⟩)
 have c10:=h1.c10.frx x7 (by decide) (by simp)
 have x8:FrX Z [49] [] w7 (w7.setCell ⟨a10,2,none⟩ v'):=FrX.aB ((Fr.refl [a10] _).setCell (by simp) _) (by simpa using h10) (λy hy=>⟨49,by simp,by simp at hy;subst hy;exact c10.ty⟩)
 exact⟨c10,Fr.fR (Fr.fR h1.fr hZ x7) hZ x8,(h1.srv.frx x7 (by decide)).frx x8 (by decide),(h1.c6.frx x7 (by decide) (by simp)).far hne _,(h1.c8.frx x7 (by decide) (by simp)).frx x8 (by decide) (by simp),by simpa using c10.set 2 v',(h1.c11.frx x7 (by decide) (by simp)).frx x8 (by decide) (by simp),(h1.o11.bf x7 (by decide)).bf x8 (by decide),oo.bf x8 (by decide)⟩
end
theorem Gb:(prog.info? 9).map (λi=>(i.zero,i.size,i.bytes))=some (some (.string ByteArray.empty),1,16):=by kernel_rfl
theorem Gg:(prog.info? 4).map (λi=>(i.zero,i.size,i.bytes))=some (some (.bool false),1,1):=by kernel_rfl
theorem Ge:(prog.info? 3).map (λi=>(i.zero,i.size,i.bytes))=some (some (.int .i64 0),1,8):=by kernel_rfl
theorem dz.down {w:World}{B B':Nat}{v:Value}{l:List M.Ev}(h:Ev.dz w B v l)(hB:B'<=B):Ev.dz w B' v l:=by
 obtain⟨L,e,o,k⟩:=h
 exact⟨L,e,Rq.Own.down o hB,λr hr=>⟨Rq.Own.down (k r hr).ops hB,Rq.Own.down (k r hr).its hB,(k r hr).l1,(k r hr).l2⟩⟩
theorem CW (W:World)(tmps:Array Value)(g:Nat)(a b c d:Value)(hp:Holds W g 49 #[a,b,c,d])(h6:tmps[6]?.getD undef = .pointer (some ⟨g,0,none⟩))(h7:tmps[7]?.getD undef = .int .i64 0) :
  (results f9 tmps).run prog W = .ok (.tuple #[.agg #[a,b,c,d],.int .i64 0]) W:=by
 have hr:f9.results=#[.cell 6 49,.tmp 7]:=rfl
 have q0:=hp.cell 0
 have q1:=hp.cell 1
 have q2:=hp.cell 2
 have q3:=hp.cell 3
 simp at q0 q1 q2 q3
 simp[results,h6,h7,go_sem,q0,q1,q2,q3]
def iY (l:List M.aU):Value:=.string (En.bytesOf (l.flatMap En.bE))
theorem Ei (a:M.Ac):(acs a).length=4:=by cases a<;>rfl
theorem CA (a:M.Ac):∃ kd cn sb,acs a=[.int .i64 kd,.int .i64 cn,.int .i64 0,.string sb]/\kd≠6/\(kd=1->a = .opn)/\(a = .opn->kd=1):=by
 cases a with
 | opn=>exact⟨1,0,⟨#[]⟩,rfl,by decide,λ_=>rfl,λ_=>rfl⟩
 | snd k q=>exact⟨2,k,_,rfl,by decide,λh=>by omega,λh=>by cases h⟩
 | pck k=>exact⟨4,k,_,rfl,by decide,λh=>by omega,λh=>by cases h⟩
theorem pz (s:M.Srv)(a:M.Ac):(a = .opn->(s.act a).ag.length=s.ag.length+1)/\(a≠.opn->(s.act a).ag.length=s.ag.length):=by
 cases a with
 | opn=>exact⟨λ_=>by simp[M.Srv.act],λh=>absurd rfl h⟩
 | snd k q =>
  refine⟨λh=>by (cases h),λ_=>?_⟩
  unfold M.Srv.act M.Srv.send
  simp only[]
  split<;>simp
 | pck k=>exact⟨λh=>by (cases h),λ_=>(AH s k).2⟩
theorem kt (s:M.Srv):∀ A:List M.Ac,(s.cR A).ag.length<=s.ag.length+A.length
 | []=>Nat.le_refl _
 | a::A=>by
  have h1:=kt (s.act a) A
  have h2:=pz s a
  show ((s.act a).cR A).ag.length<=_
  simp only[List.length_cons]
  by_cases h:a = .opn
  ·have:=h2.1 h;omega
  have:=h2.2 h;omega
theorem uB {O:List (List M.aU)}{k:Nat}{o:List M.aU}{f:List M.aU->List M.aU}(h:O[k]? = some o):(O.modify k f).map iY=(O.map iY).set k (iY (f o)):=by
 apply List.ext_getElem?
 intro i
 rw[List.getElem?_map,List.getElem?_modify,List.getElem?_set]
 by_cases e:k=i
 ·subst e
  obtain⟨h1,h2⟩:=List.getElem?_eq_some_iff.1 h
  simp[h1,h2]
 simp[e]
theorem lL {x:M.Ost}{n L:Nat}(h0:∀ (i:Nat) o,x.2[i]? = some o->(o.flatMap En.bE).length<=L)(hr:∀ j,j<n->((M.cj x j).1.outs j).length<=62/\∀ a∈(M.cj x j).1.outs j,M.bH a=true):∀ j,j<=n->∀ (i:Nat) o,(M.cj x j).2[i]? = some o->(o.flatMap En.bE).length<=L+(if i<j then 20000 else 0)
 | 0,_=>λi o h=>by have:=h0 i o h;omega
 | j+1,hj=>λi o h=>by
  have ih:=lL h0 hr j (by omega)
  rw[M.ju] at h
  simp only[M.vM,List.getElem?_modify,Option.map_eq_map,Option.map_eq_some_iff] at h
  obtain⟨a,ha,rfl⟩:=h
  have h1:=ih i a ha
  by_cases e:j=i
  ·subst e
   obtain⟨h2,h3⟩:=hr j (by omega)
   have:=mJ h3
   rw[if_neg (Nat.lt_irrefl _)] at h1
   rw[if_pos rfl,List.flatMap_append,List.length_append,if_pos (Nat.lt_succ_self _)]
   omega
  rw[if_neg e]
  split at h1<;>split<;>omega
theorem mq {x:M.Ost}{n t:Nat}(h0:∀ (i:Nat) o,x.2[i]? = some o->o=[])(H:∀ j,j<t->M.mP n (M.bk n x j)):∀ j,j<=t->∀ (i:Nat) o,(M.bk n x j).2[i]? = some o->(o.flatMap En.bE).length<=20000*j
 | 0,_=>λi o h=>by rw[h0 i o h];simp
 | j+1,hj=>λi o h=>by
  have ih:=mq h0 H j (by omega)
  have:=lL (x:=(M.dp (M.bk n x j).1 n,(M.bk n x j).2)) ih (H j (by omega)).outs n (Nat.le_refl _) i o h
  split at this<;>omega
theorem nu (n:Nat)(x:M.Ost):∀ j,(M.bk n x j).1.ag.length=x.1.ag.length/\(M.bk n x j).2.length=x.2.length
 | 0=>⟨rfl,rfl⟩
 | j+1=>by
  have h:=nu n x j
  have h2:=M.tO n (M.bk n x j)
  exact⟨h2.1.trans h.1,h2.2.2.trans h.2⟩
section
variable {k:Cf} {w W W':World} {Z g xp a6 a8 a10 a11:Nat} {s s':M.Srv} {v10:Value} {n n10 go co:Nat} {x11 x11' x10:List Value}
theorem Pl.take (hZ:w.heap.size=Z)(hn:0<n)(h:Pl k w W Z g xp a6 a8 a10 a11 s (.slice (some ⟨go,0,none⟩) n co) v10 n n10 x11 x10)(hs:dx W' Z g xp k s')(hr:Row W' 9 1 go n co x11')(hf:FrX Z Us [go] W W'):Pl k w W' Z g xp a6 a8 a10 a11 s' (.slice (some ⟨go,0,none⟩) n co) v10 n n10 x11' x10:=by
 obtain⟨gg,cc,hz1,hz2,hrw⟩:=h.o11.pos hn
 injection hz2 with e1 _ e3
 cases e1
 have hty:∀ {g' t:Nat} {cs:Array Value},Holds W g' t cs->t≠9->g'∉[go]:=λhg ht hm=>by
  simp at hm
  subst hm
  have h1:=hrw.ty
  rw[hg.ty] at h1
  exact ht (Option.some.inj h1)
 refine⟨FrX.below (B:=Z) ((FrX.aA (Ts:=Us) (S:=[go]) h.fr).trans hf) (by omega),hs,h.c6.frx hf (by decide) (hty h.c6 (by decide)),h.c8.frx hf (by decide) (hty h.c8 (by decide)),h.c10.frx hf (by decide) (hty h.c10 (by decide)),h.c11.frx hf (by decide) (hty h.c11 (by decide)),.inr ⟨go,co,hz1,rfl,hr⟩,?_⟩
 refine h.o10.frx hf (by decide) λg' hg' hm=>?_
 simp at hm
 subst hm
 have h1:=hrw.ty
 rw[(h.o10.ty hg').1] at h1
 cases h1
end
structure Pf (k:Cf)(w W:World)(Z g xp a6 a8 a10 a11:Nat)(s:M.Srv)(vO v10:Value)(n n10:Nat)(xO x10:List Value):Prop where
 fr:Fr [] w W
 srv:dx W Z g xp k s
 c6:Holds W a6 49 #[.slice none 0 0,.slice none 0 0,.slice none 0 0,.slice none 0 0]
 c8:Holds W a8 75 #[.pointer (some ⟨g,0,none⟩)]
 c10:Holds W a10 49 #[vO,.slice none 0 0,v10,.slice none 0 0]
 c11:Holds W a11 44 #[vO]
 o11:Own W Z 9 1 vO n xO
 o10:Own W Z 4 1 v10 n10 x10
structure Pe (V W:World)(a10:Nat)(vO vS v10:Value)(j:Nat)(xS:List Value):Prop where
 fr:Fr [a10] V W
 c10:Holds W a10 49 #[vO,vS,v10,.slice none 0 0]
 oS:Own W V.heap.size 3 1 vS j xS
section
variable {k:Cf} {w V W W':World} {Z g xp a6 a8 a10 a11:Nat} {s:M.Srv} {vO vS v10 v':Value} {n j j' n10:Nat} {xO xS xS' x10:List Value}
theorem Pl.Gs (hZ:w.heap.size=Z)(h:Pl k w W Z g xp a6 a8 a10 a11 s vO v10 n n10 xO x10)(h10:Z<=a10)(hne:a6≠a10):Pf k w (W.setCell ⟨a10,0,none⟩ vO) Z g xp a6 a8 a10 a11 s vO v10 n n10 xO x10:=by
 have x8:FrX Z [49] [] W (W.setCell ⟨a10,0,none⟩ vO):=FrX.aB ((Fr.refl [a10] _).setCell (by simp) _) (by simpa using h10) (λy hy=>⟨49,by simp,by simp at hy;subst hy;exact h.c10.ty⟩)
 exact⟨Fr.fR h.fr hZ x8,h.srv.frx x8 (by decide),h.c6.far hne _,h.c8.frx x8 (by decide) (by simp),by simpa using h.c10.set 0 vO,h.c11.frx x8 (by decide) (by simp),h.o11.bf x8 (by decide),h.o10.bf x8 (by decide)⟩
theorem Pf.pe (h:Pf k w V Z g xp a6 a8 a10 a11 s vO v10 n n10 xO x10):Pe V V a10 vO (.slice none 0 0) v10 0 []:=⟨rZ,h.c10,Own.nil _ _ _ _⟩
theorem Pe.x (h:Pe V W a10 vO vS v10 j xS)(h10:Z<=a10)(ht:cB V a10=some 49):FrX Z [49] [] V W :=
 FrX.aB h.fr (by simpa using h10) (λy hy=>⟨49,by simp,by simp at hy;subst hy;exact ht⟩)
theorem Pe.st (h:Pe V W a10 vO vS v10 j xS)(hl:a10<V.heap.size)(f:Fr [] W W'){w7:World}{own7:Option Nat}(hs:Sl w7 3 1 v' j' xS' own7)(hf:Fr (ay vS).toList W' w7)(ho:own7=ay vS∨∃ g,own7=some g/\W'.heap.size<=g)(hm:∃ g,own7=some g) :
  Holds w7 a10 49 #[vO,vS,v10,.slice none 0 0]/\Pe V (w7.setCell ⟨a10,1,none⟩ v') a10 vO v' v10 j' xS':=by
 have h1:=h.oS.fr0 f
 have hb:∀ y,y∈(ay vS).toList->V.heap.size<=y:=λy hy=>(h1.ty (by simpa using hy)).2
 have hBW:V.heap.size<=W'.heap.size:=Nat.le_trans h.fr.size f.size
 obtain⟨oo,-⟩:=bn (B:=V.heap.size) hBW (λg hg=>(h1.ty hg).2) hs ho hm
 have c10:Holds w7 a10 49 #[vO,vS,v10,.slice none 0 0]:=(h.c10.fr f (by simp)).fr hf (λhy=>by have:=hb a10 hy;omega)
 refine⟨c10,((h.fr.trans (f.mono (by simp))).step hf (λy hy=>.inr (hb y hy))).trans ((Fr.refl [a10] _).setCell (by simp) _),by simpa using c10.set 1 v',oo.fr (S:=[a10]) ((Fr.refl [a10] _).setCell (by simp) _) (λg hg hy=>?_)⟩
 have:=(oo.ty hg).2
 simp at hy
 omega
end
theorem vQ (w:World)(c:M.Cfg)(O:c.Ok)(A:List M.Ac)(vl:Value)(Bl n t:Nat)(hl:Own w Bl 31 4 vl A.length (flat acs A))(hG:Sh.Gl w)(hA:A.length<=1000)(ht:t<=200)(hfit:M.Fits c.ag (M.s0 c) A)(hn:((M.s0 c).cR A).ag.length=n)(h0:0<n)(h12:n<=12)
  (hr:∀ j,j<t->M.mP n (M.bk n ((M.s0 c).cR A,List.replicate n []) j)) (he:(M.bk n ((M.s0 c).cR A,List.replicate n []) t).1.events.length<=4000) :
  Calls prog 9 #[.agg (cellsOf c),vl,.int .i64 t] w λe w'=>∃ vO vS vD vE xS xD,e = .returned (.tuple #[.agg #[vO,vS,vD,vE],.int .i64 0])/\Own w' w.heap.size 9 1 vO n ((M.bk n ((M.s0 c).cR A,List.replicate n []) t).2.map iY)/\Own w' w.heap.size 3 1 vS n xS/\Own w' w.heap.size 4 1 vD A.length xD/\Ev.dz w' w.heap.size vE (M.bk n ((M.s0 c).cR A,List.replicate n []) t).1.events/\Fr [] w w':=by
 obtain⟨sI,si,sz0,sz1,sz2⟩:=info_parts Gb
 obtain⟨bI,bi,bz0,bz1,bz2⟩:=info_parts Gg
 obtain⟨nI,ni,nz0,nz1,nz2⟩:=info_parts Ge
 obtain⟨Z,hZ⟩:∃ Z,w.heap.size=Z:=⟨_,rfl⟩
 obtain⟨al,cl,hvl⟩:=Own.form hl
 subst hvl
 have h4:4<=Z:=by have:=hG.size;omega
 have HL:=hid hl
 have HZ:=hid hZ
 have HG:=hid hG
 have HO:=hid (show 20006<=(kOf c).room/\(kOf c).room<=100000/\(kOf c).ag<=1000 from ⟨O.r0,Int.le_trans O.r1 (by decide),Int.le_trans O.n1 (by decide)⟩)
 have HN:=hid (λW (h:Z<=W.heap.size)=>bZ W Z h c O)
 have HFIT:=hid hfit
 have HR:=hid hr
 have HE:=hid he
 have HNN:=hid hn
 rw[hZ]
 clear hl hG O hfit hr he hn
 obtain⟨kc,hkc⟩:∃ kc,kOf c=kc:=⟨_,rfl⟩
 have HKC:=hid hkc
 rw[hkc] at HN HO
 have hcn:c.ag=kc.ag:=by rw[<-hkc];rfl
 have HCN:=hid hcn
 unfold cellsOf at *
 clear hkc hcn
 go_enter func9,ntmps9
 go_wp2_with fail
 refine(HN _ (by simp;omega)).mono ?_
 rintro e w1 ⟨g,xp,rfl,hg,hs1,f1⟩
 have c60:=hid (show Holds w1 (Z+1) 49 #[.slice none 0 0,.slice none 0 0,.slice none 0 0,.slice none 0 0] from by
  refine Holds.fr ?_ f1 (by simp)
  exact aE (by simp[hZ]))
 have F1:=hid (show Fr [] w w1 from ((rZ.alloc _).alloc _).trans f1)
 have HS1:=hid hs1
 clear hg hs1 f1
 have ht0:¬ (t:Int)<0:=by omega
 have ht1:¬ (10000:Int)<t:=by omega
 go_upto_region 9 with fail
 obtain⟨N1,hN1⟩:∃ N1,w1.heap.size=N1:=⟨_,rfl⟩
 have hZN:Z+1<N1:=by rw[<-hN1];exact c60.lt
 obtain⟨W2,hW2⟩:∃ W2,W2=((w1.alloc (.cells #[.pointer (some ⟨g,0,none⟩)] 75)).alloc (.cells #[.slice none 0 0,.slice none 0 0,.slice none 0 0,.slice none 0 0] 49)).alloc (.cells #[.slice none 0 0] 44):=⟨_,rfl⟩
 have P0:Pl kc w W2 Z g xp (Z+1) N1 (N1+1) (N1+1+1) (M.s0 c) (.slice none 0 0) (.slice none 0 0) 0 0 [] []:=by
  have f:Fr [] w1 W2:=by rw[hW2];exact((rZ.alloc _).alloc _).alloc _
  refine⟨F1.trans f,HS1.fr0 f,c60.fr f (by simp),?_,?_,?_,Own.nil _ _ _ _,Own.nil _ _ _ _⟩
  ·rw[hW2,<-hN1];exact((Holds.new _ _ _).alloc _).alloc _
  ·rw[hW2];exact(aE (by simp[hN1])).alloc _
  rw[hW2];exact aE (by simp[hN1])
 rw[<-hW2]
 try simp only[hN1]
 have HP0:=hid P0
 clear hW2 P0 ht0 ht1
 go_wp2_with fail
 go_loopw [38] (λi wr=>∃ (j m:Nat) (v11 v10:Value) (x10:List Value),i = .int .i64 j/\j<=A.length/\((M.s0 c).cR (A.take j)).ag.length=m/\Pl kc w wr Z g xp (Z+1) N1 (N1+1) (N1+1+1) ((M.s0 c).cR (A.take j)) v11 v10 m j (List.replicate m (iY [])) x10) (λi _=>A.length - (intOf i).toNat)
 case atStart=>exact⟨0,0,_,_,_,rfl,Nat.zero_le _,rfl,HP0⟩
 obtain⟨j,m,v11,v10,x10,rfl,hj,hm,P⟩:=hrel
 clear HP0
 obtain⟨a11,c11,hv11⟩:=P.o11.form
 subst hv11
 obtain⟨a10,c10,hv10⟩:=P.o10.form
 subst hv10
 rcases Nat.lt_or_ge j A.length with hlt|hge
 ·have hlt':(j:Int)<(A.length:Int):=by omega
  obtain⟨a,ha⟩:∃ a,A[j]? = some a:=⟨_,List.getElem?_eq_getElem hlt⟩
  obtain⟨kd,cn,sb,hac,hk6,hk1,hk2⟩:=CA a
  obtain⟨gl,cl',-,hvl,-,hgl,hc⟩:=(HL.fr0 P.fr).cell Ei rfl ha
  injection hvl with e1 _ e3
  subst e1
  subst e3
  have q0:=hc 0 _ (by omega) (by rw[hac];rfl)
  have q1:=hc 1 _ (by omega) (by rw[hac];rfl)
  have q2:=hc 2 _ (by omega) (by rw[hac];rfl)
  have q3:=hc 3 _ (by omega) (by rw[hac];rfl)
  simp only[Nat.add_zero] at q0
  have hact:M.pC kc.ag ((M.s0 c).cR (A.take j)) a:=by rw[<-HCN];exact HFIT j a ha
  have hsn:(M.s0 c).cR (A.take (j+1))=((M.s0 c).cR (A.take j)).act a:=by rw[List.take_succ,ha];exact M.iO _ _ _
  have hmm:=pz ((M.s0 c).cR (A.take j)) a
  rw[<-hsn,hm] at hmm
  have HD:=hid (λW (f:Fr [] wr W)=>Fk W Z g xp kc _ a (P.srv.fr0 f) ((HG.fr0 P.fr).fr0 f) h4 hact HO.2.2 HO.1 HO.2.1 (by rw[<-HZ];exact(P.fr.trans f).size))
  rw[hac,<-hsn] at HD
  have c8:=P.c8.cell 0
  have hl8:=P.c8.lt
  simp at c8
  have HP:=hid P
  have hm12:m<=1000:=by
   have:=kt (M.s0 c) (A.take j)
   rw[hm] at this
   simp[M.s0] at this
   omega
  obtain⟨wz,hwz⟩:∃ z,wr.heap.size=z:=⟨_,rfl⟩
  rw[hwz] at hl8 hgl
  have hk6b:(kd==6)=false:=by simpa using hk6
  have HM:=hid (And.intro hmm (And.intro hk1 hk2))
  generalize hss:(M.s0 c).cR (A.take (j+1))=s' at HD HM hsn
  have HSS:=hid hss
  clear hc hact P ha hac hmm hk1 hk2 hsn hss hm
  go_wp2_with fail
  have fa:Fr [] wr (wr.alloc (.cells #[.int .i64 kd,.int .i64 cn,.int .i64 0,.string sb] 31)):=rZ.alloc _
  have P1:=HP.fr0 fa
  have ba:Holds (wr.alloc (.cells #[.int .i64 kd,.int .i64 cn,.int .i64 0,.string sb] 31)) wz 31 #[.int .i64 kd,.int .i64 cn,.int .i64 0,.string sb]:=aE hwz
  refine(HD _ fa).mono ?_
  rintro e w3 ⟨⟨b,rfl,hb⟩,s3,x3⟩
  have HP3:=hid (P1.dh HZ s3 x3)
  have b3:=ba.frx x3 (by decide) (by simp)
  have d0:=b3.cell 0
  have hb3:=b3.lt
  simp at d0
  have HB:=hid hb
  try simp only[hwz]
  clear P1 fa s3 x3 ba q0 q1 q2 q3 c8 hl8 b3 HP HD hgl hb hwz
  rcases Int.decEq kd 1 with hk|hk
  focus
   have hkb:(kd==1)=false:=by simpa using hk
   go_upto_region 18 with fail
   have hm':s'.ag.length=m:=HM.1.2 (λe=>hk (HM.2.2 e))
   obtain⟨u11,hu⟩:∃ u,u=Value.slice a11 m c11:=⟨_,rfl⟩
   have HP4:=hid (show Pl kc w w3 Z g xp (Z+1) N1 (N1+1) (N1+1+1) s' u11 (.slice a10 j c10) m j (List.replicate m (iY [])) x10 from by rw[hu];exact HP3)
   obtain⟨m',hmm⟩:∃ z,z=m:=⟨_,rfl⟩
   rw[<-hmm] at HP4 hm'
   obtain⟨W4,hW4⟩:∃ z,z=w3:=⟨_,rfl⟩
   rw[<-hW4] at HP4 ⊢
   clear hu hmm hW4 HP3 d0 hb3
  rotate_left
  focus
   subst hk
   obtain rfl:b=true:=HB.out (HM.2.1 rfl)
   go_upto_region 17 with fail
   have k11:=HP3.c11.cell 0
   have z11:=HP3.c11.frozen 0
   have l11:=HP3.c11.lt
   simp at k11
   go_upto_region 18 with(at_builtin;(refine af rfl (.tmp 60) (.tmp 61) 44 rfl sI _ 16 underlying44 si sz0 sz1 sz2 rfl (by decide) (.slice a11 m c11) (ay (.slice a11 m c11)) rfl (HP3.o11.sl.fr0 (rZ.alloc _)) _ 1 1 [.string ⟨#[]⟩] rfl rfl (Cells.one (aE (cs:=#[.string ⟨#[]⟩]) (t:=9) (by simp))) (by simp[Value.oneCell']) (by unfold maxLen;omega) (by omega) ?_;intro v7 w7 own7 hs7 hf7 ho7 hm7;obtain⟨a7,c7,rfl⟩:=hs7.form;have HP4:=hid (HP3.out.out HZ.out (by omega) (rZ.alloc _) hs7 hf7 ho7 (hm7 (by omega)));clear hs7 hf7 ho7 hm7;have k11:=HP4.1.cell 0;have z11:=HP4.1.frozen 0;have l11:=HP4.1.lt;simp at k11))
   have hm':s'.ag.length=m+1:=HM.1.1 (HM.2.1 rfl)
   generalize w7.setCell ⟨N1+1+1,0,none⟩ (.slice a7 (m+1) c7)=W4 at *
   have HP4:=hid HP4.2
   rw[show List.replicate m (iY [])++[Value.string ⟨#[]⟩]=List.replicate (m+1) (iY []) from List.replicate_succ'.symm] at HP4
   generalize m+1=m' at *
   generalize Value.slice a7 m' c7=u11 at *
   clear k11 z11 l11 HP3 d0 hb3
  all_goals
   have k10:=HP4.c10.cell 2
   have z10:=HP4.c10.frozen 2
   have l10:=HP4.c10.lt
   simp at k10
   go_upto_region 19 with(at_builtin;(refine af rfl (.tmp 64) (.tmp 66) 46 rfl bI _ 1 underlying46 bi bz0 bz1 bz2 rfl (by decide) (.slice a10 j c10) (ay (.slice a10 j c10)) rfl (HP4.o10.sl.fr0 (rZ.alloc _)) _ 1 1 [_] rfl rfl (Cells.one (aE (cs:=#[_]) (t:=4) (by simp))) (by simp[Value.oneCell']) (by unfold maxLen;omega) (by omega) ?_;intro v8 w8 own8 hs8 hf8 ho8 hm8;obtain⟨a8,c8',rfl⟩:=hs8.form;have HP5:=hid (HP4.did HZ.out (by omega) (by omega) (rZ.alloc _) hs8 hf8 ho8 (hm8 (by omega)));clear hs8 hf8 ho8 hm8;have k10:=HP5.1.cell 2;have z10:=HP5.1.frozen 2;have l10:=HP5.1.lt;simp at k10))
   have HP5:=hid HP5.2
   clear k10 z10 l10 HP4
   go_wp2_with fail
   go_roundw
   case rel=>exact⟨j+1,m',_,_,_,by go_num,by omega,by rw[HSS];exact hm',by rw[HSS];exact HP5⟩
   simp[intOf];omega
 obtain rfl:j=A.length:=by omega
 rw[List.take_length] at P hm
 obtain rfl:n=m:=HNN.symm.trans hm
 obtain⟨go,co,hgoZ,hz,-⟩:=P.o11.pos h0
 injection hz with e1 _ e3
 subst e1
 subst e3
 obtain⟨co,hco⟩:∃ co,co=c11:=⟨_,rfl⟩
 subst hco
 have HPA:=hid P
 have HX:=hid (nu n ((M.s0 c).cR A,List.replicate n []))
 have HLN:=hid (mq (n:=n) (t:=t) (x:=((M.s0 c).cR A,List.replicate n [])) (λi o h=>by
  have:=List.mem_of_getElem? h
  simp at this
  exact this.2) HR)
 obtain⟨X,hX⟩:∃ X:M.Ost,((M.s0 c).cR A,List.replicate n [])=X:=⟨_,rfl⟩
 rw[hX] at HX HLN HR HE
 have HXE:=hid hX
 have hX1:X.1.ag.length=n:=by rw[<-hX];exact hm
 have hX2:X.2.length=n:=by rw[<-hX];simp
 have HPB:=hid (show Pl kc w wr Z g xp (Z+1) N1 (N1+1) (N1+1+1) X.1 (.slice (some ⟨go,0,none⟩) n co) (.slice a10 A.length c10) n A.length (X.2.map iY) x10 from by rw[<-hX];simpa using HPA.out)
 clear P hm HPA hX HNN HFIT HL HN
 go_wp2_with fail
 go_loopw [71] (λi wr=>∃ (j:Nat),i = .int .i64 j/\j<=t/\Pl kc w wr Z g xp (Z+1) N1 (N1+1) (N1+1+1) (M.bk n X j).1 (.slice (some ⟨go,0,none⟩) n co) (.slice a10 A.length c10) n A.length ((M.bk n X j).2.map iY) x10) (λi _=>t - (intOf i).toNat)
 case atStart=>exact⟨0,rfl,Nat.zero_le _,HPB⟩
 obtain⟨j,rfl,hj,P⟩:=hrel
 clear HPB
 have hxl:=HX.out j
 have k11:=P.c11.cell 0
 have l11:=P.c11.lt
 simp at k11
 rcases Nat.lt_or_ge j t with hlt|hge
 ·have hlt':(j:Int)<(t:Int):=by omega
  have HRJ:=hid (HR j hlt)
  have HLJ:=hid (HLN j hj)
  obtain⟨x,hx⟩:∃ x,M.bk n X j=x:=⟨_,rfl⟩
  rw[hx] at P HRJ HLJ hxl
  have HPX:=hid P
  have HXX:=hid hx
  have HXL:=hid hxl
  clear P hx hxl
  go_wp2_with fail
  go_loopw [75] (λi wr=>∃ (q:Nat),i = .int .i64 q/\q<=n/\Pl kc w wr Z g xp (Z+1) N1 (N1+1) (N1+1+1) (M.dp x.1 q) (.slice (some ⟨go,0,none⟩) n co) (.slice a10 A.length c10) n A.length (x.2.map iY) x10) (λi _=>n - (intOf i).toNat)
  case atStart=>exact⟨0,rfl,Nat.zero_le _,HPX⟩
  obtain⟨q,rfl,hq,P⟩:=hrel
  clear HPX k11 l11
  rcases Nat.lt_or_ge q n with hqn|hqn
  ·have hqn':(q:Int)<(n:Int):=by omega
   have c8:=P.c8.cell 0
   have l8:=P.c8.lt
   simp at c8
   have hev:=M.nF x.1 q
   have hev2:=HRJ.evs
   have HPK:=hid (rL wr Z g xp q kc _ P.srv (HG.fr0 P.fr) h4 (by rw[M.kf,HRJ.len];exact hqn) (HRJ.may q hqn) HO.1 HO.2.1 (by rw[<-HZ];exact P.fr.size) (by omega))
   rw[<-M.jz] at HPK
   have HP:=hid P
   generalize (M.dp x.1 q).can q=cn at HPK
   clear P hev hev2
   go_wp2_with fail
   refine HPK.mono ?_
   rintro e w11 ⟨rfl,s11,x11⟩
   have HP2:=hid (HP.dh HZ s11 (x11.mono (Ts:=Uo) (λt h=>by simp[Uo,h]) (λ_ h=>h)))
   clear s11 x11 c8 l8 HP HPK
   go_wp2_with fail
   go_roundw
   case rel=>exact⟨q+1,by go_num,by omega,HP2⟩
   simp[intOf];omega
  obtain rfl:q=n:=by omega
  have k11:=P.c11.cell 0
  have l11:=P.c11.lt
  simp at k11
  have HPX:=hid P
  obtain⟨y,hy⟩:∃ y:M.Ost,(M.dp x.1 q,x.2)=y:=⟨_,rfl⟩
  have HYY:=hid hy
  have HOU:=hid HRJ.outs
  have HLT:=hid (lL (x:=(M.dp x.1 q,x.2)) (n:=q) HLJ HRJ.outs)
  have HYL:=hid (λk=>M.mZ (M.dp x.1 q,x.2) k)
  have hy1:y.1.ag.length=q:=by rw[<-hy];simpa[M.kf] using HRJ.len
  have hy2:y.2.length=q:=by rw[<-hy];exact HXL.2.trans hX2
  rw[hy] at HOU HLT HYL
  have HPY:=hid (show Pl kc w wr Z g xp (Z+1) N1 (N1+1) (N1+1+1) y.1 (.slice (some ⟨go,0,none⟩) q co) (.slice a10 A.length c10) q A.length (y.2.map iY) x10 from by rw[<-hy];exact P)
  clear P hy HPX
  go_wp2_with fail
  go_loopw [84] (λi wr=>∃ (p:Nat),i = .int .i64 p/\p<=q/\Pl kc w wr Z g xp (Z+1) N1 (N1+1) (N1+1+1) (M.cj y p).1 (.slice (some ⟨go,0,none⟩) q co) (.slice a10 A.length c10) q A.length ((M.cj y p).2.map iY) x10) (λi _=>q - (intOf i).toNat)
  case atStart=>exact⟨0,rfl,Nat.zero_le _,HPY⟩
  obtain⟨p,rfl,hp,P⟩:=hrel
  clear HPY k11 l11
  have hyl:=HYL.out p
  rcases Nat.lt_or_ge p q with hpq|hpq
  ·have hpq':(p:Int)<(q:Int):=by omega
   obtain⟨m,hm⟩:∃ m,(M.cj y p).1.ag[p]? = some m:=⟨_,List.getElem?_eq_getElem (by omega)⟩
   obtain⟨o,ho⟩:∃ o,(M.cj y p).2[p]? = some o:=⟨_,List.getElem?_eq_getElem (by omega)⟩
   have hmo:(M.cj y p).1.outs p=m.out:=by simp[M.Srv.outs,hm]
   have hmt:(M.cj y p).1.take p={ (M.cj y p).1 with ag:=(M.cj y p).1.ag.set p { m with out:=[] } }:=by simp[M.Srv.take,hm]
   have hou:=HOU.out p hpq
   rw[hmo] at hou
   have hol:=mJ hou.2
   have hoB:(eF m).size<=40000:=by
    unfold eF
    rw[En.aK]
    have:=hou.1
    omega
   have hoL:=HLT.out p hp p o ho
   rw[if_neg (Nat.lt_irrefl _)] at hoL
   obtain⟨gg,cc,-,hz2,hrw⟩:=P.o11.pos h0
   injection hz2 with e1 _ e3
   cases e1
   subst e3
   have HTK:=hid (zM wr Z g xp p q kc (M.cj y p).1 m N1 (N1+1+1) go co (En.bytesOf (o.flatMap En.bE)) ((M.cj y p).2.map iY) P.srv hm hoB P.c8 P.c11 hrw (by simp[ho,iY]) hpq hgoZ (by rw[En.aK];omega))
   have e1:Value.string (En.bytesOf (o.flatMap En.bE)++eF m)=iY (o++(M.cj y p).1.outs p):=by
    unfold iY eF
    rw[En.fe,hmo,List.flatMap_append]
   rw[e1,<-hmt,<-uB (f:=(·++(M.cj y p).1.outs p)) ho] at HTK
   have HP:=hid P
   clear P hm ho hmo hmt hou hol hoB hoL hrw e1 hyl
   go_wp2_with fail
   refine HTK.mono ?_
   rintro e w12 ⟨⟨b12,rfl⟩,s12,r12,x12⟩
   have HP2:=hid (HP.take HZ h0 s12 r12 x12)
   clear s12 r12 x12 HP HTK
   go_wp2_with fail
   go_roundw
   case rel=>exact⟨p+1,by go_num,by omega,by rw[M.ju];exact HP2⟩
   simp[intOf];omega
  obtain rfl:p=q:=by omega
  have HP2:=hid (show Pl kc w wr Z g xp (Z+1) N1 (N1+1) (N1+1+1) (M.bk p X (j+1)).1 (.slice (some ⟨go,0,none⟩) p co) (.slice a10 A.length c10) p A.length ((M.bk p X (j+1)).2.map iY) x10 from by
   have e:M.bk p X (j+1)=M.cj y p:=by rw[<-HYY,<-HXX];rfl
   rw[e]
   exact P)
  clear P hyl
  go_wp2_with fail
  go_roundw
  case rel=>exact⟨j+1,by go_num,by omega,HP2⟩
  simp[intOf];omega
 obtain rfl:j=t:=by omega
 have HFI:=hid (P.Gs HZ.out (a10:=N1+1) (by omega) (by omega))
 have e0:=P.c10.cell 0
 have y0:=P.c10.frozen 0
 have l10:=P.c10.lt
 simp at e0
 clear P
 go_upto_region 34 with fail
 generalize wr.setCell ⟨N1+1,0,none⟩ (.slice (some ⟨go,0,none⟩) n co)=V at *
 have k11:=HFI.c11.cell 0
 have l11:=HFI.c11.lt
 simp at k11
 clear e0 y0 l10
 go_wp2_with fail
 go_loopw [96] (λi wr=>∃ (q:Nat) (vS:Value) (xS:List Value),i = .int .i64 q/\q<=n/\Pe V wr (N1+1) (.slice (some ⟨go,0,none⟩) n co) vS (.slice a10 A.length c10) q xS) (λi _=>n - (intOf i).toNat)
 case atStart=>exact⟨0,_,_,rfl,Nat.zero_le _,HFI.pe⟩
 obtain⟨q,vS,xS,rfl,hq,E⟩:=hrel
 clear k11 l11
 obtain⟨aS,cS,hvS⟩:=E.oS.form
 subst hvS
 have XF:=E.x (Z:=Z) (by omega) HFI.c10.ty
 have k8:=(HFI.c8.frx XF (by decide) (by simp)).cell 0
 have l8:=(HFI.c8.frx XF (by decide) (by simp)).lt
 simp at k8
 have HSV:=hid (HFI.srv.frx XF (by decide))
 have HEE:=hid E
 have HX2:=hid XF
 rcases Nat.lt_or_ge q n with hqn|hqn
 ·have hqn':(q:Int)<(n:Int):=by omega
  obtain⟨m,hm⟩:∃ m,(M.bk n X j).1.ag[q]? = some m:=⟨_,List.getElem?_eq_getElem (by omega)⟩
  have HST:=hid (λW (f:Fr [] wr W)=>eK W Z g xp q kc _ m (HSV.fr0 f) hm)
  have e1:=E.c10.cell 1
  have y1:=E.c10.frozen 1
  have l10:=E.c10.lt
  simp at e1
  have hVl:=hid HFI.c10.lt
  clear E XF hm
  go_wp2_with fail
  go_region_law (first
   | (refine bu rfl (.tmp 100) (.tmp 104) 45 rfl nI _ 8 underlying45 ni nz0 nz1 nz2 rfl (by decide) (.slice aS q cS) (ay (.slice aS q cS)) rfl (HEE.oS.sl.fr0 (by repeat (first|exact rZ|apply Fr.alloc|apply Fr.drewN|apply Fr.drew))) _ 1 1 [.int .i64 m.state] rfl rfl (Cells.one (aE (cs:=#[.int .i64 m.state]) (t:=3) (by simp))) (by simp[Value.oneCell']) (by unfold maxLen;omega) (by omega) ?_;intro v13 w13 own13 hs13 hf13 ho13 hm13;obtain⟨a13,c13,rfl⟩:=hs13.form;have HQ:=hid (HEE.st hVl.out (by repeat (first|exact rZ|apply Fr.alloc|apply Fr.drewN|apply Fr.drew)) hs13 hf13 ho13 (hm13 (by omega)));clear hs13 hf13 ho13 hm13;have e1:=HQ.1.cell 1;have y1:=HQ.1.frozen 1;have l10:=HQ.1.lt;simp at e1)
   | (go_simp;go_at_call 21;refine(HST _ (by first|exact rZ|exact rZ.drewN _|exact rZ.drew)).mono ?_;rintro e w' ⟨rfl,rfl⟩))
  all_goals
   have HQ:=hid HQ.2
   clear e1 y1 l10
   go_wp2_with fail
   go_roundw
   case rel=>exact⟨q+1,_,_,by go_num,by omega,HQ⟩
   simp[intOf];omega
 obtain rfl:q=n:=by omega
 have HEV:=hid (uS wr Z g xp kc _ HSV (by have:=HE.out;omega))
 have hZV:Z<=wr.heap.size:=by rw[<-HZ];exact(Fr.fR HFI.fr HZ XF).size
 clear E XF
 go_wp2_with fail
 refine HEV.mono ?_
 rintro e w14 ⟨v,rfl,ev14,f14⟩
 obtain⟨va,vn,vc,rfl⟩:∃ va vn vc,v = .slice va vn vc:=by
  obtain⟨L,hL,ho,hat⟩:=ev14.at_
  obtain⟨va,vc,h⟩:=ho.form
  exact⟨va,_,vc,h⟩
 have HE14:=hid (And.intro (dz.down ev14 hZV) f14)
 have q10:=HEE.c10.fr f14 (by simp)
 have y3:=q10.frozen 3
 have l10:=q10.lt
 have s3:=q10.cell 3
 simp at s3
 have HQ10:=hid q10
 clear ev14 f14 q10 k8 l8
 go_upto_region 40 with fail
 have F3:Fr [N1+1] V (w14.setCell ⟨N1+1,3,none⟩ (.slice va vn vc)):=(HEE.fr.trans (HE14.2.mono (by simp))).trans ((Fr.refl [N1+1] _).setCell (by simp) _)
 have H10:=hid (show Holds (w14.setCell ⟨N1+1,3,none⟩ (.slice va vn vc)) (N1+1) 49 #[.slice (some ⟨go,0,none⟩) q co,.slice aS q cS,.slice a10 A.length c10,.slice va vn vc] from by simpa using HQ10.set 3 (.slice va vn vc))
 have HEV3:=hid (show Ev.dz (w14.setCell ⟨N1+1,3,none⟩ (.slice va vn vc)) Z (.slice va vn vc) _ from HE14.1.frx (FrX.aB (Ts:=[49]) ((Fr.refl [N1+1] _).setCell (by simp) _) (by simp;omega) (λy hy=>⟨49,by simp,by simp at hy;subst hy;exact HQ10.ty⟩)) (by decide) (by decide) (by decide))
 have HOS:=hid (show Own (w14.setCell ⟨N1+1,3,none⟩ (.slice va vn vc)) Z 3 1 (.slice aS q cS) q xS from (Rq.Own.down (HEE.oS.fr0 HE14.2) (by rw[<-HZ];exact HFI.fr.size)).bf (FrX.aB (Ts:=[49]) ((Fr.refl [N1+1] _).setCell (by simp) _) (by simp;omega) (λy hy=>⟨49,by simp,by simp at hy;subst hy;exact HQ10.ty⟩)) (by decide))
 generalize w14.setCell ⟨N1+1,3,none⟩ (.slice va vn vc)=V3 at *
 have XF:FrX Z [49] [] V V3:=FrX.aB F3 (by simp;omega) (λy hy=>⟨49,by simp,by simp at hy;subst hy;exact HFI.c10.ty⟩)
 have H6:=hid (HFI.c6.fr F3 (by simp;omega))
 have HO11:=hid (HFI.o11.bf XF (by decide))
 have HO10:=hid (HFI.o10.bf XF (by decide))
 have HFW:=hid (Fr.fR HFI.fr HZ XF)
 have t0:=H10.cell 0
 have t1:=H10.cell 1
 have t2:=H10.cell 2
 have t3:=H10.cell 3
 have tl:=H10.lt
 have vl:=H6.lt
 have z0:=H6.frozen 0
 have z1:=H6.frozen 1
 have z2:=H6.frozen 2
 have z3:=H6.frozen 3
 have v0:=H6.cell 0
 have v1:=H6.cell 1
 have v2:=H6.cell 2
 have v3:=H6.cell 3
 simp at t0 t1 t2 t3 v0 v1 v2 v3
 clear F3 XF y3 l10 s3
 go_wp2_with fail
 obtain⟨V4,hV4⟩:∃ V4,V4=(((V3.setCell ⟨Z+1,0,none⟩ (.slice (some ⟨go,0,none⟩) q co)).setCell ⟨Z+1,1,none⟩ (.slice aS q cS)).setCell ⟨Z+1,2,none⟩ (.slice a10 A.length c10)).setCell ⟨Z+1,3,none⟩ (.slice va vn vc):=⟨_,rfl⟩
 rw[<-hV4]
 have q4:Holds V4 (Z+1) 49 #[.slice (some ⟨go,0,none⟩) q co,.slice aS q cS,.slice a10 A.length c10,.slice va vn vc]:=by rw[hV4];simpa using (((H6.set 0 (.slice (some ⟨go,0,none⟩) q co)).set 1 (.slice aS q cS)).set 2 (.slice a10 A.length c10)).set 3 (.slice va vn vc)
 have x4:FrX Z [49] [] V3 V4:=by rw[hV4];exact FrX.aB (((((Fr.refl [Z+1] _).setCell (by simp) _).setCell (by simp) _).setCell (by simp) _).setCell (by simp) _) (by simp) (λy hy=>⟨49,by simp,by simp at hy;subst hy;exact H6.ty⟩)
 refine bodyPost_ret (CW _ _ (Z+1) _ _ _ _ q4 rfl rfl) rfl ⟨_,_,_,_,_,_,rfl,?_,HOS.bf x4 (by decide),HO10.bf x4 (by decide),?_,Fr.fR HFW HZ x4⟩
 ·rw[HXE]
  exact HO11.bf x4 (by decide)
 rw[HXE]
 exact HEV3.frx x4 (by decide) (by decide) (by decide)
end Sv
