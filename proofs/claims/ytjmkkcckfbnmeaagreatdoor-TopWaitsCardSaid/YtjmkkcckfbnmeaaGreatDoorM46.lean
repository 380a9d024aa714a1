/- Walks. -/
import Derived.Test.YtjmkkcckfbnmeaaGreatDoorM02
import Derived.Test.YtjmkkcckfbnmeaaGreatDoorM36
import Derived.Test.YtjmkkcckfbnmeaaGreatDoorM45
import Derived.Deep.MidRow
import Derived.Deep.RegionHeld3
set_option maxRecDepth 100000
set_option maxHeartbeats 8000000
set_option linter.all false
open Go.Lib (hid)
namespace Go.Proofs.YtjmkkcckfbnmeaaGreatDoor.Sv
open Go.RowKit Cr
theorem ev_range {w:World}{B:Nat}{ea:Option Addr}{ec:Nat}{L:List Ev.Raw}(h:Own w B 56 23 (.slice ea L.length ec) L.length (flat Ev.Raw.cells L)){j:Nat}{r:Ev.Raw}(hr:L[j]? = some r) :
  ∃ gq,ea=some ⟨gq,0,none⟩∧gq<w.heap.size∧w.rangeAt gq (j*23) r.cells:=by
 obtain⟨gq,cq,hgq,hv,hrow,hgl,hcell⟩:=h.cell Ev.raw_len rfl hr
 cases hv
 exact⟨gq,rfl,hgl,fun i v hv=>hcell i v (by have:=(List.getElem?_eq_some_iff.1 hv).1;rw[Ev.raw_len] at this;exact this) hv⟩
section
variable {P:Program}
theorem wpList_store_hold {ops:Array Oper}{rest:List Oper}{o:Oper}{a:Act}{w:World}{Q:Exit→Act→World→Prop}(hgd:o.guard=none)(ty:TypeId)(x y:Operand)(ho:o.op = .store ty x y)
  (g:Nat) (cells:Array Value) (hx:a.eval x = .pointer (some ⟨g,0,none⟩)) (hy:a.eval y = .agg cells)
  (t:TypeId) (old:Array Value) (hg:w.heap[g]? = some (.cells old t (0,0))) (hi:(P.info? ty).map (·.size)=some cells.size)
  (hold:old.size=cells.size) (h1:cells.all (·.oneCell')=true)
  (h:∀ W,Holds W g t cells→Fr [g] w W→wpList P ops Q rest (a.put o.dst undef) W):wpList P ops Q (o::rest) a w :=
 wpList_store_row hgd ty x y ho g cells hx hy t old hg hi hold h1 (h _ (setRow_heap w g old _ t _ hg) ⟨rfl,rfl,rfl,by simp,fun k _ hk=>setRow_other w g k _ (by simpa using hk)⟩)
end
theorem info_size:(Tryz.prog.info? 56).map (·.size)=some 23:=by kernel_rfl
def evC (kind conn seq:Int)(tt:ByteArray)(q:M.Req)(vo:Value)(a:M.Resp)(vi:Value):Array Value:=#[.int .i64 kind,.int .i64 conn,.int .i64 seq,.string tt,.int .i64 q.kind,.string q.tenant,.string q.col,.string q.uid,.string q.card,.int .i64 q.ck,.int .i64 q.cv,vo,.int .i64 q.token,.int .i64 q.most,.int .i64 q.ticks,.int .i64 a.kind,.int .i64 a.err,.int .i64 a.token,.int .i64 a.version,.string a.card,.int .i64 a.index,.bool a.more,vi]
theorem ev_push {w0 W W' w7:World}{B:Nat}{L:List Ev.Raw}{o v7:Value}{r:Ev.Raw}{news:List Value}{own7:Option Nat}(h0:w0.heap.size=B)(f0:Fr [] w0 W)(hown:Own W B 56 23 o L.length (flat Ev.Raw.cells L))(hat:∀ y∈L,y.At W B)(hr:r.At W B)(f:Fr [] W W')(hn:news=r.cells)
  (hs:Sl w7 56 23 v7 (L.length+1) (flat Ev.Raw.cells L++news) own7) (hf:Fr (ownOf o).toList W' w7) (ho:own7=ownOf o∨∃ g,own7=some g∧W'.heap.size≤g) (hm:0<1→∃ g,own7=some g) :
  Own w7 B 56 23 v7 (L++[r]).length (flat Ev.Raw.cells (L++[r]))∧(∀ y∈L++[r],y.At w7 B)∧Fr [] w0 w7:=by
 have hB:B≤W'.heap.size:=by rw[←h0];exact(f0.trans f).size
 have hown':=Own.fr0 hown f
 have hb:∀ y,y∈(ownOf o).toList→tyOf W' y=some 56∧B≤y:=fun y hy=>hown'.ty (by simpa using hy)
 obtain⟨oo,-⟩:=own_after (B:=B) hB (fun g hg=>(hown'.ty hg).2) hs ho (hm (by omega))
 have x7:FrX B [56] [] W' w7:=FrX.of_frT hf (fun y hy=>(hb y hy).2) (fun y hy=>⟨56,by simp,(hb y hy).1⟩)
 have e:flat Ev.Raw.cells (L++[r])=flat Ev.Raw.cells L++r.cells:=by rw[flat_append,flat_one]
 refine⟨by rw[e,←hn];simpa using oo,fun y hy=>?_,(f0.trans f).step hf (fun y hy=>.inr (by rw[h0];exact(hb y hy).2))⟩
 have hy':y.At W B:=by
  rcases List.mem_append.1 hy with h|h
  ·exact hat y h
  ·simp at h
   subst h
   exact hr
 exact(hy'.frx (FrX.of_fr0 (Ts:=[]) f) (by simp) (by simp)).frx x7 (by decide) (by decide)
theorem at_own {w w':World}{B:Nat}{L:List Ev.Raw}(h:∀ y∈L,y.At w B)(hf:Fr [] w w'):∀ y∈L,y.At w' B:=fun y hy=>(h y hy).frx (FrX.of_fr0 (Ts:=[]) hf) (by simp) (by simp)
theorem events_any (w:World)(B g xp:Nat)(k:Cf)(s:M.Srv)(h:SrvAt w B g xp k s)(hev:s.events.length≤100000) :
  Calls Tryz.prog 13 #[.pointer (some ⟨g,0,none⟩)] w fun e w'=>∃ v,e = .returned v∧Ev.EvsAt w' w.heap.size v s.events∧Fr [] w w':=by
 obtain⟨bs,vc,ve,h⟩:=h
 obtain⟨i3,hi,hz0,hz1,hz2⟩:=info_parts Lp.infoE
 obtain⟨j3,ji,jz0,jz1,jz2⟩:=info_parts Ev.infoI
 obtain⟨e3,ei,ez0,ez1,ez2⟩:=info_parts infoEv
 obtain⟨⟨L,hL,hown,hat⟩⟩:=h.evs
 obtain⟨ea,ec,hve⟩:=Own.form hown
 subst hve
 have c10:=h.cell.cell 10
 simp[srvC,confC] at c10
 have hgl:=h.cell.lt
 obtain⟨Z,hZ⟩:∃ Z,w.heap.size=Z:=⟨_,rfl⟩
 have HO:=hid hown
 have HA:=hid hat
 have HL:=hid hL
 have hLl:L.length≤100000:=by rw[←hL] at hev;simpa using hev
 have HZ:=hid hZ
 rw[hZ]
 clear h hat hown hL hev
 go_enter Tryz.func13,Tryz.ntmps13
 go_wp2_with fail
 go_loopw [3,11] (fun o i wr=>∃ L':List Ev.Raw,L'.length≤L.length∧i = .int .i64 L'.length∧L'.map Ev.Raw.ev=(L.take L'.length).map Ev.Raw.ev∧Own wr Z 56 23 o L'.length (flat Ev.Raw.cells L')∧(∀ r∈L',r.At wr Z)∧Fr [] w wr) (fun _ i _=>L.length - (intOf i).toNat)
 case atStart=>exact⟨[],Nat.zero_le _,rfl,rfl,Own.nil _ _ _ _,by simp,Fr.refl _ _⟩
 case round =>
  obtain⟨L',hj,rfl,hmap,own',at',fr⟩:=hrel
  by_cases hlt:L'.length<L.length
  ·obtain⟨r,hr⟩:∃ r,L[L'.length]? = some r:=⟨_,List.getElem?_eq_getElem hlt⟩
   have hra:=HA.out r (List.mem_of_getElem? hr)
   obtain⟨kind,conn,seq,tt,q,vo,a,vi⟩:=r
   have hops:Ev.OpsAt w B vo q.ops:=hra.ops
   have hits:Ev.ItsAt w B vi a.items:=hra.its
   have hl1:q.ops.length≤20:=hra.l1
   have hl2:a.items.length≤20:=hra.l2
   obtain⟨oa,oc,rfl,-,-⟩:=Ev.Own.cells hops
   obtain⟨ia,ic,rfl,-,-⟩:=Ev.Own.cells hits
   obtain⟨gq,hea,hgq,hrng⟩:=ev_range (Own.fr0 HO.out fr) hr
   subst hea
   obtain⟨a',c',rfl⟩:=Own.form own'
   obtain⟨o,ho⟩:∃ o,L'.length*23=o:=⟨_,rfl⟩
   rw[ho] at hrng
   obtain⟨C,hC⟩:∃ C:List Value,C=[.int .i64 kind,.int .i64 conn,.int .i64 seq,.string tt,.int .i64 q.kind,.string q.tenant,.string q.col,.string q.uid,.string q.card,.int .i64 q.ck,.int .i64 q.cv,.slice oa q.ops.length oc,.int .i64 q.token,.int .i64 q.most,.int .i64 q.ticks,.int .i64 a.kind,.int .i64 a.err,.int .i64 a.token,.int .i64 a.version,.string a.card,.int .i64 a.index,.bool a.more,.slice ia a.items.length ic]:=⟨_,rfl⟩
   have HR:=hid (show wr.rangeAt gq o C by rw[hC];exact hrng)
   have HCC:=hid hC
   clear hrng hC
   have hszZ:Z≤wr.heap.size:=by rw[←HZ.out];exact fr.size
   have HJ:=hid (show (L'++[(⟨kind,conn,seq,tt,q,.slice oa q.ops.length oc,a,.slice ia a.items.length ic⟩:Ev.Raw)]).map Ev.Raw.ev=(L.take (L'.length+1)).map Ev.Raw.ev by
    rw[List.take_succ,hr,List.map_append,List.map_append,hmap]
    rfl)
   have HOps:=hid (Own.fr0 hops fr)
   have HIts:=hid (Own.fr0 hits fr)
   have HOwn:=hid own'
   have HAt:=hid at'
   have HF:=hid fr
   clear hr hra hops hits own' at' hmap
   have hj1:(L'.length:Int)<(L.length:Int):=by omega
   have hj2:L'.length≤100000:=by omega
   go_upto_region 5 with(first|(refine wpList_store_hold rfl 56 (.tmp 5) (.tmp 14) rfl _ C.toArray rfl rfl _ _ (heap_alloc_new _ _) (by rw[HCC.out];exact info_size) (by simp[HCC.out]) (by simp[HCC.out,Value.oneCell']) ?_;intro W0 b0 fs0)|(refine wpList_load_mid rfl 56 (.tmp 13) rfl gq o rfl C _ HR.out Tryz.underlying56 rfl (by rw[HCC.out];exact info_size) ?_))
   obtain⟨N,hN⟩:∃ N,wr.heap.size=N:=⟨_,rfl⟩
   have HN:=hid hN
   have f0:Fr [] wr W0:=((Fr.refl [] wr).alloc _).step fs0 (fun x hx=>.inr (by simp at hx;omega))
   rw[hN,HCC.out] at b0
   have b0:Holds W0 N 56 (evC kind conn seq tt q (.slice oa q.ops.length oc) a (.slice ia a.items.length ic)):=b0
   try simp only[hN]
   have hBW0:Z≤W0.heap.size:=Nat.le_trans hszZ f0.size
   have p11:=b0.cell 11
   have z11:=b0.frozen 11
   have l0:=b0.lt
   simp[evC] at p11
   have B0:=hid b0
   have O0:=hid (Own.fr0 HOps.out f0)
   have I0:=hid (Own.fr0 HIts.out f0)
   have F0:=hid f0
   clear fs0 f0 b0 hN HR
   obtain⟨_,_,he0,hc0,hl0⟩:=Ev.Own.cells O0.out
   cases he0
   go_upto_region 6 with(at_builtin;(refine Ev.wpList_copy Z rfl (.const (.slice none 0 0)) (.tmp 17) 39 rfl i3 _ 56 Tryz.underlying39 hi hz0 hz1 hz2 rfl (by decide) rfl oa q.ops.length oc (flat Lp.cs q.ops) rfl hl0 hc0 (flat_cells (fun _=>Lp.cs_one) _) (by unfold maxLen;omega) (by omega) hBW0 ?_;intro v3 w3 o3 f3;obtain⟨a3,c3,hv3⟩:=Own.form o3;subst hv3;have b3:=B0.out.fr f3 (by simp);have p11:=b3.cell 11;have z11:=b3.frozen 11;have l0:=b3.lt;simp[evC] at p11))
   obtain⟨W4,hW4⟩:∃ W4,W4=w3.setCell ⟨N,11,none⟩ (.slice a3 q.ops.length c3):=⟨_,rfl⟩
   rw[←hW4]
   have B4:=hid (show Holds W4 N 56 (evC kind conn seq tt q (.slice a3 q.ops.length c3) a (.slice ia a.items.length ic)) by rw[hW4];simpa[evC] using b3.set 11 (.slice a3 q.ops.length c3))
   have F4:=hid (show Fr [] wr W4 by rw[hW4];exact Ev.Fr.setNew (p:=⟨N,11,none⟩) (F0.out.trans f3) (by rw[HN.out];exact Nat.le_refl _) _)
   have x4:FrX Z [56] [] w3 W4:=by rw[hW4];exact FrX.of_frT ((Fr.refl [N] _).setCell (by simp) _) (by have:=HN.out;simp;omega) (fun y hy=>⟨56,by simp,by simp at hy;subst hy;exact b3.ty⟩)
   have O4:=hid (o3.frx0 x4 (by decide))
   have I4:=hid (Own.fr0 HIts.out F4.out)
   have hBW4:Z≤W4.heap.size:=Nat.le_trans hszZ F4.out.size
   clear hW4 x4 o3 f3 b3 hc0 hl0 hBW0 p11 z11 l0
   have q22:=B4.out.cell 22
   have y22:=B4.out.frozen 22
   have l4:=B4.out.lt
   simp[evC] at q22
   obtain⟨_,_,he1,hc1,hl1'⟩:=Ev.Own.cells I4.out
   cases he1
   go_upto_region 7 with(at_builtin;(refine Ev.wpList_copy Z rfl (.const (.slice none 0 0)) (.tmp 23) 51 rfl j3 _ 48 Tryz.underlying51 ji jz0 jz1 jz2 rfl (by decide) rfl ia a.items.length ic (flat Ev.ic a.items) rfl hl1' hc1 (flat_cells Ev.ic_one _) (by unfold maxLen;omega) (by omega) hBW4 ?_;intro v5 w5 o5 f5;obtain⟨a5,c5,hv5⟩:=Own.form o5;subst hv5;have b5:=B4.out.fr f5 (by simp);have q22:=b5.cell 22;have y22:=b5.frozen 22;have l4:=b5.lt;simp[evC] at q22))
   obtain⟨W6,hW6⟩:∃ W6,W6=w5.setCell ⟨N,22,none⟩ (.slice a5 a.items.length c5):=⟨_,rfl⟩
   rw[←hW6]
   have B6:=hid (show Holds W6 N 56 (evC kind conn seq tt q (.slice a3 q.ops.length c3) a (.slice a5 a.items.length c5)) by rw[hW6];simpa[evC] using b5.set 22 (.slice a5 a.items.length c5))
   have F6:=hid (show Fr [] wr W6 by rw[hW6];exact Ev.Fr.setNew (p:=⟨N,22,none⟩) (F4.out.trans f5) (by rw[HN.out];exact Nat.le_refl _) _)
   have x6:FrX Z [56] [] w5 W6:=by rw[hW6];exact FrX.of_frT ((Fr.refl [N] _).setCell (by simp) _) (by have:=HN.out;simp;omega) (fun y hy=>⟨56,by simp,by simp at hy;subst hy;exact b5.ty⟩)
   have O6:=hid ((Own.fr0 O4.out f5).frx0 x6 (by decide))
   have I6:=hid (o5.frx0 x6 (by decide))
   clear hW6 x6 o5 f5 b5 hc1 hl1' hBW4 q22 y22 l4
   have l6:=B6.out.lt
   have HONE:=hid (show ∀ u∈(Ev.Raw.cells ⟨kind,conn,seq,tt,q,.slice a3 q.ops.length c3,a,.slice a5 a.items.length c5⟩),u.oneCell'=true from Ev.Raw.At.one (w:=W6) (B:=Z) ⟨O6.out,I6.out,hl1,hl2⟩)
   go_wp2_with (first|(refine wpList_load_row rfl 56 (.tmp 5) rfl N rfl 56 #[.int .i64 kind,.int .i64 conn,.int .i64 seq,.string tt,.int .i64 q.kind,.string q.tenant,.string q.col,.string q.uid,.string q.card,.int .i64 q.ck,.int .i64 q.cv,.slice a3 q.ops.length c3,.int .i64 q.token,.int .i64 q.most,.int .i64 q.ticks,.int .i64 a.kind,.int .i64 a.err,.int .i64 a.token,.int .i64 a.version,.string a.card,.int .i64 a.index,.bool a.more,.slice a5 a.items.length c5] (0,0) _ B6.out Tryz.underlying56 rfl info_size ?_)|(at_builtin;(refine wpList_append_sl rfl (.tmp 27) (.tmp 29) 45 rfl e3 _ 264 Tryz.underlying45 ei ez0 ez1 ez2 rfl (by decide) (.slice a' L'.length c') (ownOf (.slice a' L'.length c')) rfl (Own.fr0 HOwn.out (F6.out.alloc _)).sl _ 1 1 _ rfl (by rfl) (Fm.Cells.of_holds (at_new (by simp))) (fun u hu=>HONE.out u hu) (by unfold maxLen;omega) (by omega) ?_;intro v7 w7 own7 hs7 hf7 ho7 hm7;obtain⟨P1,P2,P3⟩:=ev_push (r:=⟨kind,conn,seq,tt,q,.slice a3 q.ops.length c3,a,.slice a5 a.items.length c5⟩) HZ.out (HF.out.trans F6.out) (Own.fr0 HOwn.out F6.out) (at_own HAt.out F6.out) ⟨O6.out,I6.out,hl1,hl2⟩ ((Fr.refl _ _).alloc _) rfl hs7 hf7 ho7 hm7;have PH:=hid (And.intro P1 (And.intro P2 P3));clear hs7 hf7 ho7 hm7 P1 P2 P3)))
   go_roundw
   case rel =>
    have hJ:=HJ.out
    refine⟨_,?_,?_,?_,PH.out.1,PH.out.2.1,PH.out.2.2⟩
    ·simp;omega
    ·simp
    ·rw[List.map_append] at hJ ⊢
     simpa[Ev.Raw.ev] using hJ
   case measure=>simp[intOf];omega
  ·have hj1:¬ (L'.length:Int)<(L.length:Int):=by omega
   have hjj:L'.length=L.length:=by omega
   have HJJ:=hid hjj
   have HP:=hid (And.intro hmap (And.intro own' (And.intro at' fr)))
   clear hmap own' at' fr hjj
   go_wp2_with fail
   go_ret
   obtain⟨h1,h2,h3,h4⟩:=HP.out
   refine⟨_,rfl,⟨⟨L',?_,h2,h3⟩⟩,h4⟩
   rw[h1,HJJ.out,List.take_length,HL.out]
def STs:List TypeId:=77::78::56::(CTs++Ts)
theorem SrvAt.frx {w w':World}{B g xp:Nat}{k:Cf}{s:M.Srv}{Vs:List TypeId}(h:SrvAt w B g xp k s)(hf:FrX B Vs [] w w')(ht:∀ t,t∈STs→t∉Vs):SrvAt w' B g xp k s:=by
 obtain⟨bs,vc,ve,h⟩:=h
 have hc:∀ t,t∈CTs→t∉Vs:=fun t h=>ht t ((by decide:∀ t,t∈CTs→t∈STs) t h)
 refine⟨bs,vc,ve,h.bg,h.bxp,h.cell.frx hf (ht _ (by simp[STs])) (by simp),h.core.frx hf (fun t h=>ht t ((by decide:∀ t,t∈Ts→t∈STs) t h)),h.len,h.conns.frx0 hf (ht _ (by simp[STs])),fun i b m hb hm=>?_,h.apart,h.evs.frx hf (hc _ (by simp)) (hc _ (by simp)) (ht _ (by simp[STs])),h.npo⟩
 obtain⟨x,hx⟩:=h.each i b m hb hm
 exact⟨x,hx.frx hf hc (by simp)⟩
theorem SrvAt.fr0 {w w':World}{B g xp:Nat}{k:Cf}{s:M.Srv}(h:SrvAt w B g xp k s)(hf:Fr [] w w'):SrvAt w' B g xp k s:=h.frx (FrX.of_fr0 (Ts:=[]) hf) (by simp)
theorem do_open (w:World)(B g xp:Nat)(k:Cf)(s:M.Srv)(h:SrvAt w B g xp k s)(hn:(s.conns.length:Int)<k.conns)(hk:k.conns≤1000)(hst:∀ m,m∈s.conns→m.state≠4)(hr0:0≤k.room)(hB:B≤w.heap.size) :
  Calls Tryz.prog 42 #[.pointer (some ⟨g,0,none⟩),.agg #[.int .i64 1,.int .i64 0,.int .i64 0,.string ⟨#[]⟩]] w fun e w'=>e = .returned (.bool true)∧SrvAt w' B g xp k { s with conns:=s.conns++[{}] }∧FrX B Uo [] w w':=by
 have f0:Fr [] w (w.alloc (.cells #[.int .i64 1,.int .i64 0,.int .i64 0,.string ⟨#[]⟩] 66)):=(Fr.refl _ _).alloc _
 have HO:=hid (open_any _ B g xp k s (h.fr0 f0) hn hk hst hr0 (Nat.le_trans hB f0.size))
 have F0:=hid f0
 clear h f0
 go_enter Tryz.func42,Tryz.ntmps42
 go_wp2_with fail
 refine HO.out.mono ?_
 rintro e w2 ⟨rfl,h2,x2⟩
 have H2:=hid (And.intro h2 x2)
 clear h2 x2
 go_wp2_with fail
 go_ret
 exact⟨rfl,H2.out.1,(FrX.of_fr0 F0.out).trans H2.out.2⟩
theorem do_send (w:World)(B g xp:Nat)(k:Cf)(s:M.Srv)(m:M.Conn)(q:List M.Req)(h:SrvAt w B g xp k s)(hmi:s.conns[0]? = some m)(h4:m.state≠4)(hr0:0≤k.room)(hr1:k.room≤100000)(hs:((todoB { m with todo:=m.todo++q }).size:Int)≤k.room) :
  Calls Tryz.prog 42 #[.pointer (some ⟨g,0,none⟩),.agg #[.int .i64 2,.int .i64 0,.int .i64 0,.string (En.bytesOf (q.flatMap En.reqF))]] w fun e w'=>e = .returned (.bool true)∧SrvAt w' B g xp k (s.send 0 q)∧FrX B Us [] w w':=by
 obtain⟨sb,hsb⟩:∃ sb,En.bytesOf (q.flatMap En.reqF)=sb:=⟨_,rfl⟩
 have f0:Fr [] w (w.alloc (.cells #[.int .i64 2,.int .i64 0,.int .i64 0,.string sb] 66)):=(Fr.refl _ _).alloc _
 have HO:=hid (send_any _ B g xp 0 k s m q (h.fr0 f0) hmi h4 hr0 hr1 hs)
 rw[hsb] at HO ⊢
 have F0:=hid f0
 clear h f0 hsb hs
 go_enter Tryz.func42,Tryz.ntmps42
 go_wp2_with fail
 refine HO.out.mono ?_
 rintro e w2 ⟨rfl,h2,x2⟩
 have H2:=hid (And.intro h2 x2)
 clear h2 x2
 go_wp2_with fail
 go_ret
 exact⟨rfl,H2.out.1,(FrX.of_fr0 F0.out).trans H2.out.2⟩
theorem nonempty_toList {s:ByteArray}(h:0<s.size):s.toList.isEmpty=false:=by
 rw[Lib.toList_data]
 cases hl:s.data.toList with
 | nil =>
  have e:s.data.toList.length=s.size:=by simp
  rw[hl] at e
  simp at e
  omega
 | cons a l=>rfl
theorem take_clo (w:World)(B g xp:Nat)(k:Cf)(s:M.Srv)(m:M.Conn)(bs bo go co:Nat)(so:ByteArray)(h:SrvAt w B g xp k s)(hmi:s.conns[0]? = some m)(hz:(outB m).size≤40000)(h1:Holds w bs 24 #[.pointer (some ⟨g,0,none⟩)])(h2:Holds w bo 59 #[.slice (some ⟨go,0,none⟩) 1 co])(h3:Row w 9 1 go 1 co [.string so])(hg:B≤go)(hso:so.size≤1000000) :
  Calls Tryz.prog 40 #[.int .i64 0,.int .i64 40000,.pointer (some ⟨bs,0,none⟩),.pointer (some ⟨bo,0,none⟩)] w fun e w'=>(∃ b,e = .returned (.bool b))∧SrvAt w' B g xp k { s with conns:=s.conns.set 0 { m with out:=[] } }∧Row w' 9 1 go 1 co [.string (so++outB m)]∧FrX B Us [go] w w':=by
 have HT:=hid (take_any w B g xp 0 k s m 40000 h hmi (by omega) (by omega))
 have c1:=h1.cell 0
 have c2:=h2.cell 0
 simp at c1 c2
 have hl1:=h1.lt
 have hl2:=h2.lt
 have H1:=hid h1
 have H2:=hid h2
 have H3:=hid h3
 obtain⟨S,hS⟩:∃ S,outB m=S:=⟨_,rfl⟩
 rw[hS] at HT hz ⊢
 obtain⟨sv,hsv⟩:∃ sv:M.Srv,{ s with conns:=s.conns.set 0 { m with out:=[] } }=sv:=⟨_,rfl⟩
 rw[hsv] at HT ⊢
 have hsum:so.size+S.size≤9223372036854775807:=by omega
 clear h h1 h2 h3 hmi hS hsv
 go_enter Tryz.func40,Tryz.ntmps40
 go_wp2_with fail
 refine HT.out.mono ?_
 rintro e w2 ⟨rfl,q2,x2⟩
 have r2:=H3.out.frx x2 (by decide) (by simp)
 have Q2:=hid q2
 have X2:=hid x2
 have R2:=hid r2
 have b2:=H2.out.frx x2 (by decide) (by simp)
 have d2:=b2.cell 0
 have dl2:=b2.lt
 simp at d2
 have e0:w2.cell? ⟨go,0,none⟩=some (.string so):=r2.cell rfl
 have ez0:=r2.frozen 0
 have el:=r2.lt
 clear q2 x2 r2 b2 c1 c2
 rcases Nat.eq_zero_or_pos S.size with h0|h0
 ·obtain rfl:=Pr.ba_zero h0
  clear h0
  go_wp2_with fail
  go_ret
  have e:so++(⟨#[]⟩:ByteArray)=so:=by
   apply ByteArray.ext
   simp
  rw[e]
  exact⟨⟨_,rfl⟩,Q2.out,R2.out,X2.out.mono (fun _ h=>h) (by simp)⟩
 ·have hne:=nonempty_toList h0
  have h0':¬ S.size=0:=by omega
  clear h0
  go_wp2_with fail
  go_ret
  have hx:FrX B [9] [] w2 (w2.setCell ⟨go,0,none⟩ (.string (so++S))):=FrX.of_frT ((Fr.refl [go] _).setCell (by simp) _) (by simpa using hg) (fun y hy=>⟨9,by simp,by simp at hy;subst hy;exact R2.out.ty⟩)
  exact⟨⟨_,rfl⟩,Q2.out.frx hx (by decide),by simpa using R2.out.set 0 (.string (so++S)),(X2.out.mono (fun _ h=>h) (by simp)).trans ((FrX.of_fr ((Fr.refl [go] _).setCell (by simp) _) (by simpa using hg)))⟩
theorem Fr.trans_x {w W W':World}{Z:Nat}{Us:List TypeId}(h:Fr [] w W)(hZ:w.heap.size=Z)(hf:FrX Z Us [] W W'):Fr [] w W' :=
 FrX.below (B:=Z) ((FrX.of_fr0 (Ts:=Us) (S:=[]) h).trans hf) (by omega)
structure Pl (w W:World)(Z g xp a6 a8 a10 a11:Nat)(s:M.Srv)(v11 v10:Value)(n11 n10:Nat)(x11 x10:List Value):Prop where
 fr:Fr [] w W
 srv:SrvAt W Z g xp k0 s
 c6:Holds W a6 62 #[.slice none 0 0,.slice none 0 0,.slice none 0 0,.slice none 0 0]
 c8:Holds W a8 24 #[.pointer (some ⟨g,0,none⟩)]
 c10:Holds W a10 62 #[.slice none 0 0,.slice none 0 0,v10,.slice none 0 0]
 c11:Holds W a11 59 #[v11]
 o11:Own W Z 9 1 v11 n11 x11
 o10:Own W Z 4 1 v10 n10 x10
section
variable {w W W':World} {Z g xp a6 a8 a10 a11:Nat} {s s':M.Srv} {v11 v10 v':Value} {n11 n10 n':Nat} {x11 x10 x':List Value}
theorem Pl.fr0 (h:Pl w W Z g xp a6 a8 a10 a11 s v11 v10 n11 n10 x11 x10)(hf:Fr [] W W'):Pl w W' Z g xp a6 a8 a10 a11 s v11 v10 n11 n10 x11 x10 :=
 ⟨h.fr.trans hf,h.srv.fr0 hf,h.c6.fr hf (by simp),h.c8.fr hf (by simp),h.c10.fr hf (by simp),h.c11.fr hf (by simp),h.o11.fr0 hf,h.o10.fr0 hf⟩
theorem Pl.turn (hZ:w.heap.size=Z)(h:Pl w W Z g xp a6 a8 a10 a11 s v11 v10 n11 n10 x11 x10)(hs:SrvAt W' Z g xp k0 s')(hf:FrX Z Uo [] W W'):Pl w W' Z g xp a6 a8 a10 a11 s' v11 v10 n11 n10 x11 x10 :=
 ⟨Fr.trans_x h.fr hZ hf,hs,h.c6.frx hf (by decide) (by simp),h.c8.frx hf (by decide) (by simp),h.c10.frx hf (by decide) (by simp),h.c11.frx hf (by decide) (by simp),h.o11.frx0 hf (by decide),h.o10.frx0 hf (by decide)⟩
theorem Pl.out (hZ:w.heap.size=Z)(h:Pl w W Z g xp a6 a8 a10 a11 s v11 v10 n11 n10 x11 x10)(h11:Z≤a11)(f:Fr [] W W'){w7:World}{own7:Option Nat}(hs:Sl w7 9 1 v' n' x' own7)(hf:Fr (ownOf v11).toList W' w7)(ho:own7=ownOf v11∨∃ g,own7=some g∧W'.heap.size≤g)(hm:∃ g,own7=some g) :
  Holds w7 a11 59 #[v11]∧Pl w (w7.setCell ⟨a11,0,none⟩ v') Z g xp a6 a8 a10 a11 s v' v10 n' n10 x' x10:=by
 have h1:=h.fr0 f
 have hb:∀ y,y∈(ownOf v11).toList→tyOf W' y=some 9∧Z≤y:=fun y hy=>h1.o11.ty (by simpa using hy)
 have hBW:Z≤W'.heap.size:=by rw[←hZ];exact h1.fr.size
 obtain⟨oo,-⟩:=own_after (B:=Z) hBW (fun g hg=>(h1.o11.ty hg).2) hs ho hm
 have x7:FrX Z [9] [] W' w7:=FrX.of_frT hf (fun y hy=>(hb y hy).2) (fun y hy=>⟨9,by simp,(hb y hy).1⟩)
 have c11:=h1.c11.frx x7 (by decide) (by simp)
 have x8:FrX Z [59] [] w7 (w7.setCell ⟨a11,0,none⟩ v'):=FrX.of_frT ((Fr.refl [a11] _).setCell (by simp) _) (by simpa using h11) (fun y hy=>⟨59,by simp,by simp at hy;subst hy;exact c11.ty⟩)
 exact⟨c11,Fr.trans_x (Fr.trans_x h1.fr hZ x7) hZ x8,(h1.srv.frx x7 (by decide)).frx x8 (by decide),(h1.c6.frx x7 (by decide) (by simp)).frx x8 (by decide) (by simp),(h1.c8.frx x7 (by decide) (by simp)).frx x8 (by decide) (by simp),(h1.c10.frx x7 (by decide) (by simp)).frx x8 (by decide) (by simp),by simpa using c11.set 0 v',oo.frx0 x8 (by decide),(h1.o10.frx0 x7 (by decide)).frx0 x8 (by decide)⟩
theorem Pl.did (hZ:w.heap.size=Z)(h:Pl w W Z g xp a6 a8 a10 a11 s v11 v10 n11 n10 x11 x10)(h10:Z≤a10)(hne:a6≠a10)(f:Fr [] W W'){w7:World}{own7:Option Nat}(hs:Sl w7 4 1 v' n' x' own7)(hf:Fr (ownOf v10).toList W' w7)(ho:own7=ownOf v10∨∃ g,own7=some g∧W'.heap.size≤g)(hm:∃ g,own7=some g) :
  Holds w7 a10 62 #[.slice none 0 0,.slice none 0 0,v10,.slice none 0 0]∧Pl w (w7.setCell ⟨a10,2,none⟩ v') Z g xp a6 a8 a10 a11 s v11 v' n11 n' x11 x':=by
 have h1:=h.fr0 f
 have hb:∀ y,y∈(ownOf v10).toList→tyOf W' y=some 4∧Z≤y:=fun y hy=>h1.o10.ty (by simpa using hy)
 have hBW:Z≤W'.heap.size:=by rw[←hZ];exact h1.fr.size
 obtain⟨oo,-⟩:=own_after (B:=Z) hBW (fun g hg=>(h1.o10.ty hg).2) hs ho hm
 have x7:FrX Z [4] [] W' w7:=FrX.of_frT hf (fun y hy=>(hb y hy).2) (fun y hy=>⟨4,by simp,(hb y hy).1⟩)
 have c10:=h1.c10.frx x7 (by decide) (by simp)
 have x8:FrX Z [62] [] w7 (w7.setCell ⟨a10,2,none⟩ v'):=FrX.of_frT ((Fr.refl [a10] _).setCell (by simp) _) (by simpa using h10) (fun y hy=>⟨62,by simp,by simp at hy;subst hy;exact c10.ty⟩)
 exact⟨c10,Fr.trans_x (Fr.trans_x h1.fr hZ x7) hZ x8,(h1.srv.frx x7 (by decide)).frx x8 (by decide),(h1.c6.frx x7 (by decide) (by simp)).far hne _,(h1.c8.frx x7 (by decide) (by simp)).frx x8 (by decide) (by simp),by simpa using c10.set 2 v',(h1.c11.frx x7 (by decide) (by simp)).frx x8 (by decide) (by simp),(h1.o11.frx0 x7 (by decide)).frx0 x8 (by decide),oo.frx0 x8 (by decide)⟩
end
def okF:Nat→M.Srv→List M.Resp→Bool
 | 0,s,o=>decide (s.events.length≤500)&&decide ((o.flatMap En.respF).length≤100000)
 | t+1,s,o=>M.mayPick s 0&&decide (s.conns.length=1)&&decide (s.events.length≤500)&&decide ((o.flatMap En.respF).length≤100000)&&decide (((s.pick 0).outs 0 |>.flatMap En.respF).length≤40000)&&okF t ((s.pick 0).take 0) (o++(s.pick 0).outs 0)
theorem ok_first:okF 80 M.f0 []=true:=by decide +kernel
theorem reqs1_len:(M.reqs1.flatMap En.reqF).length≤20006:=by decide +kernel
def reqs1B:ByteArray:=En.bytesOf (M.reqs1.flatMap En.reqF)
theorem infoS:(Tryz.prog.info? 9).map (fun i=>(i.zero,i.size,i.bytes))=some (some (.string ByteArray.empty),1,16):=by kernel_rfl
theorem infoB:(Tryz.prog.info? 4).map (fun i=>(i.zero,i.size,i.bytes))=some (some (.bool false),1,1):=by kernel_rfl
theorem infoN:(Tryz.prog.info? 3).map (fun i=>(i.zero,i.size,i.bytes))=some (some (.int .i64 0),1,8):=by kernel_rfl
theorem EvsAt.down {w:World}{B B':Nat}{v:Value}{l:List M.Ev}(h:Ev.EvsAt w B v l)(hB:B'≤B):Ev.EvsAt w B' v l:=by
 obtain⟨L,e,o,k⟩:=h
 exact⟨L,e,Rq.Own.down o hB,fun r hr=>⟨Rq.Own.down (k r hr).ops hB,Rq.Own.down (k r hr).its hB,(k r hr).l1,(k r hr).l2⟩⟩
theorem ret_run (W:World)(tmps:Array Value)(g:Nat)(a b c d:Value)(hp:Holds W g 62 #[a,b,c,d])(h6:tmps[6]?.getD undef = .pointer (some ⟨g,0,none⟩))(h7:tmps[7]?.getD undef = .int .i64 0) :
  (results Tryz.f18 tmps).run Tryz.prog W = .ok (.tuple #[.agg #[a,b,c,d],.int .i64 0]) W:=by
 have hr:Tryz.f18.results=#[.cell 6 62,.tmp 7]:=rfl
 have q0:=hp.cell 0
 have q1:=hp.cell 1
 have q2:=hp.cell 2
 have q3:=hp.cell 3
 simp at q0 q1 q2 q3
 simp[results,h6,h7,go_sem,q0,q1,q2,q3]
theorem run_first (w:World)(gl cl:Nat)(hl:Cells w (some ⟨gl,0,none⟩) [.int .i64 1,.int .i64 0,.int .i64 0,.string ⟨#[]⟩,.int .i64 2,.int .i64 0,.int .i64 0,.string reqs1B]) :
  Calls Tryz.prog 18 #[.agg cells0,.slice (some ⟨gl,0,none⟩) 2 cl,.int .i64 80] w fun e w'=>∃ go co vS vD vE,e = .returned (.tuple #[.agg #[.slice (some ⟨go,0,none⟩) 1 co,vS,vD,vE],.int .i64 0])∧w'.cell? ⟨go,0,none⟩=some (.string (En.bytesOf (M.resps1.flatMap En.respF)))∧vS.oneCell'=true∧vD.oneCell'=true∧(∃ ve ne ce,vE = .slice ve ne ce)∧Ev.EvsAt w' w.heap.size vE (M.runF 80 M.f0 []).1.events∧Fr [] w w':=by
 obtain⟨sI,si,sz0,sz1,sz2⟩:=info_parts infoS
 obtain⟨bI,bi,bz0,bz1,bz2⟩:=info_parts infoB
 obtain⟨Z,hZ⟩:∃ Z,w.heap.size=Z:=⟨_,rfl⟩
 obtain⟨S,hS⟩:∃ S,reqs1B=S:=⟨_,rfl⟩
 rw[hS] at hl
 have HSB:=hid hS
 have hgl:gl<w.heap.size:=block_lt_of_cell (hl.at_ (j:=0) (u:=.int .i64 1) rfl)
 have HL:=hid hl
 have HZ:=hid hZ
 have HN:=hid (fun W (h:Z≤W.heap.size)=>new_any W Z h)
 rw[hZ]
 unfold cells0 at *
 clear hl hS
 go_enter Tryz.func18,Tryz.ntmps18
 go_wp2_with fail
 refine(HN.out _ (by simp;omega)).mono ?_
 rintro e w1 ⟨g,xp,rfl,hg,hs1,f1⟩
 have c60:=hid (show Holds w1 (Z+1) 62 #[.slice none 0 0,.slice none 0 0,.slice none 0 0,.slice none 0 0] from by
  refine Holds.fr ?_ f1 (by simp)
  exact at_new (by simp[hZ]))
 have F1:=hid (show Fr [] w w1 from (((Fr.refl _ _).alloc _).alloc _).trans f1)
 have HS1:=hid hs1
 clear hg hs1 f1
 go_upto_region 9 with fail
 obtain⟨N1,hN1⟩:∃ N1,w1.heap.size=N1:=⟨_,rfl⟩
 have hZN:Z+1<N1:=by rw[←hN1];exact c60.out.lt
 obtain⟨W2,hW2⟩:∃ W2,W2=((w1.alloc (.cells #[.pointer (some ⟨g,0,none⟩)] 24)).alloc (.cells #[.slice none 0 0,.slice none 0 0,.slice none 0 0,.slice none 0 0] 62)).alloc (.cells #[.slice none 0 0] 59):=⟨_,rfl⟩
 have P0:Pl w W2 Z g xp (Z+1) N1 (N1+1) (N1+1+1) ⟨M.core0,[],[]⟩ (.slice none 0 0) (.slice none 0 0) 0 0 [] []:=by
  have f:Fr [] w1 W2:=by rw[hW2];exact(((Fr.refl _ _).alloc _).alloc _).alloc _
  refine⟨F1.out.trans f,HS1.out.fr0 f,c60.out.fr f (by simp),?_,?_,?_,Own.nil _ _ _ _,Own.nil _ _ _ _⟩
  ·rw[hW2,←hN1];exact((Holds.new _ _ _).alloc _).alloc _
  ·rw[hW2];exact(at_new (by simp[hN1])).alloc _
  ·rw[hW2];exact at_new (by simp[hN1])
 have hW2s:W2.heap.size=N1+1+1+1:=by rw[hW2];simp[hN1]
 rw[←hW2]
 try simp only[hN1]
 have HP0:=hid P0
 have HQ:=hid (fun W (f:Fr [] w W)=>(show gl<W.heap.size∧W.cell? ⟨gl,0,none⟩=some (.int .i64 1)∧W.cell? ⟨gl,1,none⟩=some (.int .i64 0)∧W.cell? ⟨gl,2,none⟩=some (.int .i64 0)∧W.cell? ⟨gl,3,none⟩=some (.string ⟨#[]⟩)∧W.cell? ⟨gl,4,none⟩=some (.int .i64 2)∧W.cell? ⟨gl,5,none⟩=some (.int .i64 0)∧W.cell? ⟨gl,6,none⟩=some (.int .i64 0)∧W.cell? ⟨gl,7,none⟩=some (.string S) from by
  have H:=HL.out.fr0 f
  have h0:=fun (j:Nat) (u:Value) (hu:_=some u)=>H.at_ (j:=j) (u:=u) hu
  refine⟨Nat.lt_of_lt_of_le hgl f.size,?_,?_,?_,?_,?_,?_,?_,?_⟩
  ·simpa using h0 0 _ rfl
  ·simpa using h0 1 _ rfl
  ·simpa using h0 2 _ rfl
  ·simpa using h0 3 _ rfl
  ·simpa using h0 4 _ rfl
  ·simpa using h0 5 _ rfl
  ·simpa using h0 6 _ rfl
  ·simpa using h0 7 _ rfl))
 clear hW2 P0
 obtain⟨hq,q0,q1,q2,q3,q4,q5,q6,q7⟩:=HQ.out W2 HP0.out.fr
 have c8:=HP0.out.c8.cell 0
 simp at c8
 have hl8:N1<W2.heap.size:=by omega
 go_wp2_with fail
 refine wp_loop_rounds 3 ?_
 rw[rounds_succ]
 go_wp2_with fail
 have fa:Fr [] W2 (W2.alloc (.cells #[.int .i64 1,.int .i64 0,.int .i64 0,.string ⟨#[]⟩] 66)):=(Fr.refl _ _).alloc _
 have P1:=HP0.out.fr0 fa
 have ba:Holds (W2.alloc (.cells #[.int .i64 1,.int .i64 0,.int .i64 0,.string ⟨#[]⟩] 66)) (N1+1+1+1) 66 #[.int .i64 1,.int .i64 0,.int .i64 0,.string ⟨#[]⟩]:=at_new hW2s
 refine(do_open _ Z g xp k0 _ P1.srv (by decide) (by decide) (by simp) (by decide) (by rw[←HZ.out];exact P1.fr.size)).mono ?_
 rintro e w3 ⟨rfl,s3,x3⟩
 have HP3:=hid (P1.turn HZ.out s3 x3)
 have b3:=ba.frx x3 (by decide) (by simp)
 have d0:=b3.cell 0
 have hb3:=b3.lt
 simp at d0
 clear P1 fa s3 x3 ba q0 q1 q2 q3 q4 q5 q6 q7 c8 hl8 hW2s b3 HP0 hq
 go_upto_region 17 with fail
 have c11:=HP3.out.c11.cell 0
 have z11:=HP3.out.c11.frozen 0
 have l11:=HP3.out.c11.lt
 simp at c11
 go_upto_region 18 with(at_builtin;(refine wpList_append_sl rfl (.tmp 60) (.tmp 61) 59 rfl sI _ 16 Tryz.underlying59 si sz0 sz1 sz2 rfl (by decide) (.slice none 0 0) (ownOf (.slice none 0 0)) rfl (HP3.out.o11.sl.fr0 ((Fr.refl _ _).alloc _)) _ 1 1 [.string ⟨#[]⟩] rfl rfl (Cells.one (at_new (cs:=#[.string ⟨#[]⟩]) (t:=9) (by simp))) (by simp[Value.oneCell']) (by unfold maxLen;omega) (by omega) ?_;intro v7 w7 own7 hs7 hf7 ho7 hm7;obtain⟨a7,c7,rfl⟩:=hs7.form;have HP4:=hid (HP3.out.out HZ.out (by omega) ((Fr.refl _ _).alloc _) hs7 hf7 ho7 (hm7 (by omega)));clear hs7 hf7 ho7 hm7;have c11:=HP4.out.1.cell 0;have z11:=HP4.out.1.frozen 0;have l11:=HP4.out.1.lt;simp at c11))
 generalize hW4:w7.setCell ⟨N1+1+1,0,none⟩ (.slice a7 (0+1) c7)=W4 at *
 have HP4:=hid HP4.out.2
 clear hW4 c11 z11 l11 d0 hb3
 have c10:=HP4.out.c10.cell 2
 have z10:=HP4.out.c10.frozen 2
 have l10:=HP4.out.c10.lt
 simp at c10
 go_upto_region 19 with(at_builtin;(refine wpList_append_sl rfl (.tmp 64) (.tmp 66) 60 rfl bI _ 1 Tryz.underlying60 bi bz0 bz1 bz2 rfl (by decide) (.slice none 0 0) (ownOf (.slice none 0 0)) rfl (HP4.out.o10.sl.fr0 ((Fr.refl _ _).alloc _)) _ 1 1 [.bool true] rfl rfl (Cells.one (at_new (cs:=#[.bool true]) (t:=4) (by simp))) (by simp[Value.oneCell']) (by unfold maxLen;omega) (by omega) ?_;intro v8 w8 own8 hs8 hf8 ho8 hm8;obtain⟨a8,c8',rfl⟩:=hs8.form;have HP5:=hid (HP4.out.did HZ.out (by omega) (by omega) ((Fr.refl _ _).alloc _) hs8 hf8 ho8 (hm8 (by omega)));clear hs8 hf8 ho8 hm8;have c10:=HP5.out.1.cell 2;have z10:=HP5.out.1.frozen 2;have l10:=HP5.out.1.lt;simp at c10))
 generalize hW5:w8.setCell ⟨N1+1,2,none⟩ (.slice a8 (0+1) c8')=W5 at *
 have HP5:=hid HP5.out.2
 clear hW5 c10 z10 l10
 obtain⟨hq,q0,q1,q2,q3,q4,q5,q6,q7⟩:=HQ.out W5 HP5.out.fr
 have c8:=HP5.out.c8.cell 0
 have hl8:=HP5.out.c8.lt
 simp at c8
 go_wp2_with fail
 rw[rounds_succ]
 go_wp2_with fail
 simp only[Nat.zero_add,List.nil_append] at HP5
 have hW5s:∃ N5,W5.heap.size=N5:=⟨_,rfl⟩
 obtain⟨N5,hN5⟩:=hW5s
 have fa:Fr [] W5 (W5.alloc (.cells #[.int .i64 2,.int .i64 0,.int .i64 0,.string S] 66)):=(Fr.refl _ _).alloc _
 have P6:=HP5.out.fr0 fa
 have ba:Holds (W5.alloc (.cells #[.int .i64 2,.int .i64 0,.int .i64 0,.string S] 66)) N5 66 #[.int .i64 2,.int .i64 0,.int .i64 0,.string S]:=at_new hN5
 have hds:=do_send _ Z g xp k0 ⟨M.core0,[{}],[]⟩ {} M.reqs1 P6.srv rfl (by decide) (by decide) (by decide) (by
  show ((En.bytesOf (([]++M.reqs1).flatMap En.reqF)).size:Int)≤20006
  rw[En.bytesOf_size,List.nil_append]
  have:=reqs1_len
  omega)
 rw[show En.bytesOf (M.reqs1.flatMap En.reqF)=S from HSB.out] at hds
 refine hds.mono ?_
 rintro e w9 ⟨rfl,s9,x9⟩
 have hx9:FrX Z Uo [] _ w9:=x9.mono (Ts:=Uo) (fun t h=>by simp[Uo,h]) (fun _ h=>h)
 have HP9:=hid (show Pl w w9 Z g xp (Z+1) N1 (N1+1) (N1+1+1) M.f0 _ _ 1 1 _ _ from P6.turn HZ.out s9 hx9)
 have b9:=ba.frx hx9 (by decide) (by simp)
 have d0:=b9.cell 0
 have hb9:=b9.lt
 simp at d0
 have HN5:=hid hN5
 clear P6 fa s9 x9 hx9 ba q0 q1 q2 q3 q4 q5 q6 q7 c8 hl8 b9 HP5 hq hds hN5 HP4 HP3
 try simp only[HN5.out]
 have c10:=HP9.out.c10.cell 2
 have z10:=HP9.out.c10.frozen 2
 have l10:=HP9.out.c10.lt
 simp at c10
 go_upto_region 19 with(at_builtin;(refine wpList_append_sl rfl (.tmp 64) (.tmp 66) 60 rfl bI _ 1 Tryz.underlying60 bi bz0 bz1 bz2 rfl (by decide) (.slice a8 1 c8') (ownOf (.slice a8 1 c8')) rfl (HP9.out.o10.sl.fr0 ((Fr.refl _ _).alloc _)) _ 1 1 [.bool true] rfl rfl (Cells.one (at_new (cs:=#[.bool true]) (t:=4) (by simp))) (by simp[Value.oneCell']) (by unfold maxLen;omega) (by omega) ?_;intro v10 w10 own10 hs10 hf10 ho10 hm10;obtain⟨a10,c10',rfl⟩:=hs10.form;have HP10:=hid (HP9.out.did HZ.out (by omega) (by omega) ((Fr.refl _ _).alloc _) hs10 hf10 ho10 (hm10 (by omega)));clear hs10 hf10 ho10 hm10;have c10:=HP10.out.1.cell 2;have z10:=HP10.out.1.frozen 2;have l10:=HP10.out.1.lt;simp at c10))
 have HP10:=hid HP10.out.2
 generalize hW10:w10.setCell ⟨N1+1,2,none⟩ (.slice a10 (1+1) c10')=W10 at *
 clear hW10 c10 z10 l10 d0 hb9 HP9
 go_wp2_with fail
 rw[rounds_succ]
 go_wp2_with fail
 have hrow:∃ go co,Value.slice a7 1 c7 = .slice (some ⟨go,0,none⟩) 1 co∧Z≤go:=by
  obtain⟨go,co,h1,h2,_⟩:=HP10.out.o11.pos (by omega)
  exact⟨go,co,h2,h1⟩
 obtain⟨go,co,hgo,hgoZ⟩:=hrow
 injection hgo with e1 _ e3
 subst e1
 subst e3
 obtain⟨co,hco⟩:∃ co,co=c7:=⟨_,rfl⟩
 subst hco
 go_loopw [71] (fun i wr=>∃ (j t:Nat) (s:M.Srv) (o:List M.Resp),i = .int .i64 j∧j+t=80∧M.runF t s o=M.runF 80 M.f0 []∧okF t s o=true∧Pl w wr Z g xp (Z+1) N1 (N1+1) (N1+1+1) s (.slice (some ⟨go,0,none⟩) 1 co) (.slice a10 (1+1) c10') 1 (1+1) [.string (En.bytesOf (o.flatMap En.respF))] [.bool true,.bool true]) (fun i _=>80 - (intOf i).toNat)
 case atStart=>exact⟨0,80,M.f0,[],rfl,rfl,rfl,ok_first,HP10.out⟩
 case round =>
  obtain⟨j,tt,s,o,rfl,hjt,hrun,hok,P⟩:=hrel
  have c8:=P.c8.cell 0
  have c11:=P.c11.cell 0
  have l8:=P.c8.lt
  have l11:=P.c11.lt
  simp at c8 c11
  have HR:=hid hrun
  have HP:=hid P
  clear HP10 P hrun
  cases tt with
  | succ tt =>
   have hj1:(j:Int)<80:=by omega
   simp only[okF,Bool.and_eq_true,decide_eq_true_eq] at hok
   obtain⟨⟨⟨⟨⟨hm,hc1⟩,hev⟩,hol⟩,hout⟩,hok2⟩:=hok
   have hlt:0<s.conns.length:=by omega
   have HK:=hid (And.intro hm (And.intro hc1 (And.intro hout hok2)))
   have hpk:=hid (pick_any wr Z g xp 0 k0 s HP.out.srv hlt hm (by decide) (by decide) (by rw[←HZ.out];exact HP.out.fr.size) (by omega))
   clear hm hc1 hev hout hok2
   go_wp2_with fail
   refine wp_loop_rounds 2 ?_
   rw[rounds_succ]
   go_wp2_with fail
   refine hpk.out.mono ?_
   rintro e w11 ⟨rfl,s11,x11⟩
   have P11:=HP.out.turn HZ.out s11 (x11.mono (Ts:=Uo) (fun t h=>by simp[Uo,h]) (fun _ h=>h))
   have HP11:=hid P11
   have hlen11:(s.pick 0).conns.length=1:=by rw[(pick_len s 0).2];exact HK.out.2.1
   obtain⟨m,hm⟩:∃ m,(s.pick 0).conns[0]? = some m:=⟨_,List.getElem?_eq_getElem (by omega)⟩
   have hmo:(s.pick 0).outs 0=m.out:=by simp[M.Srv.outs,hm]
   have hmt:(s.pick 0).take 0={ (s.pick 0) with conns:=(s.pick 0).conns.set 0 { m with out:=[] } }:=by simp[M.Srv.take,hm]
   have hoB:(outB m).size≤40000:=by
    unfold outB
    rw[En.bytesOf_size,←hmo]
    exact HK.out.2.2.1
   obtain⟨gg,cc,hz1,hz2,hrw⟩:=P11.o11.pos (by omega)
   injection hz2 with e1 _ e3
   cases e1
   subst e3
   have htk:=hid (take_clo w11 Z g xp k0 (s.pick 0) m N1 (N1+1+1) go co _ P11.srv hm hoB P11.c8 P11.c11 hrw hgoZ (by rw[En.bytesOf_size];omega))
   have HM:=hid (And.intro hmo hmt)
   have d8:=P11.c8.cell 0
   have d11:=P11.c11.cell 0
   have k8:=P11.c8.lt
   have k11:=P11.c11.lt
   simp at d8 d11
   clear c8 c11 l8 l11 s11 x11 P11 hlen11 hm hmo hmt hoB hrw hz1 hpk hol
   go_wp2_with fail
   rw[rounds_succ]
   go_wp2_with fail
   refine wp_loop_rounds 2 ?_
   rw[rounds_succ]
   go_wp2_with fail
   refine htk.out.mono ?_
   rintro e w12 ⟨⟨b12,rfl⟩,s12,r12,x12⟩
   have x12':FrX Z Uo [go] w11 w12:=x12.mono (fun t h=>by simp[Uo,h]) (fun _ h=>h)
   have hty:∀ {g' t:Nat} {cs:Array Value},Holds w11 g' t cs→t≠9→g'∉[go]:=fun hg ht hm=>by
    simp at hm
    subst hm
    obtain⟨gg,cc,hz1,hz2,hrw⟩:=HP11.out.o11.pos (by omega)
    injection hz2 with e1 _ e3
    cases e1
    have h1:=hrw.ty
    rw[hg.ty] at h1
    exact ht (Option.some.inj h1)
   have P12:Pl w w12 Z g xp (Z+1) N1 (N1+1) (N1+1+1) ((s.pick 0).take 0) (.slice (some ⟨go,0,none⟩) 1 co) (.slice a10 (1+1) c10') 1 (1+1) [.string (En.bytesOf ((o++(s.pick 0).outs 0).flatMap En.respF))] [.bool true,.bool true]:=by
    have P11:=HP11.out
    refine⟨FrX.below (B:=Z) (((FrX.of_fr0 (Ts:=Uo) (S:=[go]) P11.fr)).trans x12') (by have:=HZ.out;omega),by rw[HM.out.2];exact s12,P11.c6.frx x12' (by decide) (hty P11.c6 (by decide)),P11.c8.frx x12' (by decide) (hty P11.c8 (by decide)),P11.c10.frx x12' (by decide) (hty P11.c10 (by decide)),P11.c11.frx x12' (by decide) (hty P11.c11 (by decide)),?_,?_⟩
    ·refine .inr ⟨go,co,hgoZ,rfl,?_⟩
     have e:En.bytesOf (o.flatMap En.respF)++outB m=En.bytesOf ((o++(s.pick 0).outs 0).flatMap En.respF):=by
      unfold outB
      rw[En.bytesOf_append,HM.out.1,List.flatMap_append]
     rw[←e]
     exact r12
    ·refine P11.o10.frx x12' (by decide) fun g' hg' hm=>?_
     simp at hm
     subst hm
     obtain⟨gg,cc,hz1,hz2,hrw⟩:=P11.o11.pos (by omega)
     injection hz2 with e1 _ e3
     cases e1
     have h1:=hrw.ty
     rw[(P11.o10.ty hg').1] at h1
     cases h1
   have HP12:=hid P12
   clear P12 s12 r12 x12 x12' hty d8 d11 k8 k11 htk
   go_wp2_with fail
   rw[rounds_succ]
   go_wp2_with fail
   go_roundw
   case rel=>exact⟨j+1,tt,_,_,by go_num,by omega,HR.out,HK.out.2.2.2,HP12.out⟩
   case measure=>simp[intOf];omega
  | zero =>
   obtain rfl:j=80:=by omega
   have hfin:(s,o)=M.runF 80 M.f0 []:=HR.out
   have HFI:=hid hfin
   clear hfin
   have PE:=HP.out
   have hm1:s.conns.length=1:=by
    have h1:=HFI.out
    have h2:=M.run_first.2.2
    rw[←h1] at h2
    exact h2
   obtain⟨m,hm⟩:∃ m,s.conns[0]? = some m:=⟨_,List.getElem?_eq_getElem (by omega)⟩
   have b10:=PE.c10
   have e0:=b10.cell 0
   have y0:=b10.frozen 0
   have l10:=b10.lt
   simp at e0
   have hEV:=hid (show s.events.length≤100000 from by
    simp only[okF,Bool.and_eq_true,decide_eq_true_eq] at hok
    omega)
   have HM:=hid hm
   clear hm1 hok b10 PE hm
   go_upto_region 34 with fail
   obtain⟨V1,hV1⟩:∃ V1,V1=wr.setCell ⟨N1+1,0,none⟩ (.slice (some ⟨go,0,none⟩) 1 co):=⟨_,rfl⟩
   rw[←hV1]
   have x1:FrX Z [62] [] wr V1:=by rw[hV1];exact FrX.of_frT ((Fr.refl [N1+1] _).setCell (by simp) _) (by simp;omega) (fun y hy=>⟨62,by simp,by simp at hy;subst hy;exact HP.out.c10.ty⟩)
   have HV:=hid (show SrvAt V1 Z g xp k0 s∧Holds V1 N1 24 #[.pointer (some ⟨g,0,none⟩)]∧Holds V1 (N1+1) 62 #[.slice (some ⟨go,0,none⟩) 1 co,.slice none 0 0,.slice a10 (1+1) c10',.slice none 0 0]∧Holds V1 (N1+1+1) 59 #[.slice (some ⟨go,0,none⟩) 1 co]∧Holds V1 (Z+1) 62 #[.slice none 0 0,.slice none 0 0,.slice none 0 0,.slice none 0 0]∧Row V1 9 1 go 1 co [.string (En.bytesOf (o.flatMap En.respF))]∧Fr [] w V1 from by
    have P:=HP.out
    obtain⟨gg,cc,hz1,hz2,hrw⟩:=P.o11.pos (by omega)
    injection hz2 with e1 _ e3
    cases e1
    subst e3
    have hr1:=hrw.frx x1 (by decide) (by simp)
    refine⟨P.srv.frx x1 (by decide),P.c8.frx x1 (by decide) (by simp),by rw[hV1];simpa using P.c10.set 0 (.slice (some ⟨go,0,none⟩) 1 co),P.c11.frx x1 (by decide) (by simp),by rw[hV1];exact P.c6.far (by simp;omega) _,hr1,Fr.trans_x P.fr HZ.out x1⟩)
   have d8:=HV.out.2.1.cell 0
   have d11:=HV.out.2.2.2.1.cell 0
   have k8:=HV.out.2.1.lt
   have k11:=HV.out.2.2.2.1.lt
   have k10:=HV.out.2.2.1.lt
   have e1:=HV.out.2.2.1.cell 1
   have y1:=HV.out.2.2.1.frozen 1
   simp at d8 d11 e1
   clear hV1 x1 e0 y0 l10 c8 c11 l8 l11
   go_wp2_with fail
   refine wp_loop_rounds 2 ?_
   rw[rounds_succ]
   obtain⟨nI,ni,nz0,nz1,nz2⟩:=info_parts infoN
   have HST:=hid (fun W (f:Fr [] V1 W)=>state_any W Z g xp 0 k0 s m (HV.out.1.fr0 f) HM.out)
   go_wp2_with fail
   go_region_law (first
    | (refine step_append_sl rfl (.tmp 100) (.tmp 104) 22 rfl nI _ 8 Tryz.underlying22 ni nz0 nz1 nz2 rfl (by decide) (.slice none 0 0) none rfl (Sl.nil _ _ _) _ 1 1 [.int .i64 m.state] rfl rfl (Cells.one (at_new (cs:=#[.int .i64 m.state]) (t:=3) (by simp))) (by simp[Value.oneCell']) (by unfold maxLen;omega) (by omega) ?_;intro v13 w13 own13 hs13 hf13 ho13 hm13;obtain⟨a13,c13,rfl⟩:=hs13.form;have f13:Fr [] V1 w13:=Fr.trans (by repeat (first|exact Fr.refl _ _|apply Fr.alloc|apply Fr.drewN|apply Fr.drew)) hf13;have u1:=f13.cell e1 k10 (by simp);have q10:=HV.out.2.2.1.fr f13 (by simp);have y1:=q10.frozen 1;have k10':=q10.lt)
    | (go_simp;go_at_call 11;refine(HST.out _ (by first|exact Fr.refl _ _|exact(Fr.refl _ _).drewN _|exact(Fr.refl _ _).drew)).mono ?_;rintro e w' ⟨rfl,rfl⟩))
   all_goals
    obtain⟨V2,hV2⟩:∃ V2,V2=w13.setCell ⟨N1+1,1,none⟩ (.slice a13 1 c13):=⟨_,rfl⟩
    rw[←hV2]
    have HW:=hid (show SrvAt V2 Z g xp k0 s∧Holds V2 N1 24 #[.pointer (some ⟨g,0,none⟩)]∧Holds V2 (N1+1) 62 #[.slice (some ⟨go,0,none⟩) 1 co,.slice a13 1 c13,.slice a10 (1+1) c10',.slice none 0 0]∧Holds V2 (N1+1+1) 59 #[.slice (some ⟨go,0,none⟩) 1 co]∧Holds V2 (Z+1) 62 #[.slice none 0 0,.slice none 0 0,.slice none 0 0,.slice none 0 0]∧Row V2 9 1 go 1 co [.string (En.bytesOf (o.flatMap En.respF))]∧Fr [] w V2 from by
     have x2:FrX Z [62] [] w13 V2:=by rw[hV2];exact FrX.of_frT ((Fr.refl [N1+1] _).setCell (by simp) _) (by simp;omega) (fun y hy=>⟨62,by simp,by simp at hy;subst hy;exact q10.ty⟩)
     obtain⟨k1,k2,k3,k4,k5,k6,k7⟩:=HV.out
     exact⟨(k1.fr0 f13).frx x2 (by decide),(k2.fr f13 (by simp)).frx x2 (by decide) (by simp),by rw[hV2];simpa using q10.set 1 (.slice a13 1 c13),(k4.fr f13 (by simp)).frx x2 (by decide) (by simp),by rw[hV2];exact(k5.fr f13 (by simp)).far (by simp;omega) _,(k6.fr f13 (by simp)).frx x2 (by decide) (by simp),Fr.trans_x (k7.trans f13) HZ.out x2⟩)
    have r8:=HW.out.2.1.cell 0
    have r11:=HW.out.2.2.2.1.cell 0
    have rl8:=HW.out.2.1.lt
    have rl11:=HW.out.2.2.2.1.lt
    simp at r8 r11
    have HEE:=hid (events_any V2 Z g xp k0 s HW.out.1 hEV.out)
    have hZV:Z≤V2.heap.size:=by rw[←HZ.out];exact HW.out.2.2.2.2.2.2.size
    clear hV2 u1 q10 k10' d8 d11 k8 k11 k10 e1 f13 hf13 ho13 hm13 hs13
    go_wp2_with fail
    rw[rounds_succ]
    go_wp2_with fail
    refine HEE.out.mono ?_
    rintro e w14 ⟨v,rfl,ev14,f14⟩
    obtain⟨va,vn,vc,rfl⟩:∃ va vn vc,v = .slice va vn vc:=by
     obtain⟨L,hL,ho,hat⟩:=ev14.at_
     obtain⟨va,vc,h⟩:=ho.form
     exact⟨va,_,vc,h⟩
    have HE14:=hid (And.intro (EvsAt.down ev14 hZV) f14)
    have q10:=HW.out.2.2.1.fr f14 (by simp)
    have y3:=q10.frozen 3
    have l10:=q10.lt
    have s3:=q10.cell 3
    simp at s3
    clear ev14 f14 q10 r8 r11 rl8 rl11
    go_upto_region 40 with fail
    obtain⟨V3,hV3⟩:∃ V3,V3=w14.setCell ⟨N1+1,3,none⟩ (.slice va vn vc):=⟨_,rfl⟩
    rw[←hV3]
    have HX:=hid (show Holds V3 (N1+1) 62 #[.slice (some ⟨go,0,none⟩) 1 co,.slice a13 1 c13,.slice a10 (1+1) c10',.slice va vn vc]∧Holds V3 (Z+1) 62 #[.slice none 0 0,.slice none 0 0,.slice none 0 0,.slice none 0 0]∧Row V3 9 1 go 1 co [.string (En.bytesOf (o.flatMap En.respF))]∧Ev.EvsAt V3 Z (.slice va vn vc) s.events∧Fr [] w V3 from by
     obtain⟨k1,k2,k3,k4,k5,k6,k7⟩:=HW.out
     obtain⟨ev,f⟩:=HE14.out
     have q:=k3.fr f (by simp)
     have x2:FrX Z [62] [] w14 V3:=by rw[hV3];exact FrX.of_frT ((Fr.refl [N1+1] _).setCell (by simp) _) (by simp;omega) (fun y hy=>⟨62,by simp,by simp at hy;subst hy;exact q.ty⟩)
     exact⟨by rw[hV3];simpa using q.set 3 (.slice va vn vc),by rw[hV3];exact(k5.fr f (by simp)).far (by simp;omega) _,(k6.fr f (by simp)).frx x2 (by decide) (by simp),ev.frx x2 (by decide) (by decide) (by decide),Fr.trans_x (k7.trans f) HZ.out x2⟩)
    have t0:=HX.out.1.cell 0
    have t1:=HX.out.1.cell 1
    have t2:=HX.out.1.cell 2
    have t3:=HX.out.1.cell 3
    have tl:=HX.out.1.lt
    have v0:=HX.out.2.1.cell 0
    have v1:=HX.out.2.1.cell 1
    have v2:=HX.out.2.1.cell 2
    have v3:=HX.out.2.1.cell 3
    have vz:=fun j=>HX.out.2.1.frozen j
    have z0:=vz 0
    have z1:=vz 1
    have z2:=vz 2
    have z3:=vz 3
    have vl:=HX.out.2.1.lt
    simp at t0 t1 t2 t3 v0 v1 v2 v3
    clear hV3 y3 l10 s3 vz
    go_wp2_with fail
    obtain⟨V4,hV4⟩:∃ V4,V4=(((V3.setCell ⟨Z+1,0,none⟩ (.slice (some ⟨go,0,none⟩) 1 co)).setCell ⟨Z+1,1,none⟩ (.slice a13 1 c13)).setCell ⟨Z+1,2,none⟩ (.slice a10 2 c10')).setCell ⟨Z+1,3,none⟩ (.slice va vn vc):=⟨_,rfl⟩
    rw[←hV4]
    have q4:Holds V4 (Z+1) 62 #[.slice (some ⟨go,0,none⟩) 1 co,.slice a13 1 c13,.slice a10 2 c10',.slice va vn vc]:=by rw[hV4];simpa using (((HX.out.2.1.set 0 (.slice (some ⟨go,0,none⟩) 1 co)).set 1 (.slice a13 1 c13)).set 2 (.slice a10 2 c10')).set 3 (.slice va vn vc)
    have x4:FrX Z [62] [] V3 V4:=by rw[hV4];exact FrX.of_frT (((((Fr.refl [Z+1] _).setCell (by simp) _).setCell (by simp) _).setCell (by simp) _).setCell (by simp) _) (by simp) (fun y hy=>⟨62,by simp,by simp at hy;subst hy;exact HX.out.2.1.ty⟩)
    refine bodyPost_ret (ret_run _ _ (Z+1) _ _ _ _ q4 rfl rfl) rfl ⟨go,co,_,_,_,rfl,?_,rfl,rfl,⟨_,_,_,rfl⟩,?_,Fr.trans_x HX.out.2.2.2.2 HZ.out x4⟩
    ·have r:=HX.out.2.2.1.frx x4 (by decide) (by simp)
     have h2:o=M.resps1:=by
      have h:=congrArg Prod.snd HFI.out
      rw[M.run_first.1] at h
      exact h
     rw[←h2]
     exact r.cell rfl
    ·have h1:s.events=(M.runF 80 M.f0 []).1.events:=congrArg (fun x=>x.1.events) HFI.out
     rw[←h1]
     exact HX.out.2.2.2.1.frx x4 (by decide) (by decide) (by decide)
end Go.Proofs.YtjmkkcckfbnmeaaGreatDoor.Sv
