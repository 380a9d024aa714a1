/- Walks. -/
import Derived.Test.YtocppjcocnckmaaGreatDoorM41
import Derived.Test.YtocppjcocnckmaaGreatDoorM49
import Derived.Lib.LazyBuf
set_option maxRecDepth 100000
set_option maxHeartbeats 8000000
set_option linter.all false
open Go.Lib (hid)
namespace Go.Proofs.YtocppjcocnckmaaGreatDoor
open Go.Proofs.Tryz
namespace Hi
open Go.RowKit Cr Sv Pr
theorem BT (w:World)(B:Nat)(v:Value)(l:List M.Op)(h:Ev.bD w B v l)(hl:l.length<=20) :
  Calls prog 58 #[v] w λe w'=>∃ v',e = .returned v'/\Ev.bD w' w.heap.size v' l/\Fr [] w w':=by
 obtain⟨i3,hi,hz0,hz1,hz2⟩:=info_parts Lp.dU
 have ke:=λ(W:World) (a:Option Addr) (l c:Nat)=>Go.run_eql_slice_nil (P:=prog) W 35 43 a l c underlying35
 rcases h with⟨rfl,hn,hx⟩|⟨g,cap,hg,rfl,hr⟩
 ·obtain rfl:=List.eq_nil_of_length_eq_zero hn
  go_enter func58,ntmps58
  go_wp2_with fail
  go_ret
  exact⟨_,rfl,Own.nil _ _ _ _,rZ⟩
 have f0:Fr [] w (w.alloc (.cells #[] 43)):=(Fr.refl [] w).alloc _
 have r0:Row (w.alloc (.cells #[] 43)) 43 5 w.heap.size 0 0 []:=Row.new w #[] (by simp) (by decide)
 have hc:=(hr.fr f0 (by simp)).cells
 have hlen:=hr.length
 go_enter func58,ntmps58
 go_wp2_with (at_builtin;(refine af rfl (.tmp 5) (.tmp 6) 35 rfl i3 _ 56 underlying35 hi hz0 hz1 hz2 rfl (by decide) _ _ rfl (Sl.row r0) _ l.length cap (flat Lp.cs l) rfl hlen hc (cm (λ_=>Lp.cQ) _) (by unfold maxLen;omega) (by omega) ?_;intro v1 w2 own1 hs1 hf1 ho1 hm1;obtain⟨g1,c1,rfl,rfl,hg2,r2⟩:=bV (B:=w.heap.size) hs1 ho1 f0.size (Nat.le_refl _);have f2:Fr [] w w2:=f0.step hf1 (by simp);simp only[Nat.zero_add,List.nil_append] at r2))
 go_ret
 exact⟨_,rfl,.inr ⟨g1,c1,hg2,rfl,r2⟩,f2⟩
theorem BU (w:World)(B:Nat)(v:Value)(l:List M.Item)(h:Ev.aV w B v l)(hl:l.length<=20) :
  Calls prog 59 #[v] w λe w'=>∃ v',e = .returned v'/\Ev.aV w' w.heap.size v' l/\Fr [] w w':=by
 obtain⟨i3,hi,hz0,hz1,hz2⟩:=info_parts Ev.pf
 have ke:=λ(W:World) (a:Option Addr) (l c:Nat)=>Go.run_eql_slice_nil (P:=prog) W 53 59 a l c underlying53
 rcases h with⟨rfl,hn,hx⟩|⟨g,cap,hg,rfl,hr⟩
 ·obtain rfl:=List.eq_nil_of_length_eq_zero hn
  go_enter func59,ntmps59
  go_wp2_with fail
  go_ret
  exact⟨_,rfl,Own.nil _ _ _ _,rZ⟩
 have f0:Fr [] w (w.alloc (.cells #[] 59)):=(Fr.refl [] w).alloc _
 have r0:Row (w.alloc (.cells #[] 59)) 59 4 w.heap.size 0 0 []:=Row.new w #[] (by simp) (by decide)
 have hc:=(hr.fr f0 (by simp)).cells
 have hlen:=hr.length
 go_enter func59,ntmps59
 go_wp2_with (at_builtin;(refine af rfl (.tmp 5) (.tmp 6) 53 rfl i3 _ 48 underlying53 hi hz0 hz1 hz2 rfl (by decide) _ _ rfl (Sl.row r0) _ l.length cap (flat Ev.ic l) rfl hlen hc (cm Ev.kj _) (by unfold maxLen;omega) (by omega) ?_;intro v1 w2 own1 hs1 hf1 ho1 hm1;obtain⟨g1,c1,rfl,rfl,hg2,r2⟩:=bV (B:=w.heap.size) hs1 ho1 f0.size (Nat.le_refl _);have f2:Fr [] w w2:=f0.step hf1 (by simp);simp only[Nat.zero_add,List.nil_append] at r2))
 go_ret
 exact⟨_,rfl,.inr ⟨g1,c1,hg2,rfl,r2⟩,f2⟩
theorem kp (w:World)(B:Nat)(kind conn seq:Int)(tt:ByteArray)(q:M.Req)(vo:Value)(a:M.aU)(vi:Value)(ho:Ev.bD w B vo q.ops)(hi:Ev.aV w B vi a.items)(hl1:q.ops.length<=20)(hl2:a.items.length<=20)(hB:B<=w.heap.size) :
  Calls prog 27 #[.agg (evC kind conn seq tt q vo a vi)] w λe w'=>∃ vo' vi',e = .returned (.agg (evC kind conn seq tt q vo' a vi'))/\vo'.oneCell'=true/\vi'.oneCell'=true/\Fr [] w w':=by
 obtain⟨Z,hZ⟩:∃ Z,w.heap.size=Z:=⟨_,rfl⟩
 obtain⟨W,hW⟩:∃ W,W=(w.alloc (.cells (evC kind conn seq tt q vo a vi) 57)).alloc (.cells (evC 0 0 0 ⟨#[]⟩ { kind:=0 } (.slice none 0 0) { kind:=0 } (.slice none 0 0)) 57):=⟨_,rfl⟩
 have fW:Fr [] w W:=by rw[hW];exact(rZ.alloc _).alloc _
 have b1:Holds W Z 57 (evC kind conn seq tt q vo a vi):=by rw[hW,<-hZ];exact(Holds.new _ _ _).alloc _
 have b2:Holds W (Z+1) 57 (evC 0 0 0 ⟨#[]⟩ { kind:=0 } (.slice none 0 0) { kind:=0 } (.slice none 0 0)):=by rw[hW];exact aE (by simp[hZ])
 have HC1:=hid (BT W B vo q.ops (Own.fr0 ho fW) hl1)
 have HI:=hid (Own.fr0 hi fW)
 have p11:=b1.cell 11
 simp[evC] at p11
 have B1:=hid b1
 have B2:=hid b2
 have FW:=hid fW
 have hbl:=b1.lt
 clear b1 b2 fW ho hi
 simp only[evC] at hW ⊢
 go_enter func27,ntmps27
 go_upto_region 1 with fail
 rw[<-hW]
 try simp only[hZ]
 clear hW
 go_wp2_with fail
 refine HC1.mono ?_
 rintro e w2 ⟨v2',rfl,o2,f2⟩
 obtain⟨a2,k2,hv2'⟩:=Own.form o2
 subst hv2'
 have b2':=B1.fr f2 (by simp)
 have c11:=b2'.cell 11
 have z11:=b2'.frozen 11
 have l2:=b2'.lt
 simp[evC] at c11
 have B3:=hid (show Holds (w2.setCell ⟨Z,11,none⟩ (.slice a2 q.ops.length k2)) Z 57 (evC kind conn seq tt q (.slice a2 q.ops.length k2) a vi) by simpa[evC] using b2'.set 11 (.slice a2 q.ops.length k2))
 have F3:=hid (show Fr [] w (w2.setCell ⟨Z,11,none⟩ (.slice a2 q.ops.length k2)) from Ev.Fr.aw (p:=⟨Z,11,none⟩) (FW.trans f2) (by rw[hZ];exact Nat.le_refl _) _)
 have B23:=hid (show Holds (w2.setCell ⟨Z,11,none⟩ (.slice a2 q.ops.length k2)) (Z+1) 57 (evC 0 0 0 ⟨#[]⟩ { kind:=0 } (.slice none 0 0) { kind:=0 } (.slice none 0 0)) from (B2.fr f2 (by simp)).far (by simp) _)
 have hv2:=Ev.Own.jK o2
 have x3:FrX B [57] [] w2 (w2.setCell ⟨Z,11,none⟩ (.slice a2 q.ops.length k2)):=FrX.aB ((Fr.refl [Z] _).setCell (by simp) _) (by simp;omega) (λy hy=>⟨57,by simp,by simp at hy;subst hy;exact b2'.ty⟩)
 have HC2:=hid (BU _ B vi a.items ((Own.fr0 HI f2).bf x3 (by decide)) hl2)
 have d22:=B3.cell 22
 simp[evC] at d22
 have HV2:=hid hv2
 clear x3 o2 f2 b2' hv2
 go_upto_region 2 with fail
 generalize hW3:w2.setCell ⟨Z,11,none⟩ (.slice a2 q.ops.length k2)=W3 at *
 clear hW3 c11 z11 p11
 have l3:=B3.lt
 go_wp2_with fail
 refine HC2.mono ?_
 rintro e w4 ⟨v4',rfl,o4,f4⟩
 obtain⟨a4,k4,hv4'⟩:=Own.form o4
 subst hv4'
 have b4:=B3.fr f4 (by simp)
 have c22:=b4.cell 22
 have z22:=b4.frozen 22
 have l4:=b4.lt
 simp[evC] at c22
 have B5:=hid (show Holds (w4.setCell ⟨Z,22,none⟩ (.slice a4 a.items.length k4)) Z 57 (evC kind conn seq tt q (.slice a2 q.ops.length k2) a (.slice a4 a.items.length k4)) by simpa[evC] using b4.set 22 (.slice a4 a.items.length k4))
 have B25:=hid (show Holds (w4.setCell ⟨Z,22,none⟩ (.slice a4 a.items.length k4)) (Z+1) 57 (evC 0 0 0 ⟨#[]⟩ { kind:=0 } (.slice none 0 0) { kind:=0 } (.slice none 0 0)) from (B23.fr f4 (by simp)).far (by simp) _)
 have F5:=hid (show Fr [] w (w4.setCell ⟨Z,22,none⟩ (.slice a4 a.items.length k4)) from Ev.Fr.aw (p:=⟨Z,22,none⟩) (F3.trans f4) (by rw[hZ];exact Nat.le_refl _) _)
 have HV4:=hid (Ev.Own.jK o4)
 clear o4 f4 b4 d22
 go_upto_region 3 with fail
 generalize hW5:w4.setCell ⟨Z,22,none⟩ (.slice a4 a.items.length k4)=W5 at *
 clear hW5 c22 z22
 obtain⟨C,hC⟩:∃ C,C=evC kind conn seq tt q (.slice a2 q.ops.length k2) a (.slice a4 a.items.length k4):=⟨_,rfl⟩
 have HCC:=hid hC
 have B6:=hid (show Holds W5 Z 57 C by rw[hC];exact B5)
 clear hC
 go_wp2_with (first|(refine cV rfl 57 (.tmp 2) (.tmp 15) rfl (Z+1) C rfl rfl 57 _ B25 (by rw[HCC];exact dL) (by rw[HCC];rfl) (by rw[HCC];simp[evC,HV2.out,HV4.out,Value.oneCell']) ?_;intro W7 b7 f7)|(refine wpList_load_row rfl 57 (.tmp 1) rfl Z rfl 57 C (0,0) _ B6 underlying57 rfl (by rw[HCC];exact dL) ?_))
 refine bodyPost_ret (results_cell_row rfl _ _ (Z+1) 57 C (0,0) _ rfl b7 underlying57 rfl (by rw[HCC];exact dL)) rfl ?_
 refine⟨(.slice a2 q.ops.length k2),(.slice a4 a.items.length k4),by rw[HCC];rfl,HV2,HV4,F5.step f7 (λx hx=>.inr (by simp at hx;omega))⟩
def gW (conn seq:Int)(r:Ev.Raw):Bool:=r.kind==3&&(r.conn==conn&&r.seq==seq)
theorem BR (w:World)(b:Nat)(conn seq:Int)(r:Ev.Raw)(h1:w.cell? ⟨b,1,none⟩=some (.int .i64 conn))(h2:w.cell? ⟨b,2,none⟩=some (.int .i64 seq)) :
  cA 26 #[.agg r.cells.toArray,.pointer (some ⟨b,0,none⟩)] w (.bool (gW conn seq r)):=by
 obtain⟨N,hN⟩:∃ N,w.heap.size=N:=⟨_,rfl⟩
 obtain⟨W,hW⟩:∃ W,W=w.alloc (.cells r.cells.toArray 57):=⟨_,rfl⟩
 have fW:Fr [] w W:=by rw[hW];exact rZ.alloc _
 have b1:Holds W N 57 r.cells.toArray:=by rw[hW,<-hN];exact Holds.new _ _ _
 have d0:W.cell? ⟨N,0,none⟩=some (.int .i64 r.kind):=b1.cell 0
 have d1:W.cell? ⟨N,1,none⟩=some (.int .i64 r.conn):=b1.cell 1
 have d2:W.cell? ⟨N,2,none⟩=some (.int .i64 r.seq):=b1.cell 2
 have c1:=fW.cell h1 (block_lt_of_cell h1) (by simp)
 have c2:=fW.cell h2 (block_lt_of_cell h2) (by simp)
 have hl:=b1.lt
 have hbl:=block_lt_of_cell c1
 simp only at hbl
 have FW:=hid fW
 obtain⟨C,hC⟩:∃ C,r.cells.toArray=C:=⟨_,rfl⟩
 rw[hC] at hW ⊢
 clear fW b1 h1 h2
 by_cases e3:r.kind=3
 ·by_cases e1:r.conn=conn
  ·by_cases e2:r.seq=seq
   ·have hr:gW conn seq r=true:=by simp[gW,e1,e2,e3]
    have t3:(r.kind==3)=true:=by simp[e3]
    have t1:(r.conn==conn)=true:=by simp[e1]
    have t2:(r.seq==seq)=true:=by simp[e2]
    clear e1 e2 e3
    rw[hr]
    go_enter func26,ntmps26
    go_upto_region 1 with fail
    rw[<-hW]
    try simp only[hN]
    clear hW hC
    go_wp2_with fail
    go_ret
    exact⟨by simp[t1,t2,t3],FW.out⟩
   have hr:gW conn seq r=false:=by simp[gW,e2]
   have t3:(r.kind==3)=true:=by simp[e3]
   have t1:(r.conn==conn)=true:=by simp[e1]
   have t2:(r.seq==seq)=false:=by simp[e2]
   clear e1 e2 e3
   rw[hr]
   go_enter func26,ntmps26
   go_upto_region 1 with fail
   rw[<-hW]
   try simp only[hN]
   clear hW hC
   go_wp2_with fail
   go_ret
   exact⟨by simp[t2],FW.out⟩
  have hr:gW conn seq r=false:=by simp[gW,e1]
  have t3:(r.kind==3)=true:=by simp[e3]
  have t1:(r.conn==conn)=false:=by simp[e1]
  clear e1 e3
  rw[hr]
  go_enter func26,ntmps26
  go_upto_region 1 with fail
  rw[<-hW]
  try simp only[hN]
  clear hW hC
  go_wp2_with fail
  go_ret
  exact⟨by simp[t1],FW.out⟩
 have hr:gW conn seq r=false:=by simp[gW,e3]
 have t3:(r.kind==3)=false:=by simp[e3]
 clear e3
 rw[hr]
 go_enter func26,ntmps26
 go_upto_region 1 with fail
 rw[<-hW]
 try simp only[hN]
 clear hW hC
 go_wp2_with fail
 go_ret
 exact⟨by simp[t3],FW.out⟩
def om (w:World)(p:Option Addr)(L:List Ev.Raw):Prop:=∀ (k:Nat) r,L[k]? = some r->∃ b o,p=some ⟨b,o,none⟩/\b<w.heap.size/\w.rangeAt b (o+k*23) r.cells
theorem om.fr {w w':World}{p:Option Addr}{L:List Ev.Raw}(h:om w p L)(hf:Fr [] w w'):om w' p L:=λk r hr=>by
 obtain⟨b,o,h1,h2,h3⟩:=h k r hr
 exact⟨b,o,h1,Nat.lt_of_lt_of_le h2 hf.size,λj v hv=>hf.cell (h3 j v hv) h2 (by simp)⟩
def kn (p:Ev.Raw->Bool)(l:List Ev.Raw):Int:=match l.findIdx? p with|some k=>(k:Int)|none=>-1
theorem uQ {p:Ev.Raw->Bool}{l:List Ev.Raw}{k:Nat}{x:Ev.Raw}(h:∀ (j:Nat) y,l[j]? = some y->j<k->p y=false)(hx:l[k]? = some x)(hp:p x=true):kn p l=(k:Int):=by
 unfold kn
 have hk:=(List.getElem?_eq_some_iff.1 hx).1
 have hv:=(List.getElem?_eq_some_iff.1 hx).2
 rw[show l.findIdx? p=some k from List.findIdx?_eq_some_iff_getElem.2 ⟨hk,by rw[hv];exact hp,λj hj=>by rw[h j _ (List.getElem?_eq_getElem (by omega)) hj];simp⟩]
theorem yK {p:Ev.Raw->Bool}{l:List Ev.Raw}(h:∀ (j:Nat) y,l[j]? = some y->p y=false):kn p l = -1:=by
 unfold kn
 rw[List.findIdx?_eq_none_iff.2 λx hx=>by
  obtain⟨j,hj,he⟩:=List.mem_iff_getElem.1 hx
  exact h j x (by rw[List.getElem?_eq_getElem hj,he])]
theorem uR (p:Ev.Raw->Bool)(l:List Ev.Raw):decide (kn p l >= 0)=l.any p:=by
 unfold kn
 cases h:l.findIdx? p with
 | none =>
  have:=List.findIdx?_eq_none_iff.1 h
  have h2:l.any p=false:=by rw[List.any_eq_false];intro x hx;rw[this x hx];simp
  rw[h2]
  decide
 | some k =>
  rw[List.findIdx?_eq_some_iff_getElem] at h
  obtain⟨hk,hp,_⟩:=h
  have:l.any p=true:=List.any_eq_true.2 ⟨_,List.getElem_mem hk,hp⟩
  rw[this]
  simp
theorem uU (w:World)(p:Option Addr)(n c b:Nat)(conn seq:Int)(L:List Ev.Raw)(hn:L.length=n)(hl:n<=100000)(h:om w p L)(h1:w.cell? ⟨b,1,none⟩=some (.int .i64 conn))(h2:w.cell? ⟨b,2,none⟩=some (.int .i64 seq)) :
  cA 57 #[.slice p n c,.func (.func 26) #[] #[.pointer (some ⟨b,0,none⟩)]] w (.int .i64 (kn (gW conn seq) L)):=by
 have hbl:=block_lt_of_cell h1
 have HP:=hid (λW (f:Fr [] w W) r=>BR W b conn seq r (f.cell h1 hbl (by simp)) (f.cell h2 hbl (by simp)))
 have HE:=hid h
 have HN:=hid hn
 clear h h1 h2 hn hbl
 go_enter func57,ntmps57
 go_wp2
 go_loopw [5,8] (λ_ i wr=>∃ k:Nat,k<=n/\i = .int .i64 k/\(∀ (j:Nat) y,L[j]? = some y->j<k->gW conn seq y=false)/\Fr [] w wr) (λ_ i _=>n - (intOf i).toNat)
 case atStart=>exact⟨0,Nat.zero_le _,rfl,λ_ _ _ h=>by omega,rZ⟩
 obtain⟨k,hk,rfl,hno,fr⟩:=hrel
 by_cases hlt:k<n
 ·obtain⟨r,hr⟩:∃ r,L[k]? = some r:=⟨_,List.getElem?_eq_getElem (by rw[HN];exact hlt)⟩
  obtain⟨bb,o,rfl,hbb,hrng⟩:=(HE.fr fr) k r hr
  have hk1:(k:Int)<(n:Int):=by omega
  have HX:=hid hr
  have HNo:=hid hno
  have HC:=hid (HP wr fr r)
  obtain⟨oo,hoo⟩:∃ oo,o+k*23=oo:=⟨_,rfl⟩
  rw[hoo] at hrng
  obtain⟨C,hC⟩:∃ C,C=r.cells:=⟨_,rfl⟩
  rw[<-hC] at hrng HC
  have HR:=hid hrng
  have HS:=hid (show (prog.info? 57).map (·.size)=some C.length by rw[hC];exact dL)
  clear hr hno hrng hC
  cases hb:gW conn seq r
  ·have HB:=hid hb
   clear hb
   go_wp2_with (refine wpList_load_mid rfl 57 (.tmp 14) rfl bb oo rfl C _ HR underlying57 rfl HS ?_)
   refine uu HC λw' f2=>?_
   rw[HB]
   go_wp2_with fail
   go_roundw
   case rel=>exact⟨k+1,by omega,by go_num,λj y hy hj=>by
    by_cases e:j=k
    ·subst e
     rw[HX] at hy
     cases hy
     exact HB
    exact HNo.out j y hy (by omega),fr.trans f2⟩
   simp[intOf];omega
  have HB:=hid hb
  have HF:=hid (uQ HNo HX hb)
  clear hb
  go_wp2_with (refine wpList_load_mid rfl 57 (.tmp 14) rfl bb oo rfl C _ HR underlying57 rfl HS ?_)
  refine uu HC λw' f2=>?_
  rw[HB]
  go_wp2_with fail
  go_ret
  exact⟨bM HF.symm,fr.trans f2⟩
 obtain rfl:k=n:=by omega
 have HF:=hid (yK (p:=gW conn seq) (l:=L) λj y hy=>hno j y hy (by have:=(List.getElem?_eq_some_iff.1 hy).1;have:=HN.out;omega))
 clear hno
 go_wp2
 go_ret
 exact⟨bM HF.symm,fr⟩
theorem oA (w:World)(p:Option Addr)(n c b:Nat)(conn seq:Int)(L:List Ev.Raw)(hn:L.length=n)(hl:n<=100000)(h:om w p L)(h1:w.cell? ⟨b,1,none⟩=some (.int .i64 conn))(h2:w.cell? ⟨b,2,none⟩=some (.int .i64 seq)) :
  cA 25 #[.slice p n c,.func (.func 26) #[] #[.pointer (some ⟨b,0,none⟩)]] w (.bool (L.any (gW conn seq))):=by
 have HI:=hid (uU w p n c b conn seq L hn hl h h1 h2)
 have HA:=hid (uR (gW conn seq) L)
 clear h h1 h2
 go_enter func25,ntmps25
 go_wp2_with fail
 refine uu HI λw' f2=>?_
 go_wp2_with fail
 go_ret
 exact⟨dI (by rw[<-HA]),f2⟩
theorem nV {w:World}{B:Nat}{g c:Nat}{L:List Ev.Raw}(h:Own w B 57 23 (.slice (some ⟨g,0,none⟩) L.length c) L.length (flat Ev.Raw.cells L)){k o:Nat}(ho:L.length<=k+1∨o=(k+1)*23):om w (some ⟨g,o,none⟩) (L.drop (k+1)):=λj r hr=>by
 rw[List.getElem?_drop] at hr
 have hlt:=(List.getElem?_eq_some_iff.1 hr).1
 obtain⟨gq,hea,hgq,hrng⟩:=kX h hr
 cases hea
 have e:o=(k+1)*23:=by
  rcases ho with h'|h'
  ·omega
  exact h'
 refine⟨g,o,rfl,hgq,?_⟩
 rw[e,<-Nat.add_mul]
 exact hrng
theorem xP (r:Ev.Raw)(l:List Ev.Raw):(M.fx ((r::l).map Ev.Raw.ev)).length=(M.fx (l.map Ev.Raw.ev)).length+(if r.kind=1/\l.any (gW r.conn r.seq)=false then 1 else 0):=by
 have e:(l.map Ev.Raw.ev).any (λx=>x.kind==3&&x.conn==r.conn&&x.seq==r.seq)=l.any (gW r.conn r.seq):=by
  rw[List.any_map]
  congr 1
  funext x
  simp only[Function.comp,gW,Ev.Raw.ev,Bool.and_assoc]
 show (M.fx (r.ev::l.map Ev.Raw.ev)).length=_
 rw[M.fx]
 have e2:(l.map Ev.Raw.ev).any (λx=>x.kind==3&&x.conn==r.ev.conn&&x.seq==r.ev.seq)=l.any (gW r.conn r.seq):=e
 rw[e2]
 have ek:r.ev.kind=r.kind:=rfl
 rw[ek]
 by_cases h:r.kind=1/\l.any (gW r.conn r.seq)=false
 ·rw[if_pos h,if_pos ⟨h.1,by rw[h.2];simp⟩]
  simp
 rw[if_neg h,if_neg (λh'=>h ⟨h'.1,by simpa using h'.2⟩)]
 simp
theorem rN (w:World)(B:Nat)(v:Value)(evs:List M.Ev)(h:Ev.dz w B v evs)(hl:evs.length<=1000)(hB:B<=w.heap.size) :
  Calls prog 12 #[v] w λe w'=>∃ a c,e = .returned (.slice a (M.fx evs).length c)/\Fr [] w w':=by
 obtain⟨e3,ei,ez0,ez1,ez2⟩:=info_parts uG
 obtain⟨⟨L,hL,hown,hat⟩⟩:=h
 subst hL
 obtain⟨ea,ec,hve⟩:=Own.form hown
 subst hve
 obtain⟨Z,hZ⟩:∃ Z,w.heap.size=Z:=⟨_,rfl⟩
 have HZ:=hid hZ
 have HO:=hid hown
 have HA:=hid hat
 have hLl:L.length<=1000:=by simpa using hl
 clear hown hat hl hZ
 go_enter func12,ntmps12
 go_wp2_with fail
 go_loopw [3,9] (λo i wr=>∃ (k:Nat) (L2:List (List Value)),k<=L.length/\i = .int .i64 k/\L2.length<=k/\Own wr Z 57 23 o L2.length (flat id L2)/\L2.length+(M.fx ((L.drop k).map Ev.Raw.ev)).length=(M.fx (L.map Ev.Raw.ev)).length/\Fr [] w wr) (λ_ i _=>L.length - (intOf i).toNat)
 case atStart=>exact⟨0,[],Nat.zero_le _,rfl,Nat.le_refl _,Own.nil _ _ _ _,by simp,rZ⟩
 obtain⟨k,L2,hk,rfl,hL2,own',hpd,fr⟩:=hrel
 by_cases hlt:k<L.length
 ·obtain⟨r,hr⟩:∃ r,L[k]? = some r:=⟨_,List.getElem?_eq_getElem hlt⟩
  have hra:=HA.out r (List.mem_of_getElem? hr)
  have hdk:L.drop k=r::L.drop (k+1):=by
   rw[List.drop_eq_getElem_cons hlt]
   congr 1
   rw[List.getElem?_eq_getElem hlt] at hr
   exact Option.some.inj hr
  have hpc:=xP r (L.drop (k+1))
  rw[<-hdk] at hpc
  obtain⟨gq,hea,hgq,hrng⟩:=kX (Own.fr0 HO fr) hr
  subst hea
  have hcap:L.length<=ec:=by
   rcases HO with⟨h0,_,_⟩|⟨_,_,_,h0,hrow⟩
   ·cases h0
   cases h0
   exact hrow.le
  obtain⟨o,ho⟩:∃ o,k*23=o:=⟨_,rfl⟩
  rw[ho] at hrng
  obtain⟨a',c',rfl⟩:=Own.form own'
  obtain⟨kind,conn,seq,tt,q,vo,a,vi⟩:=r
  have hops:Ev.bD w B vo q.ops:=hra.ops
  have hits:Ev.aV w B vi a.items:=hra.its
  have hl1:q.ops.length<=20:=hra.l1
  have hl2:a.items.length<=20:=hra.l2
  obtain⟨C,hC⟩:∃ C:List Value,C=Ev.Raw.cells ⟨kind,conn,seq,tt,q,vo,a,vi⟩:=⟨_,rfl⟩
  have HR:=hid (show wr.rangeAt gq o C by rw[hC];exact hrng)
  have HCC:=hid hC
  have HOps:=hid (Own.fr0 hops fr)
  have HIts:=hid (Own.fr0 hits fr)
  have HOr:=hid (Own.fr0 HO fr)
  have HOwn:=hid own'
  have HF:=hid fr
  have HPD:=hid (And.intro hpd hpc)
  have HONE:=hid (show C.toArray.all (·.oneCell')=true from by
   rw[hC,Array.all_eq_true_iff_forall_mem]
   intro u hu
   exact Ev.Raw.At.one hra u (by simpa using hu))
  obtain⟨N,hN⟩:∃ N,wr.heap.size=N:=⟨_,rfl⟩
  have HN:=hid hN
  have hNZ:Z<=N:=by rw[<-HZ,<-hN];exact fr.size
  have hk1:(k:Int)<(L.length:Int):=by omega
  have hk2:L2.length<=1000:=by omega
  clear hrng hC hops hits own' fr hpd hpc hdk hr hra hN
  go_upto_region 5 with(first|(refine cV rfl 57 (.tmp 5) (.tmp 13) rfl _ C.toArray rfl rfl _ _ (heap_alloc_new _ _) (by rw[HCC];exact dL) (by simp[HCC.out,Ev.Raw.cells,Ev.rqc,Ev.rsc]) HONE.out ?_;intro W0 b0 fs0)|(refine wpList_load_mid rfl 57 (.tmp 12) rfl gq o rfl C _ HR underlying57 rfl (by rw[HCC];exact dL) ?_))
  have f0:Fr [] wr W0:=((Fr.refl [] wr).alloc _).step fs0 (λx hx=>.inr (by simp at hx;omega))
  rw[HN] at b0
  try simp only[HN.out]
  have B0:=hid b0
  have F0:=hid f0
  have d0:W0.cell? ⟨N,0,none⟩=some (.int .i64 kind):=by rw[b0.cell,HCC];rfl
  have d1:W0.cell? ⟨N,1,none⟩=some (.int .i64 conn):=by rw[b0.cell,HCC];rfl
  have d2:W0.cell? ⟨N,2,none⟩=some (.int .i64 seq):=by rw[b0.cell,HCC];rfl
  have hNl:=b0.lt
  clear fs0 f0 b0 HR
  by_cases h1:kind=1
  ·have t1:(kind != 1)=false:=by simp[h1]
   have HK1:=hid h1
   clear h1
   obtain⟨p',hsl,hlie⟩:∃ p',(∀ W,(Instr.slice 47 (.slice (some ⟨gq,0,none⟩) L.length ec) (some (.int .i64 ((k:Int)+1))) none none).run prog W = .ok (.slice p' (L.length - (k+1)) (ec - (k+1))) W)/\om W0 p' (L.drop (k+1)):=by
    have hle1:k+1<=L.length:=by omega
    by_cases hce:ec=k+1
    ·refine⟨some ⟨gq,0,none⟩,λW=>?_,nV (Own.fr0 HOr.out F0.out) (.inl (by omega))⟩
     have h1:(k:Int)+1<=(L.length:Int):=by omega
     have h2:(0:Int)<=(k:Int)+1:=by omega
     subst hce
     simp[go_sem,h1,h2]
    refine⟨some ⟨gq,(k+1)*23,none⟩,λW=>?_,nV (Own.fr0 HOr F0) (.inr rfl)⟩
    have h1:(k:Int)+1<=(L.length:Int):=by omega
    have h2:(0:Int)<=(k:Int)+1:=by omega
    simp[go_sem,h1,h2,hce]
   have hle1:k+1<=L.length:=by omega
   have HL:=hid hlie
   clear hlie
   go_wp2_with fail
   refine uu (oA W0 _ _ _ N conn seq (L.drop (k+1)) (by simp) (by omega) HL.out d1 d2) λw1 f1=>?_
   have B1:=hid (B0.fr f1 (by simp))
   have F1:=hid (F0.trans f1)
   have hNl1:=B1.lt
   clear d0 d1 d2 f1 hNl hsl
   obtain⟨bb,hb⟩:∃ bb,(L.drop (k+1)).any (gW conn seq)=bb:=⟨_,rfl⟩
   rw[hb]
   cases bb
   ·have HPD2:=hid (show L2.length+1+(M.fx ((L.drop (k+1)).map Ev.Raw.ev)).length=(M.fx (L.map Ev.Raw.ev)).length from by
     have h3:=HPD.1
     have h4:=HPD.2
     rw[if_pos ⟨HK1,hb⟩] at h4
     omega)
    clear hb
    go_wp2_with (refine wpList_load_row rfl 57 (.tmp 5) rfl N rfl 57 C.toArray (0,0) _ B1 underlying57 rfl (by rw[HCC];exact dL) ?_)
    have hCe:C.toArray=evC kind conn seq tt q vo a vi:=by rw[HCC];rfl
    rw[hCe]
    refine(kp w1 B kind conn seq tt q vo a vi (Own.fr0 HOps F1) (Own.fr0 HIts F1) hl1 hl2 (Nat.le_trans hB (HF.trans F1).size)).mono ?_
    rintro e w2 ⟨vo',vi',rfl,ho1,ho2,f2⟩
    have F2:=hid (F1.trans f2)
    have HON:=hid (show ∀ u∈(evC kind conn seq tt q vo' a vi').toList,u.oneCell'=true from by
     intro u hu
     simp only[evC,List.mem_cons,List.not_mem_nil,or_false] at hu
     rcases hu with rfl|rfl|rfl|rfl|rfl|rfl|rfl|rfl|rfl|rfl|rfl|rfl|rfl|rfl|rfl|rfl|rfl|rfl|rfl|rfl|rfl|rfl|rfl<;>first|rfl|assumption)
    clear f2 hCe
    simp only[evC]
    go_wp2_with (at_builtin;(refine af rfl (.tmp 25) (.tmp 28) 47 rfl e3 _ 264 underlying47 ei ez0 ez1 ez2 rfl (by decide) (.slice a' L2.length c') (ay (.slice a' L2.length c')) rfl (Own.fr0 HOwn (F2.alloc _)).sl _ 1 1 _ rfl (by rfl) (Fm.Cells.bO (aE (by simp))) (λu hu=>HON.out u hu) (by unfold maxLen;omega) (by omega) ?_;intro v7 w7 own7 hs7 hf7 ho7 hm7;have P:=rP (f:=id) (x:=(evC kind conn seq tt q vo' a vi').toList) HZ (HF.trans F2) (Own.fr0 HOwn F2) (rZ.alloc _) rfl hs7 hf7 ho7 hm7;have PH:=hid P;clear hs7 hf7 ho7 hm7 P))
    go_roundw
    case rel=>exact⟨k+1,_,by omega,by go_num,by simp;omega,PH.1,by simpa using HPD2.out,PH.2⟩
    simp[intOf];omega
   have HPD2:=hid (show L2.length+(M.fx ((L.drop (k+1)).map Ev.Raw.ev)).length=(M.fx (L.map Ev.Raw.ev)).length from by
    have h3:=HPD.1
    have h4:=HPD.2
    rw[if_neg (λh=>by rw[show (L.drop (k+1)).any (gW conn seq)=true from hb] at h;cases h.2)] at h4
    omega)
   clear hb
   go_wp2_with fail
   go_roundw
   case rel=>exact⟨k+1,L2,by omega,by go_num,by omega,Own.fr0 HOwn F1,HPD2,HF.trans F1⟩
   simp[intOf];omega
  have t1:(kind != 1)=true:=by simpa using h1
  have HPD2:=hid (show L2.length+(M.fx ((L.drop (k+1)).map Ev.Raw.ev)).length=(M.fx (L.map Ev.Raw.ev)).length from by
   have h3:=HPD.1
   have h4:=HPD.2
   rw[if_neg (λh=>h1 h.1)] at h4
   omega)
  clear h1
  go_wp2_with fail
  go_roundw
  case rel=>exact⟨k+1,L2,by omega,by go_num,by omega,Own.fr0 HOwn F0,HPD2,HF.trans F0⟩
  simp[intOf];omega
 obtain rfl:k=L.length:=by omega
 have HH:=hid (And.intro own' (And.intro hpd fr))
 clear own' hpd fr
 go_wp2_with fail
 go_ret
 obtain⟨h1,h2,h3⟩:=HH.out
 rw[List.drop_length] at h2
 have h4:L2.length=(M.fx (L.map Ev.Raw.ev)).length:=by simpa[M.fx] using h2
 obtain⟨a,c,rfl⟩:=Own.form h1
 exact⟨a,c,by simp[h4],h3⟩
end Hi
namespace Tp
open Go.RowKit Cr Sv Pr
theorem Ao (W:World)(tmps:Array Value)(g:Nat)(hp:Holds W g 25 (cellsOf M.cf0))(h0:tmps[0]?.getD undef = .pointer (some ⟨g,0,none⟩)) :
  (results f10 tmps).run prog W = .ok (.agg (cellsOf M.cf0)) W:=by
 have hr:f10.results=#[.cell 0 25]:=rfl
 obtain⟨q0,q1,q2,q3,q4,q5,q6,q7⟩:=hp.cs8
 simp[cellsOf,M.cf0] at q0 q1 q2 q3 q4 q5 q6 q7
 simp[results,h0,go_sem,q0,q1,q2,q3,q4,q5,q6,q7,cellsOf,M.cf0]
theorem BP (w:World):cA 10 #[] w (.agg (cellsOf M.cf0)):=by
 obtain⟨Z,hZ⟩:∃ Z,w.heap.size=Z:=⟨_,rfl⟩
 go_enter func10,ntmps10
 go_upto_region 1 with fail
 obtain⟨W,hW⟩:∃ W,W=w.alloc (.cells #[.int .i64 0,.int .i64 0,.int .i64 0,.int .i64 0,.int .i64 0,.int .i64 0,.int .i64 0,.int .i64 0] 25):=⟨_,rfl⟩
 have b:Holds W Z 25 #[.int .i64 0,.int .i64 0,.int .i64 0,.int .i64 0,.int .i64 0,.int .i64 0,.int .i64 0,.int .i64 0]:=by rw[hW,<-hZ];exact Holds.new _ _ _
 have f:Fr [] w W:=by rw[hW];exact rZ.alloc _
 rw[<-hW]
 try simp only[hZ]
 have hc:=b.cell
 have hz:=b.frozen
 have c0:=hc 0
 have c1:=hc 1
 have c2:=hc 2
 have c3:=hc 3
 have c4:=hc 4
 have c5:=hc 5
 have c6:=hc 6
 have c7:=hc 7
 have z0:=hz 0
 have z1:=hz 1
 have z2:=hz 2
 have z3:=hz 3
 have z4:=hz 4
 have z5:=hz 5
 have z6:=hz 6
 have z7:=hz 7
 have hl:=b.lt
 simp at c0 c1 c2 c3 c4 c5 c6 c7
 clear hW hc hz
 have HB:=hid b
 have HF:=hid f
 clear b f
 go_wp2_with fail
 refine bodyPost_ret (Ao _ _ Z ?_ rfl) rfl ⟨rfl,?_⟩
 ·have q:=(((((((HB.set 0 (.int .i64 12)).set 1 (.int .i64 0)).set 2 (.int .i64 20006)).set 3 (.int .i64 3)).set 4 (.int .i64 2)).set 5 (.int .i64 6)).set 6 (.int .i64 65536)).set 7 (.int .i64 9)
  simpa[cellsOf,M.cf0] using q
 have hh:w.heap.size<=Z:=by omega
 exact Ev.Fr.aw (Ev.Fr.aw (Ev.Fr.aw (Ev.Fr.aw (Ev.Fr.aw (Ev.Fr.aw (Ev.Fr.aw (Ev.Fr.aw HF hh _) hh _) hh _) hh _) hh _) hh _) hh _) hh _
theorem sV:(Ev.rqc M.eh (.slice none 0 0)).toArray=#[.int .i64 1,.string ⟨#[97,110,110]⟩,.string ⟨#[]⟩,.string ⟨#[]⟩,.string ⟨#[]⟩,.int .i64 0,.int .i64 0,.slice none 0 0,.int .i64 0,.int .i64 0,.int .i64 0]:=by kernel_rfl
theorem qC:(Ev.rqc M.eb (.slice none 0 0)).toArray=#[.int .i64 2,.string ⟨#[]⟩,.string ⟨#[104,111,109,101]⟩,.string ⟨#[]⟩,.string ⟨#[]⟩,.int .i64 0,.int .i64 0,.slice none 0 0,.int .i64 0,.int .i64 0,.int .i64 0]:=by kernel_rfl
theorem vw:(Ev.rqc M.um (.slice none 0 0)).toArray=#[.int .i64 4,.string ⟨#[]⟩,.string ⟨#[104,111,109,101]⟩,.string ⟨#[97]⟩,.string ⟨#[110,97,109,101,58,65,110,110,10]⟩,.int .i64 1,.int .i64 0,.slice none 0 0,.int .i64 0,.int .i64 0,.int .i64 0]:=by kernel_rfl
theorem sU:(Ev.rqc M.qO (.slice none 0 0)).toArray=#[.int .i64 9,.string ⟨#[]⟩,.string ⟨#[104,111,109,101]⟩,.string ⟨#[]⟩,.string ⟨#[]⟩,.int .i64 0,.int .i64 0,.slice none 0 0,.int .i64 2,.int .i64 0,.int .i64 9]:=by kernel_rfl
theorem qD (v:Value):(Ev.rqc M.jF v).toArray=#[.int .i64 7,.string ⟨#[]⟩,.string ⟨#[104,111,109,101]⟩,.string ⟨#[]⟩,.string ⟨#[]⟩,.int .i64 0,.int .i64 0,v,.int .i64 0,.int .i64 0,.int .i64 0]:=by
 have h1:M.home=⟨#[104,111,109,101]⟩:=by decide +kernel
 simp[Ev.rqc,M.jF,h1]
theorem uv:flat Lp.cs M.jF.ops=[.bool false,.string ⟨#[98]⟩,.string ⟨#[110,97,109,101,58,66,111,98,10]⟩,.int .i64 0,.int .i64 0,.bool true,.string ⟨#[99]⟩,.string ⟨#[]⟩,.int .i64 0,.int .i64 0]:=by kernel_rfl
theorem ok1:∀ q∈M.jo,M.bF q=true:=λq hq=>List.all_eq_true.1 M.rC q hq
theorem jN (w:World)(q:M.Req)(hq:M.bF q=true)(ho:q.ops=[]):cA 6 #[.agg (Ev.rqc q (.slice none 0 0)).toArray] w (.string (En.bytesOf (En.bU q))) :=
 lO w 0 q _ hq (by rw[ho];exact Own.nil _ _ _ _) (λ_=>rfl)
theorem mr (w:World):cA 6 #[.agg #[.int .i64 1,.string ⟨#[97,110,110]⟩,.string ⟨#[]⟩,.string ⟨#[]⟩,.string ⟨#[]⟩,.int .i64 0,.int .i64 0,.slice none 0 0,.int .i64 0,.int .i64 0,.int .i64 0]] w (.string (En.bytesOf (En.bU M.eh))):=by
 rw[<-sV]
 exact jN w _ (ok1 _ (by simp[M.jo])) rfl
theorem kV (w:World):cA 6 #[.agg #[.int .i64 2,.string ⟨#[]⟩,.string ⟨#[104,111,109,101]⟩,.string ⟨#[]⟩,.string ⟨#[]⟩,.int .i64 0,.int .i64 0,.slice none 0 0,.int .i64 0,.int .i64 0,.int .i64 0]] w (.string (En.bytesOf (En.bU M.eb))):=by
 rw[<-qC]
 exact jN w _ (ok1 _ (by simp[M.jo])) rfl
theorem uM (w:World):cA 6 #[.agg #[.int .i64 4,.string ⟨#[]⟩,.string ⟨#[104,111,109,101]⟩,.string ⟨#[97]⟩,.string ⟨#[110,97,109,101,58,65,110,110,10]⟩,.int .i64 1,.int .i64 0,.slice none 0 0,.int .i64 0,.int .i64 0,.int .i64 0]] w (.string (En.bytesOf (En.bU M.um))):=by
 rw[<-vw]
 exact jN w _ (ok1 _ (by simp[M.jo])) rfl
theorem sy (w:World):cA 6 #[.agg #[.int .i64 9,.string ⟨#[]⟩,.string ⟨#[104,111,109,101]⟩,.string ⟨#[]⟩,.string ⟨#[]⟩,.int .i64 0,.int .i64 0,.slice none 0 0,.int .i64 2,.int .i64 0,.int .i64 9]] w (.string (En.bytesOf (En.bU M.qO))):=by
 rw[<-sU]
 exact jN w _ (ok1 _ (by simp[M.jo])) rfl
theorem qn (w:World)(N:Nat)(h:Row w 43 5 N 2 2 [.bool false,.string ⟨#[98]⟩,.string ⟨#[110,97,109,101,58,66,111,98,10]⟩,.int .i64 0,.int .i64 0,.bool true,.string ⟨#[99]⟩,.string ⟨#[]⟩,.int .i64 0,.int .i64 0]) :
  cA 6 #[.agg #[.int .i64 7,.string ⟨#[]⟩,.string ⟨#[104,111,109,101]⟩,.string ⟨#[]⟩,.string ⟨#[]⟩,.int .i64 0,.int .i64 0,.slice (some ⟨N,0,none⟩) 2 2,.int .i64 0,.int .i64 0,.int .i64 0]] w (.string (En.bytesOf (En.bU M.jF))):=by
 rw[<-qD]
 exact lO w 0 M.jF _ (ok1 _ (by simp[M.jo])) (.inr ⟨N,2,Nat.zero_le _,rfl,by rw[uv];exact h⟩) (λh=>absurd rfl h)
open Go.RowKit Cr Sv Pr Hi
theorem xt:((((En.bytesOf (En.bU M.eh)++En.bytesOf (En.bU M.eb))++En.bytesOf (En.bU M.um))++En.bytesOf (En.bU M.um))++En.bytesOf (En.bU M.jF))++En.bytesOf (En.bU M.qO)=En.bytesOf (M.jo.flatMap En.bU):=by
 simp[En.fe,M.jo]
theorem gI:(flat rcl M.gz)[10]? = some (.int .i64 1)/\(flat rcl M.gz)[18]? = some (.int .i64 2)/\(flat rcl M.gz)[19]? = some (.int .i64 2)/\(flat rcl M.gz)[25]? = some (.int .i64 6)/\(flat rcl M.gz)[33]? = some (.int .i64 4)/\(flat rcl M.gz)[37]? = some (.int .i64 1):=⟨rfl,rfl,rfl,rfl,rfl,rfl⟩
theorem xr:(M.jo.flatMap En.bU).length<=20006:=by decide +kernel
theorem xq:M.gz.all (λa=>sm a&&a.items.isEmpty)=true:=by decide +kernel
theorem sw:(prog.info? 49).map (·.size)=some 4:=by kernel_rfl
theorem jO (w:World)(hG:Sh.Gl w):cA 4 #[] w (.bool true):=by
 obtain⟨s1,h1⟩:∃ s,En.bytesOf (En.bU M.eh)=s:=⟨_,rfl⟩
 obtain⟨s2,h2⟩:∃ s,En.bytesOf (En.bU M.eb)=s:=⟨_,rfl⟩
 obtain⟨s3,h3⟩:∃ s,En.bytesOf (En.bU M.um)=s:=⟨_,rfl⟩
 obtain⟨s4,h4⟩:∃ s,En.bytesOf (En.bU M.jF)=s:=⟨_,rfl⟩
 obtain⟨s5,h5⟩:∃ s,En.bytesOf (En.bU M.qO)=s:=⟨_,rfl⟩
 have hcat:=xt
 rw[h1,h2,h3,h4,h5] at hcat
 have HGL:=hid hG
 have hz:(En.bytesOf (M.jo.flatMap En.bU)).size<=20006:=by
  rw[En.aK]
  exact xr
 rw[<-hcat] at hz
 simp at hz
 have e1:s1.size+s2.size<=9223372036854775807:=by omega
 have e2:(s1++s2).size+s3.size<=9223372036854775807:=by simp;omega
 have e3:(s1++s2++s3).size+s3.size<=9223372036854775807:=by simp;omega
 have e4:(s1++s2++s3++s3).size+s4.size<=9223372036854775807:=by simp;omega
 have e5:(s1++s2++s3++s3++s4).size+s5.size<=9223372036854775807:=by simp;omega
 have HC:=hid hcat
 have F1:=hid mr
 have F2:=hid kV
 have F3:=hid uM
 have F4:=hid qn
 have F5:=hid sy
 rw[h1] at F1
 rw[h2] at F2
 rw[h3] at F3
 rw[h4] at F4
 rw[h5] at F5
 clear hcat hG hz h1 h2 h3 h4 h5
 go_enter func4,ntmps4
 go_wp2_with fail
 refine uu (F1 _) λw1 f1=>?_
 have G1:=hid f1
 clear f1
 go_wp2_with fail
 refine uu (F2 _) λw2 f2=>?_
 have G2:=hid (G1.trans f2)
 clear f2
 go_wp2_with fail
 refine uu (F3 _) λw3 f3=>?_
 have G3:=hid (G2.trans f3)
 clear f3
 go_wp2_with fail
 refine(F4 _ w3.heap.size ?_).mono ?_
 ·exact Row.new w3 #[.bool false,.string ⟨#[98]⟩,.string ⟨#[110,97,109,101,58,66,111,98,10]⟩,.int .i64 0,.int .i64 0,.bool true,.string ⟨#[99]⟩,.string ⟨#[]⟩,.int .i64 0,.int .i64 0] rfl (by decide)
 rintro e w4 ⟨rfl,f4⟩
 have G4:=hid (G3.trans ((rZ.alloc _).trans f4))
 clear f4
 go_wp2_with fail
 refine uu (F5 _) λw5 f5=>?_
 have G5:=hid (G4.trans f5)
 clear f5
 go_wp2_with fail
 refine uu (BP _) λw6 f6=>?_
 have G6:=hid (G5.trans f6)
 clear f6
 go_wp2_with fail
 have hcl:Own (w6.alloc (.cells #[.int .i64 1,.int .i64 0,.int .i64 0,.string ⟨#[]⟩,.int .i64 2,.int .i64 0,.int .i64 0,.string (s1++s2++s3++s3++s4++s5)] 31)) 0 31 4 (.slice (some ⟨w6.heap.size,0,none⟩) 2 2) M.mw.length (flat acs M.mw):=by
  refine .inr ⟨w6.heap.size,2,Nat.zero_le _,rfl,?_⟩
  rw[show flat acs M.mw=[.int .i64 1,.int .i64 0,.int .i64 0,.string ⟨#[]⟩,.int .i64 2,.int .i64 0,.int .i64 0,.string (s1++s2++s3++s3++s4++s5)] by rw[HC];rfl]
  exact Row.new w6 _ rfl (by decide)
 have HOK:=M.AU 80 M.x1 M.ok1
 have HR:=vQ _ M.cf0 M.Fl M.mw _ 0 1 80 hcl (HGL.fr0 (G6.alloc _)) (by decide) (by decide) M.Gk rfl (by decide) (by decide) HOK.1 (Nat.le_trans HOK.2 (by decide))
 obtain⟨evs,hevs⟩:∃ evs,(M.bk 1 M.x1 80).1.events=evs:=⟨_,rfl⟩
 have HL:=HOK.2
 have HP:=M.FH.2
 rw[hevs] at HL HP
 have HLP:=hid (And.intro HL HP)
 have HEE:=hid hevs
 clear hevs HL HP hcl HOK
 refine HR.mono ?_
 rintro e w7 ⟨vO,vS,vD,vE,xS,xD,rfl,hO,hS,hD,hev,f7⟩
 have hO:Own w7 _ 9 1 vO 1 ((M.bk 1 M.x1 80).2.map iY):=hO
 rw[M.FH.1] at hO
 have hev:Ev.dz w7 _ vE (M.bk 1 M.x1 80).1.events:=hev
 rw[HEE] at hev
 obtain⟨go,co,-,rfl,hro⟩:=hO.pos (by decide)
 have hgo:w7.cell? ⟨go,0,none⟩=some (.string (En.bytesOf (M.gz.flatMap En.bE))):=hro.cell rfl
 obtain⟨sa,sc,rfl⟩:=hS.form
 obtain⟨da,dc,rfl⟩:=hD.form
 obtain⟨ve,ne,ce,rfl⟩:∃ va vn vc,vE = .slice va vn vc:=by
  obtain⟨L,hL,ho,hat⟩:=hev.at_
  obtain⟨va,vc,h⟩:=ho.form
  exact⟨va,_,vc,h⟩
 obtain⟨vS,hvS⟩:∃ v,v=Value.slice sa 1 sc:=⟨_,rfl⟩
 obtain⟨vD,hvD⟩:∃ v,v=Value.slice da M.mw.length dc:=⟨_,rfl⟩
 rw[<-hvS,<-hvD]
 replace hvS:vS.oneCell'=true:=by rw[hvS];rfl
 replace hvD:vD.oneCell'=true:=by rw[hvD];rfl
 have hgl:=block_lt_of_cell hgo
 simp only at hgl
 clear hO hS hD hro
 have G7:=hid ((G6.trans (rZ.alloc _)).trans f7)
 have HB:=f7.size
 have HEV:=hid (And.intro hev HB)
 obtain⟨ss,hss⟩:∃ ss,En.bytesOf (M.gz.flatMap En.bE)=ss:=⟨_,rfl⟩
 have HA:=hid (λW=>td W M.gz (λa ha=>by
  have:=List.all_eq_true.1 xq a ha
  simp only[Bool.and_eq_true,List.isEmpty_iff] at this
  exact⟨FD this.1,this.2⟩) (by decide))
 rw[hss] at HA hgo
 clear HR hev f7 hss HB e1 e2 e3 e4 e5
 go_upto_region 7 with(refine cV rfl 49 (.tmp 6) (.tmp 41) rfl _ #[.slice (some ⟨go,0,none⟩) 1 co,vS,vD,.slice ve ne ce] rfl rfl _ _ (heap_alloc_new _ _) sw rfl (by rw[Array.all_eq_true_iff_forall_mem];intro u hu;simp at hu;rcases hu with rfl|rfl|rfl|rfl<;>first|rfl|assumption) ?_;intro W7 b7 fs7)
 have g7:Fr [] w7 W7:=((Fr.refl [] w7).alloc _).step fs7 (λx hx=>.inr (by simp at hx;omega))
 obtain⟨N,hN⟩:∃ N,w7.heap.size=N:=⟨_,rfl⟩
 rw[hN] at b7
 have hgo7:=g7.cell hgo hgl (by simp)
 have hgl7:=Nat.lt_of_lt_of_le hgl g7.size
 have B7:=hid b7
 have G77:=hid g7
 have d0:=b7.cell 0
 have d3:=b7.cell 3
 have dl:=b7.lt
 simp at d0 d3
 try simp only[hN]
 clear fs7 b7 g7 hgo hgl hvS hvD hN
 go_wp2_with fail
 refine(HA _).mono ?_
 rintro e w8 ⟨v,rfl,own,f8⟩
 obtain⟨ga,ca,hga,rfl,hrow⟩:=own.pos (by decide)
 have e5:M.gz.length=5:=rfl
 rw[e5] at hrow ⊢
 have B8:=B7.fr f8 (by simp)
 have j3:=B8.cell 3
 have jl:=B8.lt
 simp at j3
 have a0:=hrow.cell gI.1
 have a1:=hrow.cell gI.2.1
 have a2:=hrow.cell gI.2.2.1
 have a3:=hrow.cell gI.2.2.2.1
 have a4:=hrow.cell gI.2.2.2.2.1
 have a5:=hrow.cell gI.2.2.2.2.2
 have al:=hrow.lt
 have G8:=hid f8
 have HP:=hid (rN w8 _ _ evs (HEV.1.frx (FrX.aA (Ts:=[]) (G77.trans f8)) (by simp) (by simp) (by simp)) HLP.1 (Nat.le_trans HEV.2 (G77.trans f8).size))
 rw[HLP.2] at HP
 clear f8 own hrow B8 e5 hga d0 d3 dl hgo7 hgl7
 go_wp2_with fail
 refine HP.out.mono ?_
 rintro e w9 ⟨pa,pc,rfl,f9⟩
 have G9:=hid (G7.trans ((G77.trans G8).trans f9))
 clear f9
 go_wp2_with fail
 go_ret
 exact⟨rfl,G9⟩
end Tp
