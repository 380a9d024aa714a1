/- Walks. -/
import Derived.Test.YtjmkkcckfbnmeaaGreatDoorM02
import Derived.Test.YtjmkkcckfbnmeaaGreatDoorM36
import Derived.Test.YtjmkkcckfbnmeaaGreatDoorM37
import Derived.Test.YtjmkkcckfbnmeaaGreatDoorM46
import Derived.Lib.LazyBuf
set_option maxRecDepth 100000
set_option maxHeartbeats 8000000
set_option linter.all false
open Go.Lib (hid)
namespace Go.Proofs.YtjmkkcckfbnmeaaGreatDoor.Hi
open Go.RowKit Cr Sv Pr
theorem clone_op (w:World)(B:Nat)(v:Value)(l:List M.Op)(h:Ev.OpsAt w B v l)(hl:l.length≤20) :
  Calls Tryz.prog 87 #[v] w fun e w'=>∃ v',e = .returned v'∧Ev.OpsAt w' w.heap.size v' l∧Fr [] w w':=by
 obtain⟨i3,hi,hz0,hz1,hz2⟩:=info_parts Lp.infoE
 have ke:=fun (W:World) (a:Option Addr) (l c:Nat)=>Go.run_eql_slice_nil (P:=Tryz.prog) W 39 49 a l c Tryz.underlying39
 rcases h with⟨rfl,hn,hx⟩|⟨g,cap,hg,rfl,hr⟩
 ·obtain rfl:=List.eq_nil_of_length_eq_zero hn
  go_enter Tryz.func87,Tryz.ntmps87
  go_wp2_with fail
  go_ret
  exact⟨_,rfl,Own.nil _ _ _ _,Fr.refl _ _⟩
 ·have f0:Fr [] w (w.alloc (.cells #[] 49)):=(Fr.refl [] w).alloc _
  have r0:Row (w.alloc (.cells #[] 49)) 49 5 w.heap.size 0 0 []:=Row.new w #[] (by simp) (by decide)
  have hc:=(hr.fr f0 (by simp)).cells
  have hlen:=hr.length
  go_enter Tryz.func87,Tryz.ntmps87
  go_wp2_with (at_builtin;(refine wpList_append_sl rfl (.tmp 5) (.tmp 6) 39 rfl i3 _ 56 Tryz.underlying39 hi hz0 hz1 hz2 rfl (by decide) _ _ rfl (Sl.row r0) _ l.length cap (flat Lp.cs l) rfl hlen hc (flat_cells (fun _=>Lp.cs_one) _) (by unfold maxLen;omega) (by omega) ?_;intro v1 w2 own1 hs1 hf1 ho1 hm1;obtain⟨g1,c1,rfl,rfl,hg2,r2⟩:=got_some (B:=w.heap.size) hs1 ho1 f0.size (Nat.le_refl _);have f2:Fr [] w w2:=f0.step hf1 (by simp);simp only[Nat.zero_add,List.nil_append] at r2))
  go_ret
  exact⟨_,rfl,.inr ⟨g1,c1,hg2,rfl,r2⟩,f2⟩
theorem clone_it (w:World)(B:Nat)(v:Value)(l:List M.Item)(h:Ev.ItsAt w B v l)(hl:l.length≤20) :
  Calls Tryz.prog 88 #[v] w fun e w'=>∃ v',e = .returned v'∧Ev.ItsAt w' w.heap.size v' l∧Fr [] w w':=by
 obtain⟨i3,hi,hz0,hz1,hz2⟩:=info_parts Ev.infoI
 have ke:=fun (W:World) (a:Option Addr) (l c:Nat)=>Go.run_eql_slice_nil (P:=Tryz.prog) W 51 154 a l c Tryz.underlying51
 rcases h with⟨rfl,hn,hx⟩|⟨g,cap,hg,rfl,hr⟩
 ·obtain rfl:=List.eq_nil_of_length_eq_zero hn
  go_enter Tryz.func88,Tryz.ntmps88
  go_wp2_with fail
  go_ret
  exact⟨_,rfl,Own.nil _ _ _ _,Fr.refl _ _⟩
 ·have f0:Fr [] w (w.alloc (.cells #[] 154)):=(Fr.refl [] w).alloc _
  have r0:Row (w.alloc (.cells #[] 154)) 154 4 w.heap.size 0 0 []:=Row.new w #[] (by simp) (by decide)
  have hc:=(hr.fr f0 (by simp)).cells
  have hlen:=hr.length
  go_enter Tryz.func88,Tryz.ntmps88
  go_wp2_with (at_builtin;(refine wpList_append_sl rfl (.tmp 5) (.tmp 6) 51 rfl i3 _ 48 Tryz.underlying51 hi hz0 hz1 hz2 rfl (by decide) _ _ rfl (Sl.row r0) _ l.length cap (flat Ev.ic l) rfl hlen hc (flat_cells Ev.ic_one _) (by unfold maxLen;omega) (by omega) ?_;intro v1 w2 own1 hs1 hf1 ho1 hm1;obtain⟨g1,c1,rfl,rfl,hg2,r2⟩:=got_some (B:=w.heap.size) hs1 ho1 f0.size (Nat.le_refl _);have f2:Fr [] w w2:=f0.step hf1 (by simp);simp only[Nat.zero_add,List.nil_append] at r2))
  go_ret
  exact⟨_,rfl,.inr ⟨g1,c1,hg2,rfl,r2⟩,f2⟩
theorem copied_any (w:World)(B:Nat)(kind conn seq:Int)(tt:ByteArray)(q:M.Req)(vo:Value)(a:M.Resp)(vi:Value)(ho:Ev.OpsAt w B vo q.ops)(hi:Ev.ItsAt w B vi a.items)(hl1:q.ops.length≤20)(hl2:a.items.length≤20)(hB:B≤w.heap.size) :
  Calls Tryz.prog 47 #[.agg (evC kind conn seq tt q vo a vi)] w fun e w'=>∃ vo' vi',e = .returned (.agg (evC kind conn seq tt q vo' a vi'))∧vo'.oneCell'=true∧vi'.oneCell'=true∧Fr [] w w':=by
 obtain⟨Z,hZ⟩:∃ Z,w.heap.size=Z:=⟨_,rfl⟩
 obtain⟨W,hW⟩:∃ W,W=(w.alloc (.cells (evC kind conn seq tt q vo a vi) 56)).alloc (.cells (evC 0 0 0 ⟨#[]⟩ { kind:=0 } (.slice none 0 0) { kind:=0 } (.slice none 0 0)) 56):=⟨_,rfl⟩
 have fW:Fr [] w W:=by rw[hW];exact((Fr.refl _ _).alloc _).alloc _
 have b1:Holds W Z 56 (evC kind conn seq tt q vo a vi):=by rw[hW,←hZ];exact(Holds.new _ _ _).alloc _
 have b2:Holds W (Z+1) 56 (evC 0 0 0 ⟨#[]⟩ { kind:=0 } (.slice none 0 0) { kind:=0 } (.slice none 0 0)):=by rw[hW];exact at_new (by simp[hZ])
 have HC1:=hid (clone_op W B vo q.ops (Own.fr0 ho fW) hl1)
 have HI:=hid (Own.fr0 hi fW)
 have p11:=b1.cell 11
 simp[evC] at p11
 have B1:=hid b1
 have B2:=hid b2
 have FW:=hid fW
 have hbl:=b1.lt
 clear b1 b2 fW ho hi
 simp only[evC] at hW ⊢
 go_enter Tryz.func47,Tryz.ntmps47
 go_upto_region 1 with fail
 rw[←hW]
 try simp only[hZ]
 clear hW
 go_wp2_with fail
 refine HC1.out.mono ?_
 rintro e w2 ⟨v2',rfl,o2,f2⟩
 obtain⟨a2,k2,hv2'⟩:=Own.form o2
 subst hv2'
 have b2':=B1.out.fr f2 (by simp)
 have c11:=b2'.cell 11
 have z11:=b2'.frozen 11
 have l2:=b2'.lt
 simp[evC] at c11
 have B3:=hid (show Holds (w2.setCell ⟨Z,11,none⟩ (.slice a2 q.ops.length k2)) Z 56 (evC kind conn seq tt q (.slice a2 q.ops.length k2) a vi) by simpa[evC] using b2'.set 11 (.slice a2 q.ops.length k2))
 have F3:=hid (show Fr [] w (w2.setCell ⟨Z,11,none⟩ (.slice a2 q.ops.length k2)) from Ev.Fr.setNew (p:=⟨Z,11,none⟩) (FW.out.trans f2) (by rw[hZ];exact Nat.le_refl _) _)
 have B23:=hid (show Holds (w2.setCell ⟨Z,11,none⟩ (.slice a2 q.ops.length k2)) (Z+1) 56 (evC 0 0 0 ⟨#[]⟩ { kind:=0 } (.slice none 0 0) { kind:=0 } (.slice none 0 0)) from (B2.out.fr f2 (by simp)).far (by simp) _)
 have hv2:=Ev.Own.one_cells o2
 have x3:FrX B [56] [] w2 (w2.setCell ⟨Z,11,none⟩ (.slice a2 q.ops.length k2)):=FrX.of_frT ((Fr.refl [Z] _).setCell (by simp) _) (by simp;omega) (fun y hy=>⟨56,by simp,by simp at hy;subst hy;exact b2'.ty⟩)
 have HC2:=hid (clone_it _ B vi a.items ((Own.fr0 HI.out f2).frx0 x3 (by decide)) hl2)
 have d22:=B3.out.cell 22
 simp[evC] at d22
 have HV2:=hid hv2
 clear x3 o2 f2 b2' hv2
 go_upto_region 2 with fail
 generalize hW3:w2.setCell ⟨Z,11,none⟩ (.slice a2 q.ops.length k2)=W3 at *
 clear hW3 c11 z11 p11
 have l3:=B3.out.lt
 go_wp2_with fail
 refine HC2.out.mono ?_
 rintro e w4 ⟨v4',rfl,o4,f4⟩
 obtain⟨a4,k4,hv4'⟩:=Own.form o4
 subst hv4'
 have b4:=B3.out.fr f4 (by simp)
 have c22:=b4.cell 22
 have z22:=b4.frozen 22
 have l4:=b4.lt
 simp[evC] at c22
 have B5:=hid (show Holds (w4.setCell ⟨Z,22,none⟩ (.slice a4 a.items.length k4)) Z 56 (evC kind conn seq tt q (.slice a2 q.ops.length k2) a (.slice a4 a.items.length k4)) by simpa[evC] using b4.set 22 (.slice a4 a.items.length k4))
 have B25:=hid (show Holds (w4.setCell ⟨Z,22,none⟩ (.slice a4 a.items.length k4)) (Z+1) 56 (evC 0 0 0 ⟨#[]⟩ { kind:=0 } (.slice none 0 0) { kind:=0 } (.slice none 0 0)) from (B23.out.fr f4 (by simp)).far (by simp) _)
 have F5:=hid (show Fr [] w (w4.setCell ⟨Z,22,none⟩ (.slice a4 a.items.length k4)) from Ev.Fr.setNew (p:=⟨Z,22,none⟩) (F3.out.trans f4) (by rw[hZ];exact Nat.le_refl _) _)
 have HV4:=hid (Ev.Own.one_cells o4)
 clear o4 f4 b4 d22
 go_upto_region 3 with fail
 generalize hW5:w4.setCell ⟨Z,22,none⟩ (.slice a4 a.items.length k4)=W5 at *
 clear hW5 c22 z22
 obtain⟨C,hC⟩:∃ C,C=evC kind conn seq tt q (.slice a2 q.ops.length k2) a (.slice a4 a.items.length k4):=⟨_,rfl⟩
 have HCC:=hid hC
 have B6:=hid (show Holds W5 Z 56 C by rw[hC];exact B5.out)
 clear hC
 go_wp2_with (first|(refine wpList_store_hold rfl 56 (.tmp 2) (.tmp 15) rfl (Z+1) C rfl rfl 56 _ B25.out (by rw[HCC.out];exact info_size) (by rw[HCC.out];rfl) (by rw[HCC.out];simp[evC,HV2.out,HV4.out,Value.oneCell']) ?_;intro W7 b7 f7)|(refine wpList_load_row rfl 56 (.tmp 1) rfl Z rfl 56 C (0,0) _ B6.out Tryz.underlying56 rfl (by rw[HCC.out];exact info_size) ?_))
 refine bodyPost_ret (results_cell_row rfl _ _ (Z+1) 56 C (0,0) _ rfl b7 Tryz.underlying56 rfl (by rw[HCC.out];exact info_size)) rfl ?_
 refine⟨(.slice a2 q.ops.length k2),(.slice a4 a.items.length k4),by rw[HCC.out];rfl,HV2.out,HV4.out,F5.out.step f7 (fun x hx=>.inr (by simp at hx;omega))⟩
def ansr (conn seq:Int)(r:Ev.Raw):Bool:=r.kind==3&&(r.conn==conn&&r.seq==seq)
theorem clos_any (w:World)(b:Nat)(conn seq:Int)(r:Ev.Raw)(h1:w.cell? ⟨b,1,none⟩=some (.int .i64 conn))(h2:w.cell? ⟨b,2,none⟩=some (.int .i64 seq)) :
  Calls Tryz.prog 46 #[.agg r.cells.toArray,.pointer (some ⟨b,0,none⟩)] w fun e w'=>e = .returned (.bool (ansr conn seq r))∧Fr [] w w':=by
 obtain⟨N,hN⟩:∃ N,w.heap.size=N:=⟨_,rfl⟩
 obtain⟨W,hW⟩:∃ W,W=w.alloc (.cells r.cells.toArray 56):=⟨_,rfl⟩
 have fW:Fr [] w W:=by rw[hW];exact(Fr.refl _ _).alloc _
 have b1:Holds W N 56 r.cells.toArray:=by rw[hW,←hN];exact Holds.new _ _ _
 have d0:W.cell? ⟨N,0,none⟩=some (.int .i64 r.kind):=b1.cell 0
 have d1:W.cell? ⟨N,1,none⟩=some (.int .i64 r.conn):=b1.cell 1
 have d2:W.cell? ⟨N,2,none⟩=some (.int .i64 r.seq):=b1.cell 2
 have c1:=fW.cell h1 (block_lt_of_cell h1) (by simp)
 have c2:=fW.cell h2 (block_lt_of_cell h2) (by simp)
 have hl:=b1.lt
 have hbl:=block_lt_of_cell c1
 simp only at hbl
 have FW:=hid fW
 obtain⟨C,hC⟩:∃ C,r.cells.toArray=C:=⟨_,rfl⟩
 rw[hC] at hW ⊢
 clear fW b1 h1 h2
 by_cases e3:r.kind=3
 ·by_cases e1:r.conn=conn
  ·by_cases e2:r.seq=seq
   ·have hr:ansr conn seq r=true:=by simp[ansr,e1,e2,e3]
    have t3:(r.kind==3)=true:=by simp[e3]
    have t1:(r.conn==conn)=true:=by simp[e1]
    have t2:(r.seq==seq)=true:=by simp[e2]
    clear e1 e2 e3
    rw[hr]
    go_enter Tryz.func46,Tryz.ntmps46
    go_upto_region 1 with fail
    rw[←hW]
    try simp only[hN]
    clear hW hC
    go_wp2_with fail
    go_ret
    exact⟨by simp[t1,t2,t3],FW.out⟩
   ·have hr:ansr conn seq r=false:=by simp[ansr,e2]
    have t3:(r.kind==3)=true:=by simp[e3]
    have t1:(r.conn==conn)=true:=by simp[e1]
    have t2:(r.seq==seq)=false:=by simp[e2]
    clear e1 e2 e3
    rw[hr]
    go_enter Tryz.func46,Tryz.ntmps46
    go_upto_region 1 with fail
    rw[←hW]
    try simp only[hN]
    clear hW hC
    go_wp2_with fail
    go_ret
    exact⟨by simp[t2],FW.out⟩
  ·have hr:ansr conn seq r=false:=by simp[ansr,e1]
   have t3:(r.kind==3)=true:=by simp[e3]
   have t1:(r.conn==conn)=false:=by simp[e1]
   clear e1 e3
   rw[hr]
   go_enter Tryz.func46,Tryz.ntmps46
   go_upto_region 1 with fail
   rw[←hW]
   try simp only[hN]
   clear hW hC
   go_wp2_with fail
   go_ret
   exact⟨by simp[t1],FW.out⟩
 ·have hr:ansr conn seq r=false:=by simp[ansr,e3]
  have t3:(r.kind==3)=false:=by simp[e3]
  clear e3
  rw[hr]
  go_enter Tryz.func46,Tryz.ntmps46
  go_upto_region 1 with fail
  rw[←hW]
  try simp only[hN]
  clear hW hC
  go_wp2_with fail
  go_ret
  exact⟨by simp[t3],FW.out⟩
def EvLie (w:World)(p:Option Addr)(L:List Ev.Raw):Prop:=∀ (k:Nat) r,L[k]? = some r→∃ b o,p=some ⟨b,o,none⟩∧b<w.heap.size∧w.rangeAt b (o+k*23) r.cells
theorem EvLie.fr {w w':World}{p:Option Addr}{L:List Ev.Raw}(h:EvLie w p L)(hf:Fr [] w w'):EvLie w' p L:=fun k r hr=>by
 obtain⟨b,o,h1,h2,h3⟩:=h k r hr
 exact⟨b,o,h1,Nat.lt_of_lt_of_le h2 hf.size,fun j v hv=>hf.cell (h3 j v hv) h2 (by simp)⟩
def firstR (p:Ev.Raw→Bool)(l:List Ev.Raw):Int:=match l.findIdx? p with|some k=>(k:Int)|none=>-1
theorem firstR_yes {p:Ev.Raw→Bool}{l:List Ev.Raw}{k:Nat}{x:Ev.Raw}(h:∀ (j:Nat) y,l[j]? = some y→j<k→p y=false)(hx:l[k]? = some x)(hp:p x=true):firstR p l=(k:Int):=by
 unfold firstR
 have hk:=(List.getElem?_eq_some_iff.1 hx).1
 have hv:=(List.getElem?_eq_some_iff.1 hx).2
 rw[show l.findIdx? p=some k from List.findIdx?_eq_some_iff_getElem.2 ⟨hk,by rw[hv];exact hp,fun j hj=>by rw[h j _ (List.getElem?_eq_getElem (by omega)) hj];simp⟩]
theorem firstR_no {p:Ev.Raw→Bool}{l:List Ev.Raw}(h:∀ (j:Nat) y,l[j]? = some y→p y=false):firstR p l = -1:=by
 unfold firstR
 rw[List.findIdx?_eq_none_iff.2 fun x hx=>by
  obtain⟨j,hj,he⟩:=List.mem_iff_getElem.1 hx
  exact h j x (by rw[List.getElem?_eq_getElem hj,he])]
theorem firstR_any (p:Ev.Raw→Bool)(l:List Ev.Raw):decide (firstR p l ≥ 0)=l.any p:=by
 unfold firstR
 cases h:l.findIdx? p with
 | none =>
  have:=List.findIdx?_eq_none_iff.1 h
  have h2:l.any p=false:=by rw[List.any_eq_false];intro x hx;rw[this x hx];simp
  rw[h2]
  decide
 | some k =>
  rw[List.findIdx?_eq_some_iff_getElem] at h
  obtain⟨hk,hp,_⟩:=h
  have:l.any p=true:=List.any_eq_true.2 ⟨_,List.getElem_mem hk,hp⟩
  rw[this]
  simp
theorem eindex_any (w:World)(p:Option Addr)(n c b:Nat)(conn seq:Int)(L:List Ev.Raw)(hn:L.length=n)(hl:n≤100000)(h:EvLie w p L)(h1:w.cell? ⟨b,1,none⟩=some (.int .i64 conn))(h2:w.cell? ⟨b,2,none⟩=some (.int .i64 seq)) :
  Calls Tryz.prog 86 #[.slice p n c,.func (.func 46) #[] #[.pointer (some ⟨b,0,none⟩)]] w fun e w'=>e = .returned (.int .i64 (firstR (ansr conn seq) L))∧Fr [] w w':=by
 have hbl:=block_lt_of_cell h1
 have HP:=hid (fun W (f:Fr [] w W) r=>clos_any W b conn seq r (f.cell h1 hbl (by simp)) (f.cell h2 hbl (by simp)))
 have HE:=hid h
 have HN:=hid hn
 clear h h1 h2 hn hbl
 go_enter Tryz.func86,Tryz.ntmps86
 go_wp2
 go_loopw [5,8] (fun _ i wr=>∃ k:Nat,k≤n∧i = .int .i64 k∧(∀ (j:Nat) y,L[j]? = some y→j<k→ansr conn seq y=false)∧Fr [] w wr) (fun _ i _=>n - (intOf i).toNat)
 case atStart=>exact⟨0,Nat.zero_le _,rfl,fun _ _ _ h=>by omega,Fr.refl _ _⟩
 case round =>
  obtain⟨k,hk,rfl,hno,fr⟩:=hrel
  by_cases hlt:k<n
  ·obtain⟨r,hr⟩:∃ r,L[k]? = some r:=⟨_,List.getElem?_eq_getElem (by rw[HN.out];exact hlt)⟩
   obtain⟨bb,o,rfl,hbb,hrng⟩:=(HE.out.fr fr) k r hr
   have hk1:(k:Int)<(n:Int):=by omega
   have HX:=hid hr
   have HNo:=hid hno
   have HC:=hid (HP.out wr fr r)
   obtain⟨oo,hoo⟩:∃ oo,o+k*23=oo:=⟨_,rfl⟩
   rw[hoo] at hrng
   obtain⟨C,hC⟩:∃ C,C=r.cells:=⟨_,rfl⟩
   rw[←hC] at hrng HC
   have HR:=hid hrng
   have HS:=hid (show (Tryz.prog.info? 56).map (·.size)=some C.length by rw[hC];exact info_size)
   clear hr hno hrng hC
   cases hb:ansr conn seq r
   ·have HB:=hid hb
    clear hb
    go_wp2_with (refine wpList_load_mid rfl 56 (.tmp 14) rfl bb oo rfl C _ HR.out Tryz.underlying56 rfl HS.out ?_)
    refine HC.out.mono ?_
    rintro e w' ⟨rfl,f2⟩
    rw[HB.out]
    go_wp2_with fail
    go_roundw
    case rel=>exact⟨k+1,by omega,by go_num,fun j y hy hj=>by
     by_cases e:j=k
     ·subst e
      rw[HX.out] at hy
      cases hy
      exact HB.out
     ·exact HNo.out j y hy (by omega),fr.trans f2⟩
    case measure=>simp[intOf];omega
   ·have HB:=hid hb
    have HF:=hid (firstR_yes HNo.out HX.out hb)
    clear hb
    go_wp2_with (refine wpList_load_mid rfl 56 (.tmp 14) rfl bb oo rfl C _ HR.out Tryz.underlying56 rfl HS.out ?_)
    refine HC.out.mono ?_
    rintro e w' ⟨rfl,f2⟩
    rw[HB.out]
    go_wp2_with fail
    go_ret
    exact⟨ret_int HF.out.symm,fr.trans f2⟩
  ·obtain rfl:k=n:=by omega
   have HF:=hid (firstR_no (p:=ansr conn seq) (l:=L) fun j y hy=>hno j y hy (by have:=(List.getElem?_eq_some_iff.1 hy).1;have:=HN.out;omega))
   clear hno
   go_wp2
   go_ret
   exact⟨ret_int HF.out.symm,fr⟩
theorem econtains_any (w:World)(p:Option Addr)(n c b:Nat)(conn seq:Int)(L:List Ev.Raw)(hn:L.length=n)(hl:n≤100000)(h:EvLie w p L)(h1:w.cell? ⟨b,1,none⟩=some (.int .i64 conn))(h2:w.cell? ⟨b,2,none⟩=some (.int .i64 seq)) :
  Calls Tryz.prog 45 #[.slice p n c,.func (.func 46) #[] #[.pointer (some ⟨b,0,none⟩)]] w fun e w'=>e = .returned (.bool (L.any (ansr conn seq)))∧Fr [] w w':=by
 have HI:=hid (eindex_any w p n c b conn seq L hn hl h h1 h2)
 have HA:=hid (firstR_any (ansr conn seq) L)
 clear h h1 h2
 go_enter Tryz.func45,Tryz.ntmps45
 go_wp2_with fail
 refine HI.out.mono ?_
 rintro e w' ⟨rfl,f2⟩
 go_wp2_with fail
 go_ret
 exact⟨ret_bool (by rw[←HA.out]),f2⟩
theorem evlie_drop {w:World}{B:Nat}{g c:Nat}{L:List Ev.Raw}(h:Own w B 56 23 (.slice (some ⟨g,0,none⟩) L.length c) L.length (flat Ev.Raw.cells L)){k o:Nat}(ho:L.length≤k+1∨o=(k+1)*23):EvLie w (some ⟨g,o,none⟩) (L.drop (k+1)):=fun j r hr=>by
 rw[List.getElem?_drop] at hr
 have hlt:=(List.getElem?_eq_some_iff.1 hr).1
 obtain⟨gq,hea,hgq,hrng⟩:=ev_range h hr
 cases hea
 have e:o=(k+1)*23:=by
  rcases ho with h'|h'
  ·omega
  ·exact h'
 refine⟨g,o,rfl,hgq,?_⟩
 rw[e,←Nat.add_mul]
 exact hrng
theorem pend_cons (r:Ev.Raw)(l:List Ev.Raw):(M.pend ((r::l).map Ev.Raw.ev)).length=(M.pend (l.map Ev.Raw.ev)).length+(if r.kind=1∧l.any (ansr r.conn r.seq)=false then 1 else 0):=by
 have e:(l.map Ev.Raw.ev).any (fun x=>x.kind==3&&x.conn==r.conn&&x.seq==r.seq)=l.any (ansr r.conn r.seq):=by
  rw[List.any_map]
  congr 1
  funext x
  simp only[Function.comp,ansr,Ev.Raw.ev,Bool.and_assoc]
 show (M.pend (r.ev::l.map Ev.Raw.ev)).length=_
 rw[M.pend]
 have e2:(l.map Ev.Raw.ev).any (fun x=>x.kind==3&&x.conn==r.ev.conn&&x.seq==r.ev.seq)=l.any (ansr r.conn r.seq):=e
 rw[e2]
 have ek:r.ev.kind=r.kind:=rfl
 rw[ek]
 by_cases h:r.kind=1∧l.any (ansr r.conn r.seq)=false
 ·rw[if_pos h,if_pos ⟨h.1,by rw[h.2];simp⟩]
  simp
 ·rw[if_neg h,if_neg (fun h'=>h ⟨h'.1,by simpa using h'.2⟩)]
  simp
theorem pending_any (w:World)(B:Nat)(v:Value)(evs:List M.Ev)(h:Ev.EvsAt w B v evs)(hl:evs.length≤1000)(hB:B≤w.heap.size) :
  Calls Tryz.prog 20 #[v] w fun e w'=>∃ a c,e = .returned (.slice a (M.pend evs).length c)∧Fr [] w w':=by
 obtain⟨e3,ei,ez0,ez1,ez2⟩:=info_parts infoEv
 obtain⟨⟨L,hL,hown,hat⟩⟩:=h
 subst hL
 obtain⟨ea,ec,hve⟩:=Own.form hown
 subst hve
 obtain⟨Z,hZ⟩:∃ Z,w.heap.size=Z:=⟨_,rfl⟩
 have HZ:=hid hZ
 have HO:=hid hown
 have HA:=hid hat
 have hLl:L.length≤1000:=by simpa using hl
 clear hown hat hl hZ
 go_enter Tryz.func20,Tryz.ntmps20
 go_wp2_with fail
 go_loopw [3,9] (fun o i wr=>∃ (k:Nat) (L2:List (List Value)),k≤L.length∧i = .int .i64 k∧L2.length≤k∧Own wr Z 56 23 o L2.length (flat id L2)∧L2.length+(M.pend ((L.drop k).map Ev.Raw.ev)).length=(M.pend (L.map Ev.Raw.ev)).length∧Fr [] w wr) (fun _ i _=>L.length - (intOf i).toNat)
 case atStart=>exact⟨0,[],Nat.zero_le _,rfl,Nat.le_refl _,Own.nil _ _ _ _,by simp,Fr.refl _ _⟩
 case round =>
  obtain⟨k,L2,hk,rfl,hL2,own',hpd,fr⟩:=hrel
  by_cases hlt:k<L.length
  ·obtain⟨r,hr⟩:∃ r,L[k]? = some r:=⟨_,List.getElem?_eq_getElem hlt⟩
   have hra:=HA.out r (List.mem_of_getElem? hr)
   have hdk:L.drop k=r::L.drop (k+1):=by
    rw[List.drop_eq_getElem_cons hlt]
    congr 1
    rw[List.getElem?_eq_getElem hlt] at hr
    exact Option.some.inj hr
   have hpc:=pend_cons r (L.drop (k+1))
   rw[←hdk] at hpc
   obtain⟨gq,hea,hgq,hrng⟩:=ev_range (Own.fr0 HO.out fr) hr
   subst hea
   have hcap:L.length≤ec:=by
    rcases HO.out with⟨h0,_,_⟩|⟨_,_,_,h0,hrow⟩
    ·cases h0
    ·cases h0
     exact hrow.le
   obtain⟨o,ho⟩:∃ o,k*23=o:=⟨_,rfl⟩
   rw[ho] at hrng
   obtain⟨a',c',rfl⟩:=Own.form own'
   obtain⟨kind,conn,seq,tt,q,vo,a,vi⟩:=r
   have hops:Ev.OpsAt w B vo q.ops:=hra.ops
   have hits:Ev.ItsAt w B vi a.items:=hra.its
   have hl1:q.ops.length≤20:=hra.l1
   have hl2:a.items.length≤20:=hra.l2
   obtain⟨C,hC⟩:∃ C:List Value,C=Ev.Raw.cells ⟨kind,conn,seq,tt,q,vo,a,vi⟩:=⟨_,rfl⟩
   have HR:=hid (show wr.rangeAt gq o C by rw[hC];exact hrng)
   have HCC:=hid hC
   have HOps:=hid (Own.fr0 hops fr)
   have HIts:=hid (Own.fr0 hits fr)
   have HOr:=hid (Own.fr0 HO.out fr)
   have HOwn:=hid own'
   have HF:=hid fr
   have HPD:=hid (And.intro hpd hpc)
   have HONE:=hid (show C.toArray.all (·.oneCell')=true from by
    rw[hC,Array.all_eq_true_iff_forall_mem]
    intro u hu
    exact Ev.Raw.At.one hra u (by simpa using hu))
   obtain⟨N,hN⟩:∃ N,wr.heap.size=N:=⟨_,rfl⟩
   have HN:=hid hN
   have hNZ:Z≤N:=by rw[←HZ.out,←hN];exact fr.size
   have hk1:(k:Int)<(L.length:Int):=by omega
   have hk2:L2.length≤1000:=by omega
   clear hrng hC hops hits own' fr hpd hpc hdk hr hra hN
   go_upto_region 5 with(first|(refine wpList_store_hold rfl 56 (.tmp 5) (.tmp 13) rfl _ C.toArray rfl rfl _ _ (heap_alloc_new _ _) (by rw[HCC.out];exact info_size) (by simp[HCC.out,Ev.Raw.cells,Ev.rqc,Ev.rsc]) HONE.out ?_;intro W0 b0 fs0)|(refine wpList_load_mid rfl 56 (.tmp 12) rfl gq o rfl C _ HR.out Tryz.underlying56 rfl (by rw[HCC.out];exact info_size) ?_))
   have f0:Fr [] wr W0:=((Fr.refl [] wr).alloc _).step fs0 (fun x hx=>.inr (by simp at hx;omega))
   rw[HN.out] at b0
   try simp only[HN.out]
   have B0:=hid b0
   have F0:=hid f0
   have d0:W0.cell? ⟨N,0,none⟩=some (.int .i64 kind):=by rw[b0.cell,HCC.out];rfl
   have d1:W0.cell? ⟨N,1,none⟩=some (.int .i64 conn):=by rw[b0.cell,HCC.out];rfl
   have d2:W0.cell? ⟨N,2,none⟩=some (.int .i64 seq):=by rw[b0.cell,HCC.out];rfl
   have hNl:=b0.lt
   clear fs0 f0 b0 HR
   by_cases h1:kind=1
   ·have t1:(kind != 1)=false:=by simp[h1]
    have HK1:=hid h1
    clear h1
    obtain⟨p',hsl,hlie⟩:∃ p',(∀ W,(Instr.slice 45 (.slice (some ⟨gq,0,none⟩) L.length ec) (some (.int .i64 ((k:Int)+1))) none none).run Tryz.prog W = .ok (.slice p' (L.length - (k+1)) (ec - (k+1))) W)∧EvLie W0 p' (L.drop (k+1)):=by
     have hle1:k+1≤L.length:=by omega
     by_cases hce:ec=k+1
     ·refine⟨some ⟨gq,0,none⟩,fun W=>?_,evlie_drop (Own.fr0 HOr.out F0.out) (.inl (by omega))⟩
      have h1:(k:Int)+1≤(L.length:Int):=by omega
      have h2:(0:Int)≤(k:Int)+1:=by omega
      subst hce
      simp[go_sem,h1,h2]
     ·refine⟨some ⟨gq,(k+1)*23,none⟩,fun W=>?_,evlie_drop (Own.fr0 HOr.out F0.out) (.inr rfl)⟩
      have h1:(k:Int)+1≤(L.length:Int):=by omega
      have h2:(0:Int)≤(k:Int)+1:=by omega
      simp[go_sem,h1,h2,hce]
    have hle1:k+1≤L.length:=by omega
    have HL:=hid hlie
    clear hlie
    go_wp2_with fail
    refine(econtains_any W0 _ _ _ N conn seq (L.drop (k+1)) (by simp) (by omega) HL.out d1 d2).mono ?_
    rintro e w1 ⟨rfl,f1⟩
    have B1:=hid (B0.out.fr f1 (by simp))
    have F1:=hid (F0.out.trans f1)
    have hNl1:=B1.out.lt
    clear d0 d1 d2 f1 hNl hsl
    obtain⟨bb,hb⟩:∃ bb,(L.drop (k+1)).any (ansr conn seq)=bb:=⟨_,rfl⟩
    rw[hb]
    cases bb
    ·have HPD2:=hid (show L2.length+1+(M.pend ((L.drop (k+1)).map Ev.Raw.ev)).length=(M.pend (L.map Ev.Raw.ev)).length from by
      have h3:=HPD.out.1
      have h4:=HPD.out.2
      rw[if_pos ⟨HK1.out,hb⟩] at h4
      omega)
     clear hb
     go_wp2_with (refine wpList_load_row rfl 56 (.tmp 5) rfl N rfl 56 C.toArray (0,0) _ B1.out Tryz.underlying56 rfl (by rw[HCC.out];exact info_size) ?_)
     have hCe:C.toArray=evC kind conn seq tt q vo a vi:=by rw[HCC.out];rfl
     rw[hCe]
     refine(copied_any w1 B kind conn seq tt q vo a vi (Own.fr0 HOps.out F1.out) (Own.fr0 HIts.out F1.out) hl1 hl2 (Nat.le_trans hB (HF.out.trans F1.out).size)).mono ?_
     rintro e w2 ⟨vo',vi',rfl,ho1,ho2,f2⟩
     have F2:=hid (F1.out.trans f2)
     have HON:=hid (show ∀ u∈(evC kind conn seq tt q vo' a vi').toList,u.oneCell'=true from by
      intro u hu
      simp only[evC,List.mem_cons,List.not_mem_nil,or_false] at hu
      rcases hu with rfl|rfl|rfl|rfl|rfl|rfl|rfl|rfl|rfl|rfl|rfl|rfl|rfl|rfl|rfl|rfl|rfl|rfl|rfl|rfl|rfl|rfl|rfl<;>first|rfl|assumption)
     clear f2 hCe
     simp only[evC]
     go_wp2_with (at_builtin;(refine wpList_append_sl rfl (.tmp 25) (.tmp 28) 45 rfl e3 _ 264 Tryz.underlying45 ei ez0 ez1 ez2 rfl (by decide) (.slice a' L2.length c') (ownOf (.slice a' L2.length c')) rfl (Own.fr0 HOwn.out (F2.out.alloc _)).sl _ 1 1 _ rfl (by rfl) (Fm.Cells.of_holds (at_new (by simp))) (fun u hu=>HON.out u hu) (by unfold maxLen;omega) (by omega) ?_;intro v7 w7 own7 hs7 hf7 ho7 hm7;have P:=own_push (f:=id) (x:=(evC kind conn seq tt q vo' a vi').toList) HZ.out (HF.out.trans F2.out) (Own.fr0 HOwn.out F2.out) ((Fr.refl _ _).alloc _) rfl hs7 hf7 ho7 hm7;have PH:=hid P;clear hs7 hf7 ho7 hm7 P))
     go_roundw
     case rel=>exact⟨k+1,_,by omega,by go_num,by simp;omega,PH.out.1,by simpa using HPD2.out,PH.out.2⟩
     case measure=>simp[intOf];omega
    ·have HPD2:=hid (show L2.length+(M.pend ((L.drop (k+1)).map Ev.Raw.ev)).length=(M.pend (L.map Ev.Raw.ev)).length from by
      have h3:=HPD.out.1
      have h4:=HPD.out.2
      rw[if_neg (fun h=>by rw[show (L.drop (k+1)).any (ansr conn seq)=true from hb] at h;cases h.2)] at h4
      omega)
     clear hb
     go_wp2_with fail
     go_roundw
     case rel=>exact⟨k+1,L2,by omega,by go_num,by omega,Own.fr0 HOwn.out F1.out,HPD2.out,HF.out.trans F1.out⟩
     case measure=>simp[intOf];omega
   ·have t1:(kind != 1)=true:=by simpa using h1
    have HPD2:=hid (show L2.length+(M.pend ((L.drop (k+1)).map Ev.Raw.ev)).length=(M.pend (L.map Ev.Raw.ev)).length from by
     have h3:=HPD.out.1
     have h4:=HPD.out.2
     rw[if_neg (fun h=>h1 h.1)] at h4
     omega)
    clear h1
    go_wp2_with fail
    go_roundw
    case rel=>exact⟨k+1,L2,by omega,by go_num,by omega,Own.fr0 HOwn.out F0.out,HPD2.out,HF.out.trans F0.out⟩
    case measure=>simp[intOf];omega
  ·obtain rfl:k=L.length:=by omega
   have HH:=hid (And.intro own' (And.intro hpd fr))
   clear own' hpd fr
   go_wp2_with fail
   go_ret
   obtain⟨h1,h2,h3⟩:=HH.out
   rw[List.drop_length] at h2
   have h4:L2.length=(M.pend (L.map Ev.Raw.ev)).length:=by simpa[M.pend] using h2
   obtain⟨a,c,rfl⟩:=Own.form h1
   exact⟨a,c,by simp[h4],h3⟩
end Go.Proofs.YtjmkkcckfbnmeaaGreatDoor.Hi
namespace Go.Proofs.YtjmkkcckfbnmeaaGreatDoor.Tp
open Go.RowKit Cr Sv Pr
theorem ret_conf (W:World)(tmps:Array Value)(g:Nat)(hp:Holds W g 31 cells0)(h0:tmps[0]?.getD undef = .pointer (some ⟨g,0,none⟩)) :
  (results Tryz.f6 tmps).run Tryz.prog W = .ok (.agg cells0) W:=by
 have hr:Tryz.f6.results=#[.cell 0 31]:=rfl
 obtain⟨q0,q1,q2,q3,q4,q5,q6,q7⟩:=hp.cs8
 simp[cells0] at q0 q1 q2 q3 q4 q5 q6 q7
 simp[results,h0,go_sem,q0,q1,q2,q3,q4,q5,q6,q7,cells0]
theorem conf_any (w:World):Calls Tryz.prog 6 #[] w fun e w'=>e = .returned (.agg cells0)∧Fr [] w w':=by
 obtain⟨Z,hZ⟩:∃ Z,w.heap.size=Z:=⟨_,rfl⟩
 go_enter Tryz.func6,Tryz.ntmps6
 go_upto_region 1 with fail
 obtain⟨W,hW⟩:∃ W,W=w.alloc (.cells #[.int .i64 0,.int .i64 0,.int .i64 0,.int .i64 0,.int .i64 0,.int .i64 0,.int .i64 0,.int .i64 0] 31):=⟨_,rfl⟩
 have b:Holds W Z 31 #[.int .i64 0,.int .i64 0,.int .i64 0,.int .i64 0,.int .i64 0,.int .i64 0,.int .i64 0,.int .i64 0]:=by rw[hW,←hZ];exact Holds.new _ _ _
 have f:Fr [] w W:=by rw[hW];exact(Fr.refl _ _).alloc _
 rw[←hW]
 try simp only[hZ]
 have hc:=b.cell
 have hz:=b.frozen
 have c0:=hc 0
 have c1:=hc 1
 have c2:=hc 2
 have c3:=hc 3
 have c4:=hc 4
 have c5:=hc 5
 have c6:=hc 6
 have c7:=hc 7
 have z0:=hz 0
 have z1:=hz 1
 have z2:=hz 2
 have z3:=hz 3
 have z4:=hz 4
 have z5:=hz 5
 have z6:=hz 6
 have z7:=hz 7
 have hl:=b.lt
 simp at c0 c1 c2 c3 c4 c5 c6 c7
 clear hW hc hz
 have HB:=hid b
 have HF:=hid f
 clear b f
 go_wp2_with fail
 refine bodyPost_ret (ret_conf _ _ Z ?_ rfl) rfl ⟨rfl,?_⟩
 ·have q:=(((((((HB.out.set 0 (.int .i64 12)).set 1 (.int .i64 0)).set 2 (.int .i64 20006)).set 3 (.int .i64 3)).set 4 (.int .i64 2)).set 5 (.int .i64 6)).set 6 (.int .i64 65536)).set 7 (.int .i64 9)
  simpa[cells0] using q
 ·have hh:w.heap.size≤Z:=by omega
  exact Ev.Fr.setNew (Ev.Fr.setNew (Ev.Fr.setNew (Ev.Fr.setNew (Ev.Fr.setNew (Ev.Fr.setNew (Ev.Fr.setNew (Ev.Fr.setNew HF.out hh _) hh _) hh _) hh _) hh _) hh _) hh _) hh _
structure Rn (w W:World)(B g xp n t:Nat)(k:Cf)(s s1:M.Srv)(r q:Nat):Prop where
 srv:SrvAt W B g xp k s1
 len:s1.conns.length=n
 may:M.mayRounds n q s1=true
 eq:M.rounds s1 n q=M.rounds s n t
 ev:s1.events.length≤s.events.length+20*r
 fr:FrX B Us [] w W
structure Ri (w W:World)(B g xp n:Nat)(k:Cf)(s1 s2:M.Srv)(r j:Nat):Prop where
 srv:SrvAt W B g xp k s2
 len:s2.conns.length=n
 may:M.mayPicks ((List.range n).drop j) s2=true
 eq:((List.range n).drop j).foldl M.Srv.pick s2=(List.range n).foldl M.Srv.pick s1
 ev:s2.events.length≤s1.events.length+2*j
 fr:FrX B Us [] w W
theorem range_drop {n j:Nat}(h:j<n):(List.range n).drop j=j::(List.range n).drop (j+1):=by
 rw[List.drop_eq_getElem_cons (by simpa using h)]
 simp
theorem rounds_any (w:World)(B g xp n t:Nat)(k:Cf)(s:M.Srv)(h:SrvAt w B g xp k s)(hl:s.conns.length=n)(hn:n≤10)(ht:t≤100)(hm:M.mayRounds n t s=true)(hr0:5000≤k.room)(hr1:k.room≤100000)(hB:B≤w.heap.size)(hev:s.events.length≤80000) :
  Calls Tryz.prog 10 #[.pointer (some ⟨g,0,none⟩),.int .i64 n,.int .i64 t] w fun e w'=>e = .returned (.tuple #[])∧SrvAt w' B g xp k (M.rounds s n t)∧(M.rounds s n t).conns.length=n∧(M.rounds s n t).events.length≤s.events.length+20*t∧FrX B Us [] w w':=by
 have H0:Rn w w B g xp n t k s s 0 t:=⟨h,hl,hm,rfl,by omega,FrX.refl _ _ _ _⟩
 have HK:=hid (And.intro hr0 (And.intro hr1 (And.intro hB hev)))
 clear h hl hm hr0 hr1 hB hev
 have H0:=hid H0
 go_enter Tryz.func10,Tryz.ntmps10
 go_wp2_with fail
 go_loopw [6] (fun i wr=>∃ (r q:Nat) (s1:M.Srv),i = .int .i64 r∧r+q=t∧Rn w wr B g xp n t k s s1 r q) (fun i _=>t - (intOf i).toNat)
 case atStart=>exact⟨0,t,s,rfl,by omega,H0.out⟩
 case round =>
  obtain⟨r,q,s1,rfl,hq,H1⟩:=hrel
  have H1:=hid H1
  cases q with
  | zero =>
   obtain rfl:r=t:=by omega
   go_wp2_with fail
   refine bodyPost_end (results_none rfl _ _ _) rfl ?_
   obtain⟨h1,h2,h3,h4,h5,h6⟩:=H1.out
   have e:s1=M.rounds s n r:=h4
   rw[←e]
   exact⟨rfl,h1,h2,h5,h6⟩
  | succ q =>
   have hlt:(r:Int)<(t:Int):=by omega
   have HM:=hid (show M.mayPicks (List.range n) s1=true∧M.mayRounds n q ((List.range n).foldl M.Srv.pick s1)=true from by
    have:=H1.out.may
    simpa[M.mayRounds] using this)
   go_wp2_with fail
   go_loopw [7] (fun i wi=>∃ (j:Nat) (s2:M.Srv),i = .int .i64 j∧j≤n∧Ri w wi B g xp n k s1 s2 r j) (fun i _=>n - (intOf i).toNat)
   case atStart=>exact⟨0,s1,rfl,Nat.zero_le _,H1.out.srv,H1.out.len,by simpa using HM.out.1,by simp,by omega,H1.out.fr⟩
   case round =>
    obtain⟨j,s2,rfl,hj,H2⟩:=hrel
    have H2:=hid H2
    by_cases hjn:j<n
    ·have hjl:(j:Int)<(n:Int):=by omega
     have hd:=range_drop hjn
     have hmy:=H2.out.may
     rw[hd] at hmy
     simp only[M.mayPicks,Bool.and_eq_true] at hmy
     have hlen:=H2.out.len
     have HMY:=hid (And.intro hd hmy)
     have HP:=hid (fun W (hs:SrvAt W B g xp k s2) (hb:B≤W.heap.size)=>pick_any W B g xp j k s2 hs (by omega) hmy.1 HK.out.1 HK.out.2.1 hb (by
      have h1:=H2.out.ev
      have h2:=H1.out.ev
      have h3:=HK.out.2.2.2
      omega))
     clear hd hmy hlen
     go_wp2_with fail
     refine(HP.out _ H2.out.srv (Nat.le_trans HK.out.2.2.1 H2.out.fr.size)).mono ?_
     rintro e w3 ⟨rfl,s3,x3⟩
     have H3:=hid (show Ri w w3 B g xp n k s1 (s2.pick j) r (j+1) from ⟨s3,by rw[(pick_len s2 j).2];exact H2.out.len,HMY.out.2.2,by
      have h1:=H2.out.eq
      rw[HMY.out.1] at h1
      exact h1,by
      have h1:=H2.out.ev
      have h2:=(pick_len s2 j).1
      omega,H2.out.fr.trans x3⟩)
     clear s3 x3
     go_wp2_with fail
     go_roundw
     case rel=>exact⟨j+1,_,by go_num,by omega,H3.out⟩
     case measure=>simp[intOf];omega
    ·obtain rfl:j=n:=by omega
     have H4:=hid (show Rn w wr B g xp j t k s s2 (r+1) q from by
      obtain⟨h1,h2,h3,h4,h5,h6⟩:=H2.out
      have e:s2=(List.range j).foldl M.Srv.pick s1:=by rw[List.drop_of_length_le (by simp)] at h4;exact h4
      exact⟨h1,h2,by rw[e];exact HM.out.2,by
       rw[e]
       exact H1.out.eq,by
       have:=H1.out.ev
       omega,h6⟩)
     clear H2
     go_wp2_with fail
     go_roundw
     case rel=>exact⟨r+1,q,_,by go_num,by omega,H4.out⟩
     case measure=>simp[intOf];omega
def ans (i:Int)(r:Ev.Raw):Bool:=r.kind==3&&r.conn==i
theorem answered_raw (s:M.Srv)(L:List Ev.Raw)(had:Nat)(i:Int)(h:L.map Ev.Raw.ev=s.events):M.answered s had i=(L.drop had).any (ans i):=by
 unfold M.answered
 rw[←h,←List.map_drop,List.any_map]
 rfl
theorem answered_any (w:World)(B g xp had:Nat)(i:Int)(k:Cf)(s:M.Srv)(h:SrvAt w B g xp k s)(hev:s.events.length≤100000)(hh:had≤s.events.length) :
  Calls Tryz.prog 15 #[.pointer (some ⟨g,0,none⟩),.int .i64 had,.int .i64 i] w fun e w'=>e = .returned (.bool (M.answered s had i))∧Fr [] w w':=by
 have HE:=hid (events_any w B g xp k s h hev)
 have HH:=hid (And.intro hev hh)
 clear h hev hh
 go_enter Tryz.func15,Tryz.ntmps15
 go_wp2_with fail
 refine HE.out.mono ?_
 rintro e w1 ⟨v,rfl,ev,f1⟩
 obtain⟨L,hL,hown,-⟩:=ev.at_
 obtain⟨ea,ec,rfl⟩:=Own.form hown
 have hLl:L.length=s.events.length:=by rw[←hL];simp
 have HM:=hid (answered_raw s L had i hL)
 have HB:=hid (show L.length≤100000∧had≤L.length from by rw[hLl];exact HH.out)
 have HO:=hid hown
 have HF:=hid f1
 clear hLl hL hown ev f1
 go_wp2_with fail
 go_loopw [8] (fun t wr=>∃ j:Nat,t = .int .i64 j∧had≤j∧j≤L.length∧(L.drop had).any (ans i)=(L.drop j).any (ans i)∧Fr [] w1 wr) (fun t _=>L.length - (intOf t).toNat)
 case atStart=>exact⟨had,rfl,Nat.le_refl _,HB.out.2,rfl,Fr.refl _ _⟩
 case round =>
  obtain⟨j,rfl,hj0,hj,hany,fr⟩:=hrel
  have HA:=hid hany
  have HFR:=hid fr
  clear hany fr
  by_cases hlt:j<L.length
  ·obtain⟨r,hr⟩:∃ r,L[j]? = some r:=⟨_,List.getElem?_eq_getElem hlt⟩
   have hd:L.drop j=r::L.drop (j+1):=by
    rw[List.drop_eq_getElem_cons hlt]
    congr 1
    rw[List.getElem?_eq_getElem hlt] at hr
    exact Option.some.inj hr
   have HD:=hid hd
   obtain⟨gq,hea,hgq,hrng⟩:=ev_range (Own.fr0 HO.out HFR.out) hr
   subst hea
   obtain⟨o,ho⟩:∃ o,j*23=o:=⟨_,rfl⟩
   rw[ho] at hrng
   have d0:wr.cell? ⟨gq,o,none⟩=some (.int .i64 r.kind):=hrng 0 _ rfl
   have d1:wr.cell? ⟨gq,o+1,none⟩=some (.int .i64 r.conn):=hrng 1 _ rfl
   have hj1:(j:Int)<(L.length:Int):=by omega
   have hj2:L.length≤100000:=HB.out.1
   clear hd hrng hr
   by_cases e3:r.kind=3
   ·by_cases e1:r.conn=i
    ·have t3:(r.kind==3)=true:=by simp[e3]
     have t1:(r.conn==i)=true:=by simp[e1]
     have HT:=hid (show ans i r=true by simp[ans,e1,e3])
     clear e1 e3
     go_wp2_with fail
     go_ret
     exact⟨by rw[HM.out,HA.out,HD.out];simp[HT.out],HF.out.trans HFR.out⟩
    ·have t3:(r.kind==3)=true:=by simp[e3]
     have t1:(r.conn==i)=false:=by simp[e1]
     have HT:=hid (show ans i r=false by simp[ans,e1])
     clear e1 e3
     go_wp2_with fail
     go_roundw
     case rel=>exact⟨j+1,by go_num,by omega,by omega,by rw[HA.out,HD.out];simp[HT.out],HFR.out⟩
     case measure=>simp[intOf];omega
   ·have t3:(r.kind==3)=false:=by simp[e3]
    have HT:=hid (show ans i r=false by simp[ans,e3])
    clear e3
    go_wp2_with fail
    go_roundw
    case rel=>exact⟨j+1,by go_num,by omega,by omega,by rw[HA.out,HD.out];simp[HT.out],HFR.out⟩
    case measure=>simp[intOf];omega
  ·obtain rfl:j=L.length:=by omega
   go_wp2_with fail
   go_ret
   exact⟨by rw[HM.out,HA.out];simp,HF.out.trans HFR.out⟩
theorem items_nil (w:World)(a1 a2:Option Addr)(c1 c2:Nat) :
  Calls Tryz.prog 39 #[.slice a1 0 c1,.slice a2 0 c2] w fun e w'=>e = .returned (.bool true)∧w=w':=by
 go_enter Tryz.func39,Tryz.ntmps39
 go_wp2_with fail
 refine wp_loop_rounds 1 ?_
 rw[rounds_succ]
 go_wp2_with fail
 go_ret
 exact⟨rfl,rfl⟩
theorem same_any (w:World)(a:M.Resp)(p1 p2:Option Addr)(c1 c2:Nat) :
  Calls Tryz.prog 17 #[.agg (Ev.rsc a (.slice p1 0 c1)).toArray,.agg (Ev.rsc a (.slice p2 0 c2)).toArray] w fun e w'=>e = .returned (.bool true)∧Fr [] w w':=by
 obtain⟨Z,hZ⟩:∃ Z,w.heap.size=Z:=⟨_,rfl⟩
 obtain⟨W,hW⟩:∃ W,W=(w.alloc (.cells (Ev.rsc a (.slice p1 0 c1)).toArray 53)).alloc (.cells (Ev.rsc a (.slice p2 0 c2)).toArray 53):=⟨_,rfl⟩
 have f:Fr [] w W:=by rw[hW];exact((Fr.refl _ _).alloc _).alloc _
 have b1:Holds W Z 53 (Ev.rsc a (.slice p1 0 c1)).toArray:=by rw[hW,←hZ];exact(Holds.new _ _ _).alloc _
 have b2:Holds W (Z+1) 53 (Ev.rsc a (.slice p2 0 c2)).toArray:=by rw[hW];exact at_new (by simp[hZ])
 have hc:=b1.cell
 have hd:=b2.cell
 obtain⟨kind,err,token,version,card,index,more,items⟩:=a
 have q0:=hc 0
 have q1:=hc 1
 have q2:=hc 2
 have q3:=hc 3
 have q4:=hc 4
 have q5:=hc 5
 have q6:=hc 6
 have q7:=hc 7
 have r0:=hd 0
 have r1:=hd 1
 have r2:=hd 2
 have r3:=hd 3
 have r4:=hd 4
 have r5:=hd 5
 have r6:=hd 6
 have r7:=hd 7
 have hl1:=b1.lt
 have hl2:=b2.lt
 simp[Ev.rsc] at q0 q1 q2 q3 q4 q5 q6 q7 r0 r1 r2 r3 r4 r5 r6 r7
 have HF:=hid f
 clear hc hd f b1 b2
 simp only[Ev.rsc] at hW ⊢
 go_enter Tryz.func17,Tryz.ntmps17
 go_upto_region 1 with fail
 rw[←hW]
 try simp only[hZ]
 clear hW
 go_wp2_with fail
 refine(items_nil W p1 p2 c1 c2).mono ?_
 rintro e w1 ⟨rfl,rfl⟩
 go_wp2_with fail
 go_ret
 exact⟨rfl,HF.out⟩
theorem cells_hello:(Ev.rqc M.hello (.slice none 0 0)).toArray=#[.int .i64 1,.string ⟨#[97,110,110]⟩,.string ⟨#[]⟩,.string ⟨#[]⟩,.string ⟨#[]⟩,.int .i64 0,.int .i64 0,.slice none 0 0,.int .i64 0,.int .i64 0,.int .i64 0]:=by kernel_rfl
theorem cells_create:(Ev.rqc M.rCreate (.slice none 0 0)).toArray=#[.int .i64 2,.string ⟨#[]⟩,.string ⟨#[104,111,109,101]⟩,.string ⟨#[]⟩,.string ⟨#[]⟩,.int .i64 0,.int .i64 0,.slice none 0 0,.int .i64 0,.int .i64 0,.int .i64 0]:=by kernel_rfl
theorem cells_put1:(Ev.rqc M.put1 (.slice none 0 0)).toArray=#[.int .i64 4,.string ⟨#[]⟩,.string ⟨#[104,111,109,101]⟩,.string ⟨#[97]⟩,.string ⟨#[110,97,109,101,58,65,110,110,10]⟩,.int .i64 1,.int .i64 0,.slice none 0 0,.int .i64 0,.int .i64 0,.int .i64 0]:=by kernel_rfl
theorem cells_wait1:(Ev.rqc M.wait1 (.slice none 0 0)).toArray=#[.int .i64 9,.string ⟨#[]⟩,.string ⟨#[104,111,109,101]⟩,.string ⟨#[]⟩,.string ⟨#[]⟩,.int .i64 0,.int .i64 0,.slice none 0 0,.int .i64 2,.int .i64 0,.int .i64 9]:=by kernel_rfl
theorem cells_batch1 (v:Value):(Ev.rqc M.batch1 v).toArray=#[.int .i64 7,.string ⟨#[]⟩,.string ⟨#[104,111,109,101]⟩,.string ⟨#[]⟩,.string ⟨#[]⟩,.int .i64 0,.int .i64 0,v,.int .i64 0,.int .i64 0,.int .i64 0]:=by
 have h1:M.home=⟨#[104,111,109,101]⟩:=by decide +kernel
 simp[Ev.rqc,M.batch1,h1]
theorem ops_batch1:flat Lp.cs M.batch1.ops=[.bool false,.string ⟨#[98]⟩,.string ⟨#[110,97,109,101,58,66,111,98,10]⟩,.int .i64 0,.int .i64 0,.bool true,.string ⟨#[99]⟩,.string ⟨#[]⟩,.int .i64 0,.int .i64 0]:=by kernel_rfl
theorem ok1:∀ q∈M.reqs1,M.reqOk q=true:=fun q hq=>List.all_eq_true.1 M.reqs1_ok.1 q hq
theorem frame_nil (w:World)(q:M.Req)(hq:M.reqOk q=true)(ho:q.ops=[]):Calls Tryz.prog 9 #[.agg (Ev.rqc q (.slice none 0 0)).toArray] w fun e w'=>e = .returned (.string (En.bytesOf (En.reqF q)))∧Fr [] w w' :=
 frame_any w 0 q _ hq (by rw[ho];exact Own.nil _ _ _ _) (fun _=>rfl)
theorem frame_hello (w:World):Calls Tryz.prog 9 #[.agg #[.int .i64 1,.string ⟨#[97,110,110]⟩,.string ⟨#[]⟩,.string ⟨#[]⟩,.string ⟨#[]⟩,.int .i64 0,.int .i64 0,.slice none 0 0,.int .i64 0,.int .i64 0,.int .i64 0]] w fun e w'=>e = .returned (.string (En.bytesOf (En.reqF M.hello)))∧Fr [] w w':=by
 rw[←cells_hello]
 exact frame_nil w _ (ok1 _ (by simp[M.reqs1])) rfl
theorem frame_create (w:World):Calls Tryz.prog 9 #[.agg #[.int .i64 2,.string ⟨#[]⟩,.string ⟨#[104,111,109,101]⟩,.string ⟨#[]⟩,.string ⟨#[]⟩,.int .i64 0,.int .i64 0,.slice none 0 0,.int .i64 0,.int .i64 0,.int .i64 0]] w fun e w'=>e = .returned (.string (En.bytesOf (En.reqF M.rCreate)))∧Fr [] w w':=by
 rw[←cells_create]
 exact frame_nil w _ (ok1 _ (by simp[M.reqs1])) rfl
theorem frame_put1 (w:World):Calls Tryz.prog 9 #[.agg #[.int .i64 4,.string ⟨#[]⟩,.string ⟨#[104,111,109,101]⟩,.string ⟨#[97]⟩,.string ⟨#[110,97,109,101,58,65,110,110,10]⟩,.int .i64 1,.int .i64 0,.slice none 0 0,.int .i64 0,.int .i64 0,.int .i64 0]] w fun e w'=>e = .returned (.string (En.bytesOf (En.reqF M.put1)))∧Fr [] w w':=by
 rw[←cells_put1]
 exact frame_nil w _ (ok1 _ (by simp[M.reqs1])) rfl
theorem frame_wait1 (w:World):Calls Tryz.prog 9 #[.agg #[.int .i64 9,.string ⟨#[]⟩,.string ⟨#[104,111,109,101]⟩,.string ⟨#[]⟩,.string ⟨#[]⟩,.int .i64 0,.int .i64 0,.slice none 0 0,.int .i64 2,.int .i64 0,.int .i64 9]] w fun e w'=>e = .returned (.string (En.bytesOf (En.reqF M.wait1)))∧Fr [] w w':=by
 rw[←cells_wait1]
 exact frame_nil w _ (ok1 _ (by simp[M.reqs1])) rfl
theorem frame_batch1 (w:World)(N:Nat)(h:Row w 49 5 N 2 2 [.bool false,.string ⟨#[98]⟩,.string ⟨#[110,97,109,101,58,66,111,98,10]⟩,.int .i64 0,.int .i64 0,.bool true,.string ⟨#[99]⟩,.string ⟨#[]⟩,.int .i64 0,.int .i64 0]) :
  Calls Tryz.prog 9 #[.agg #[.int .i64 7,.string ⟨#[]⟩,.string ⟨#[104,111,109,101]⟩,.string ⟨#[]⟩,.string ⟨#[]⟩,.int .i64 0,.int .i64 0,.slice (some ⟨N,0,none⟩) 2 2,.int .i64 0,.int .i64 0,.int .i64 0]] w fun e w'=>e = .returned (.string (En.bytesOf (En.reqF M.batch1)))∧Fr [] w w':=by
 rw[←cells_batch1]
 exact frame_any w 0 M.batch1 _ (ok1 _ (by simp[M.reqs1])) (.inr ⟨N,2,Nat.zero_le _,rfl,by rw[ops_batch1];exact h⟩) (fun h=>absurd rfl h)
open Go.RowKit Cr Sv Pr Hi
theorem reqs1_cat:((((En.bytesOf (En.reqF M.hello)++En.bytesOf (En.reqF M.rCreate))++En.bytesOf (En.reqF M.put1))++En.bytesOf (En.reqF M.put1))++En.bytesOf (En.reqF M.batch1))++En.bytesOf (En.reqF M.wait1)=reqs1B:=by
 simp[En.bytesOf_append,reqs1B,M.reqs1]
theorem resps1_at:(flat rcl M.resps1)[10]? = some (.int .i64 1)∧(flat rcl M.resps1)[18]? = some (.int .i64 2)∧(flat rcl M.resps1)[19]? = some (.int .i64 2)∧(flat rcl M.resps1)[25]? = some (.int .i64 6)∧(flat rcl M.resps1)[33]? = some (.int .i64 4)∧(flat rcl M.resps1)[37]? = some (.int .i64 1):=⟨rfl,rfl,rfl,rfl,rfl,rfl⟩
theorem info_out:(Tryz.prog.info? 62).map (·.size)=some 4:=by kernel_rfl
theorem ev_len1:(M.runF 80 M.f0 []).1.events.length≤1000:=by decide +kernel
theorem first_any (w:World):Calls Tryz.prog 4 #[] w fun e w'=>e = .returned (.bool true)∧Fr [] w w':=by
 obtain⟨s1,h1⟩:∃ s,En.bytesOf (En.reqF M.hello)=s:=⟨_,rfl⟩
 obtain⟨s2,h2⟩:∃ s,En.bytesOf (En.reqF M.rCreate)=s:=⟨_,rfl⟩
 obtain⟨s3,h3⟩:∃ s,En.bytesOf (En.reqF M.put1)=s:=⟨_,rfl⟩
 obtain⟨s4,h4⟩:∃ s,En.bytesOf (En.reqF M.batch1)=s:=⟨_,rfl⟩
 obtain⟨s5,h5⟩:∃ s,En.bytesOf (En.reqF M.wait1)=s:=⟨_,rfl⟩
 have hcat:=reqs1_cat
 rw[h1,h2,h3,h4,h5] at hcat
 have hz:reqs1B.size≤20006:=by
  unfold reqs1B
  rw[En.bytesOf_size]
  exact reqs1_len
 rw[←hcat] at hz
 simp at hz
 have e1:s1.size+s2.size≤9223372036854775807:=by omega
 have e2:(s1++s2).size+s3.size≤9223372036854775807:=by simp;omega
 have e3:(s1++s2++s3).size+s3.size≤9223372036854775807:=by simp;omega
 have e4:(s1++s2++s3++s3).size+s4.size≤9223372036854775807:=by simp;omega
 have e5:(s1++s2++s3++s3++s4).size+s5.size≤9223372036854775807:=by simp;omega
 have HC:=hid hcat
 have F1:=hid frame_hello
 have F2:=hid frame_create
 have F3:=hid frame_put1
 have F4:=hid frame_batch1
 have F5:=hid frame_wait1
 rw[h1] at F1
 rw[h2] at F2
 rw[h3] at F3
 rw[h4] at F4
 rw[h5] at F5
 clear hcat hz h1 h2 h3 h4 h5
 go_enter Tryz.func4,Tryz.ntmps4
 go_wp2_with fail
 refine(F1.out _).mono ?_
 rintro e w1 ⟨rfl,f1⟩
 have G1:=hid f1
 clear f1
 go_wp2_with fail
 refine(F2.out _).mono ?_
 rintro e w2 ⟨rfl,f2⟩
 have G2:=hid (G1.out.trans f2)
 clear f2
 go_wp2_with fail
 refine(F3.out _).mono ?_
 rintro e w3 ⟨rfl,f3⟩
 have G3:=hid (G2.out.trans f3)
 clear f3
 go_wp2_with fail
 refine(F4.out _ w3.heap.size ?_).mono ?_
 ·exact Row.new w3 #[.bool false,.string ⟨#[98]⟩,.string ⟨#[110,97,109,101,58,66,111,98,10]⟩,.int .i64 0,.int .i64 0,.bool true,.string ⟨#[99]⟩,.string ⟨#[]⟩,.int .i64 0,.int .i64 0] rfl (by decide)
 rintro e w4 ⟨rfl,f4⟩
 have G4:=hid (G3.out.trans (((Fr.refl _ _).alloc _).trans f4))
 clear f4
 go_wp2_with fail
 refine(F5.out _).mono ?_
 rintro e w5 ⟨rfl,f5⟩
 have G5:=hid (G4.out.trans f5)
 clear f5
 go_wp2_with fail
 refine(conf_any _).mono ?_
 rintro e w6 ⟨rfl,f6⟩
 have G6:=hid (G5.out.trans f6)
 clear f6
 go_wp2_with fail
 have hcl:Cells (w6.alloc (.cells #[.int .i64 1,.int .i64 0,.int .i64 0,.string ⟨#[]⟩,.int .i64 2,.int .i64 0,.int .i64 0,.string (s1++s2++s3++s3++s4++s5)] 66)) (some ⟨w6.heap.size,0,none⟩) [.int .i64 1,.int .i64 0,.int .i64 0,.string ⟨#[]⟩,.int .i64 2,.int .i64 0,.int .i64 0,.string reqs1B]:=by
  rw[←HC.out]
  exact Fm.Cells.of_holds (Holds.new _ _ _)
 obtain⟨evs,hevs⟩:∃ evs,(M.runF 80 M.f0 []).1.events=evs:=⟨_,rfl⟩
 have HL:=ev_len1
 have HP:=M.run_first.2.1
 have HR:=run_first _ _ 2 hcl
 rw[hevs] at HL HP HR
 have HLP:=hid (And.intro HL HP)
 clear hevs HL HP hcl
 refine HR.mono ?_
 rintro e w7 ⟨go,co,vS,vD,vE,rfl,hgo,hvS,hvD,⟨ve,ne,ce,rfl⟩,hev,f7⟩
 have hgl:=block_lt_of_cell hgo
 simp only at hgl
 have G7:=hid ((G6.out.trans ((Fr.refl _ _).alloc _)).trans f7)
 have HB:=f7.size
 have HEV:=hid (And.intro hev HB)
 obtain⟨ss,hss⟩:∃ ss,En.bytesOf (M.resps1.flatMap En.respF)=ss:=⟨_,rfl⟩
 have HA:=hid (fun W=>answers_any W M.resps1 (fun a ha=>⟨Rp.resp_ok (List.all_eq_true.1 M.reqs1_ok.2 a ha),by
  have:∀ a∈M.resps1,a.items=[]:=by decide
  exact this a ha⟩) (by decide))
 rw[hss] at HA hgo
 clear HR hev f7 hss HB e1 e2 e3 e4 e5
 go_upto_region 7 with(refine wpList_store_hold rfl 62 (.tmp 6) (.tmp 41) rfl _ #[.slice (some ⟨go,0,none⟩) 1 co,vS,vD,.slice ve ne ce] rfl rfl _ _ (heap_alloc_new _ _) info_out rfl (by rw[Array.all_eq_true_iff_forall_mem];intro u hu;simp at hu;rcases hu with rfl|rfl|rfl|rfl<;>first|rfl|assumption) ?_;intro W7 b7 fs7)
 have g7:Fr [] w7 W7:=((Fr.refl [] w7).alloc _).step fs7 (fun x hx=>.inr (by simp at hx;omega))
 obtain⟨N,hN⟩:∃ N,w7.heap.size=N:=⟨_,rfl⟩
 rw[hN] at b7
 have hgo7:=g7.cell hgo hgl (by simp)
 have hgl7:=Nat.lt_of_lt_of_le hgl g7.size
 have B7:=hid b7
 have G77:=hid g7
 have d0:=b7.cell 0
 have d3:=b7.cell 3
 have dl:=b7.lt
 simp at d0 d3
 try simp only[hN]
 clear fs7 b7 g7 hgo hgl hvS hvD hN
 go_wp2_with fail
 refine(HA.out _).mono ?_
 rintro e w8 ⟨v,rfl,own,f8⟩
 obtain⟨ga,ca,hga,rfl,hrow⟩:=own.pos (by decide)
 have e5:M.resps1.length=5:=rfl
 rw[e5] at hrow ⊢
 have B8:=B7.out.fr f8 (by simp)
 have j3:=B8.cell 3
 have jl:=B8.lt
 simp at j3
 have a0:=hrow.cell resps1_at.1
 have a1:=hrow.cell resps1_at.2.1
 have a2:=hrow.cell resps1_at.2.2.1
 have a3:=hrow.cell resps1_at.2.2.2.1
 have a4:=hrow.cell resps1_at.2.2.2.2.1
 have a5:=hrow.cell resps1_at.2.2.2.2.2
 have al:=hrow.lt
 have G8:=hid f8
 have HP:=hid (pending_any w8 _ _ evs (HEV.out.1.frx (FrX.of_fr0 (Ts:=[]) (G77.out.trans f8)) (by simp) (by simp) (by simp)) HLP.out.1 (Nat.le_trans HEV.out.2 (G77.out.trans f8).size))
 rw[HLP.out.2] at HP
 clear f8 own hrow B8 e5 hga d0 d3 dl hgo7 hgl7
 go_wp2_with fail
 refine HP.out.mono ?_
 rintro e w9 ⟨pa,pc,rfl,f9⟩
 have G9:=hid (G7.out.trans ((G77.out.trans G8.out).trans f9))
 clear f9
 go_wp2_with fail
 go_ret
 exact⟨rfl,G9.out⟩
structure Tw (w W:World)(Z g xp:Nat)(ks:List (Nat × Array Value))(s:M.Srv):Prop where
 srv:SrvAt W Z g xp k0 s
 fr:Fr [] w W
 keep:∀ N cs,(N,cs)∈ks→Holds W N 53 cs
section
variable {w W W':World} {Z g xp:Nat} {ks:List (Nat × Array Value)} {s s':M.Srv}
theorem Tw.fr0 (h:Tw w W Z g xp ks s)(hf:Fr [] W W'):Tw w W' Z g xp ks s:=⟨h.srv.fr0 hf,h.fr.trans hf,fun N cs hN=>(h.keep N cs hN).fr hf (by simp)⟩
theorem Tw.turn (h:Tw w W Z g xp ks s)(hZ:w.heap.size=Z)(hs:SrvAt W' Z g xp k0 s'){Ts:List TypeId}(hf:FrX Z Ts [] W W')(hT:53∉Ts):Tw w W' Z g xp ks s':=⟨hs,Fr.trans_x h.fr hZ hf,fun N cs hN=>(h.keep N cs hN).frx hf hT (by simp)⟩
theorem Tw.more (h:Tw w W Z g xp ks s){N:Nat}{cs:Array Value}(hb:Holds W N 53 cs):Tw w W Z g xp ((N,cs)::ks) s:=⟨h.srv,h.fr,fun N' cs' hN=>by
 rcases List.mem_cons.1 hN with e|e
 ·cases e
  exact hb
 ·exact h.keep N' cs' e⟩
theorem Tw.size (h:Tw w W Z g xp ks s)(hZ:w.heap.size=Z):Z≤W.heap.size:=by rw[←hZ];exact h.fr.size
theorem tw_new (w:World)(Z:Nat)(hZ:w.heap.size=Z)(W:World)(hf:Fr [] w W):Calls Tryz.prog 5 #[.agg cells0] W fun e w'=>∃ g xp,e = .returned (.tuple #[.pointer (some ⟨g,0,none⟩),.int .i64 0])∧Tw w w' Z g xp [] ⟨M.core0,[],[]⟩ :=
 (new_any W Z (by rw[←hZ];exact hf.size)).mono fun _ _ ⟨g,xp,h1,_,h3,h4⟩=>⟨g,xp,h1,h3,hf.trans h4,by simp⟩
theorem tw_open (h:Tw w W Z g xp ks s)(hZ:w.heap.size=Z)(hn:s.conns.length<12)(hst:∀ m,m∈s.conns→m.state≠4) :
  Calls Tryz.prog 7 #[.pointer (some ⟨g,0,none⟩)] W fun e w'=>e = .returned (.tuple #[.int .i64 s.conns.length,.int .i64 0])∧Tw w w' Z g xp ks { s with conns:=s.conns++[{}] } :=
 (open_any W Z g xp k0 s h.srv (by show (s.conns.length:Int)<12;omega) (by decide) hst (by decide) (h.size hZ)).mono fun _ _ ⟨h1,h2,h3⟩=>⟨h1,h.turn hZ h2 h3 (by decide)⟩
theorem tw_send (h:Tw w W Z g xp ks s)(hZ:w.heap.size=Z)(i:Nat)(m:M.Conn)(q:List M.Req)(hmi:s.conns[i]? = some m)(h4:m.state≠4)(hq:∀ x,x∈m.todo++q→M.reqOk x=true)(hl:(m.todo++q).length≤30) :
  Calls Tryz.prog 8 #[.pointer (some ⟨g,0,none⟩),.int .i64 i,.string (En.bytesOf (q.flatMap En.reqF))] W fun e w'=>e = .returned (.bool true)∧Tw w w' Z g xp ks (s.send i q) :=
 (send_any W Z g xp i k0 s m q h.srv hmi h4 (by decide) (by decide) (by
  show ((En.bytesOf ((m.todo++q).flatMap En.reqF)).size:Int)≤20006
  rw[En.bytesOf_size]
  have:=Se.todo_len hq
  omega)).mono fun _ _ ⟨h1,h2,h3⟩=>⟨h1,h.turn hZ h2 h3 (by decide)⟩
theorem tw_pick (h:Tw w W Z g xp ks s)(hZ:w.heap.size=Z)(i:Nat)(hi:i<s.conns.length)(hm:M.mayPick s i=true)(hev:s.events.length≤90000) :
  Calls Tryz.prog 14 #[.pointer (some ⟨g,0,none⟩),.int .i64 i] W fun e w'=>e = .returned (.bool (s.can i))∧Tw w w' Z g xp ks (s.pick i) :=
 (pick_any W Z g xp i k0 s h.srv hi hm (by decide) (by decide) (h.size hZ) hev).mono fun _ _ ⟨h1,h2,h3⟩=>⟨h1,h.turn hZ h2 h3 (by decide)⟩
theorem tw_rounds (h:Tw w W Z g xp ks s)(hZ:w.heap.size=Z)(n t:Nat)(hl:s.conns.length=n)(hn:n≤10)(ht:t≤100)(hm:M.mayRounds n t s=true)(hev:s.events.length≤80000) :
  Calls Tryz.prog 10 #[.pointer (some ⟨g,0,none⟩),.int .i64 n,.int .i64 t] W fun e w'=>e = .returned (.tuple #[])∧Tw w w' Z g xp ks (M.rounds s n t)∧(M.rounds s n t).conns.length=n∧(M.rounds s n t).events.length≤s.events.length+20*t :=
 (rounds_any W Z g xp n t k0 s h.srv hl hn ht hm (by decide) (by decide) (h.size hZ) hev).mono fun _ _ ⟨h1,h2,h3,h4,h5⟩=>⟨h1,h.turn hZ h2 h5 (by decide),h3,h4⟩
theorem tw_tick (h:Tw w W Z g xp ks s)(hZ:w.heap.size=Z)(d:Int)(h0:0≤d)(h1:d≤1000000)(h2:0≤s.core.now)(h3:s.core.now≤1000000000) :
  Calls Tryz.prog 16 #[.pointer (some ⟨g,0,none⟩),.int .i64 d] W fun e w'=>e = .returned (.bool true)∧Tw w w' Z g xp ks (s.tick d) :=
 (Sv.tick_any W Z g xp k0 s d h.srv h0 h1 h2 h3).mono fun _ _ ⟨h1,h2,h3⟩=>⟨h1,h.turn hZ h2 h3 (by decide)⟩
theorem tw_can (h:Tw w W Z g xp ks s)(i:Nat)(hi:i<s.conns.length)(hm:M.mayPick s i=true) :
  Calls Tryz.prog 12 #[.pointer (some ⟨g,0,none⟩),.int .i64 i] W fun e w'=>e = .returned (.bool (s.can i))∧Tw w w' Z g xp ks s:=by
 obtain⟨bs,vc,ve,hs⟩:=h.srv
 have hmi:s.conns[i]? = some s.conns[i]:=List.getElem?_eq_getElem hi
 generalize s.conns[i]=m at hmi
 have hib:i<bs.length:=by rw[hs.len];exact hi
 have hbi:bs[i]? = some bs[i]:=List.getElem?_eq_getElem hib
 generalize bs[i]=b at hbi
 obtain⟨x,hx⟩:=hs.each i b m hbi hmi
 unfold M.mayPick at hm
 rw[hmi] at hm
 simp only[Bool.and_eq_true] at hm
 exact(can_any W Z g xp i k0 bs s vc ve b m x hs hbi hmi hx (may_conn hm.2) (by decide) (by decide)).mono fun _ _ ⟨h1,h2⟩=>⟨h1,h.fr0 h2⟩
theorem tw_answered (h:Tw w W Z g xp ks s)(had:Nat)(i:Int)(hev:s.events.length≤100000)(hh:had≤s.events.length) :
  Calls Tryz.prog 15 #[.pointer (some ⟨g,0,none⟩),.int .i64 had,.int .i64 i] W fun e w'=>e = .returned (.bool (M.answered s had i))∧Tw w w' Z g xp ks s∧Fr [] W w' :=
 (answered_any W Z g xp had i k0 s h.srv hev hh).mono fun _ _ ⟨h1,h2⟩=>⟨h1,h.fr0 h2,h2⟩
theorem tw_events (h:Tw w W Z g xp ks s)(hev:s.events.length≤100000) :
  Calls Tryz.prog 13 #[.pointer (some ⟨g,0,none⟩)] W fun e w'=>∃ a c L,e = .returned (.slice a L.length c)∧L.map Ev.Raw.ev=s.events∧Own w' W.heap.size 56 23 (.slice a L.length c) L.length (flat Ev.Raw.cells L)∧(∀ r,r∈L→r.At w' W.heap.size)∧Tw w w' Z g xp ks s :=
 (events_any W Z g xp k0 s h.srv hev).mono fun e w' ⟨v,h1,h2,h3⟩=>by
  obtain⟨L,h4,h5,h6⟩:=h2.at_
  obtain⟨a,c,rfl⟩:=Own.form h5
  exact⟨a,c,L,h1,h4,h5,h6,h.fr0 h3⟩
end
def inR (l:Nat)(waits asks ticks write:Int):Prop:=(l:Int)≤200∧1≤waits∧waits≤5∧0≤asks∧asks≤4∧1≤ticks∧ticks≤40∧0≤write∧write≤4
theorem waits_out (w:World)(a:Option Addr)(l c:Nat)(waits asks ticks write:Int)(h:¬ inR l waits asks ticks write) :
  Calls Tryz.prog 3 #[.slice a l c,.int .i64 waits,.int .i64 asks,.int .i64 ticks,.int .i64 write] w fun e w'=>e = .returned (.bool true)∧Fr [] w w':=by
 go_enter Tryz.func3,Tryz.ntmps3
 go_wp2_with fail
 refine(first_any _).mono ?_
 rintro e w1 ⟨rfl,f1⟩
 have F1:=hid f1
 have H:=hid h
 clear f1 h
 go_upto_region 3 with fail
 by_cases c1:(200:Int)<l
 ·go_wp2_with fail
  refine(first_any _).mono ?_
  rintro e w2 ⟨rfl,f2⟩
  go_wp2_with fail
  go_ret
  exact⟨rfl,F1.out.trans f2⟩
 by_cases c2:waits<1
 ·go_wp2_with fail
  refine(first_any _).mono ?_
  rintro e w2 ⟨rfl,f2⟩
  go_wp2_with fail
  go_ret
  exact⟨rfl,F1.out.trans f2⟩
 by_cases c3:5<waits
 ·go_wp2_with fail
  refine(first_any _).mono ?_
  rintro e w2 ⟨rfl,f2⟩
  go_wp2_with fail
  go_ret
  exact⟨rfl,F1.out.trans f2⟩
 by_cases c4:asks<0
 ·go_wp2_with fail
  refine(first_any _).mono ?_
  rintro e w2 ⟨rfl,f2⟩
  go_wp2_with fail
  go_ret
  exact⟨rfl,F1.out.trans f2⟩
 by_cases c5:4<asks
 ·go_wp2_with fail
  refine(first_any _).mono ?_
  rintro e w2 ⟨rfl,f2⟩
  go_wp2_with fail
  go_ret
  exact⟨rfl,F1.out.trans f2⟩
 by_cases c6:ticks<1
 ·go_wp2_with fail
  refine(first_any _).mono ?_
  rintro e w2 ⟨rfl,f2⟩
  go_wp2_with fail
  go_ret
  exact⟨rfl,F1.out.trans f2⟩
 by_cases c7:40<ticks
 ·go_wp2_with fail
  refine(first_any _).mono ?_
  rintro e w2 ⟨rfl,f2⟩
  go_wp2_with fail
  go_ret
  exact⟨rfl,F1.out.trans f2⟩
 by_cases c8:write<0
 ·go_wp2_with fail
  refine(first_any _).mono ?_
  rintro e w2 ⟨rfl,f2⟩
  go_wp2_with fail
  go_ret
  exact⟨rfl,F1.out.trans f2⟩
 by_cases c9:4<write
 ·go_wp2_with fail
  refine(first_any _).mono ?_
  rintro e w2 ⟨rfl,f2⟩
  go_wp2_with fail
  go_ret
  exact⟨rfl,F1.out.trans f2⟩
 exact absurd (show inR l waits asks ticks write from ⟨by omega,by omega,by omega,by omega,by omega,by omega,by omega,by omega,by omega⟩) H.out
end Go.Proofs.YtjmkkcckfbnmeaaGreatDoor.Tp
