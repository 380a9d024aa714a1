/- Texts SessA, DecD. -/
import Derived.Test.YtjmkkcckfbnmeaaGreatDoorM25
import Derived.Test.YtjmkkcckfbnmeaaGreatDoorM34
set_option maxRecDepth 100000
set_option maxHeartbeats 8000000
set_option linter.all false
open Go.Lib (hid)
namespace Go.Proofs.YtjmkkcckfbnmeaaGreatDoor.Se
open Go.RowKit Fm Pk
theorem reqB_len {q:M.Req}(h:M.reqOk q=true):(En.reqB q).length≤600:=by
 obtain⟨hs,ho⟩:=Rq.sh_of h
 have ha:=Rq.size_ann
 have hh:=Rq.size_home
 have hops:=Rq.ops_size ho
 have hann : (txt (M.bs "ann")).length = (M.bs "ann").size + 1 := by simp[txt]
 have hhom:(txt M.home).length=M.home.size+1:=by simp[txt]
 have ht:∀ s:ByteArray,(txt s).length=s.size+1:=fun s=>by simp[txt]
 unfold En.reqB
 generalize q.kind=k at *
 generalize q.tenant=a at *
 generalize q.col=b at *
 generalize q.uid=c at *
 generalize q.card=d at *
 generalize q.ck=e at *
 generalize q.cv=f at *
 generalize hol:q.ops.length=g at *
 generalize q.token=i at *
 generalize q.most=j at *
 generalize q.ticks=l at *
 cases hs with
 | hello=>simp only[if_true,ht];omega
 | create=>simp[ht];omega
 | drop=>simp[ht];omega
 | put _ _ _ _ hu hc hk hv=>have h1:=Rq.low_size hu;have h2:=Rq.card3_size hc;simp[ht,En.condB];omega
 | del _ _ _ hu hk hv=>have h1:=Rq.low_size hu;simp[ht,En.condB];omega
 | get _ hu=>have h1:=Rq.low_size hu;simp[ht];omega
 | batch _ h1 h2 =>
  simp only[Int.reduceEq,or_self,if_false,if_true,List.length_append,List.length_cons,ht]
  omega
 | delta _ _ h1 h2 h3 h4=>simp[ht];omega
 | wait _ _ h1 h2 h3 h4=>simp[ht];omega
 | list=>simp
theorem reqF_len {q:M.Req}(h:M.reqOk q=true):(En.reqF q).length≤606:=by
 have:=reqB_len h
 unfold En.reqF
 rw[En.putL_length,En.bytesOf_size]
 omega
theorem todo_len {l:List M.Req}(h:∀ q,q∈l→M.reqOk q=true):(l.flatMap En.reqF).length≤606*l.length:=by
 induction l with
 | nil=>simp
 | cons q l ih =>
  have h1:=reqF_len (h q (by simp))
  have h2:=ih fun x hx=>h x (by simp[hx])
  simp only[List.flatMap_cons,List.length_append,List.length_cons]
  omega
theorem conv_bytes (W:World)(s:ByteArray)(cap:Nat)(m:Nat × Nat):BytesAt (W.alloc (.cells (bytesRow s cap) 5 m)) (W.heap.size+1) (some ⟨W.heap.size,0,none⟩) s.data.toList:=fun _=>⟨W.heap.size,0,rfl,by omega,fun k u hu=>by
 have hh:(W.alloc (.cells (bytesRow s cap) 5 m)).heap[W.heap.size]? = some (.cells (bytesRow s cap) 5 m):=heap_alloc_new W _
 have hk:=(List.getElem?_eq_some_iff.1 hu).1
 have hs:k<s.data.size:=by simpa using hk
 have e:s.data[k]=u:=by have:=(List.getElem?_eq_some_iff.1 hu).2;simpa using this
 rw[Nat.zero_add]
 simp only[World.cell?,hh]
 rw[bytesRow_at s cap k hs,e]
 rfl⟩
theorem ret_look (W:World)(tmps:Array Value)(g:Nat)(a k s n e:Value)(hp:Holds W g 136 #[k,s])(h2:tmps[2]?.getD undef=a)(h3:tmps[3]?.getD undef = .pointer (some ⟨g,0,none⟩))(h4:tmps[4]?.getD undef=n)(h5:tmps[5]?.getD undef=e) :
  (results Tryz.f59 tmps).run Tryz.prog W = .ok (.tuple #[a,.agg #[k,s],n,e]) W:=by
 have hr:Tryz.f59.results=#[.tmp 2,.cell 3 136,.tmp 4,.tmp 5]:=rfl
 have q0:=hp.cell 0
 have q1:=hp.cell 1
 simp at q0 q1
 simp[results,h2,h3,h4,h5,go_sem,q0,q1]
abbrev SeAt (w:World)(se pi:Nat)(t:ByteArray)(seq:Int):Prop:=Holds w se 127 #[.pointer (some ⟨pi,0,none⟩),.string t,.int .i64 seq,.bool false]
theorem look_no (w:World)(se pi:Nat)(t s:ByteArray)(seq room:Int)(h:SeAt w se pi t seq)(hp:Pi.PipeAt w pi room s false)(hl:s.size≤100000)(hn:nextL s.data.toList=(0,ByteArray.empty,0,14)) :
  Calls Tryz.prog 59 #[.pointer (some ⟨se,0,none⟩)] w fun e w'=>e = .returned (.tuple #[.int .i64 0,.agg #[.int .i64 0,.string ⟨#[]⟩],.int .i64 0,.int .i64 0])∧Fr [] w w':=by
 have c0:=h.cell 0
 have c3:=h.cell 3
 simp at c0 c3
 have f0:Fr [] w (w.alloc (.cells #[.int .i64 0,.string ⟨#[]⟩] 136)):=(Fr.refl _ _).alloc _
 have HL:=hid (Pi.look_any _ pi room s false (Holds.fr hp f0 (by simp)))
 have HP:=hid hp
 have kc:=fun (W:World)=>run_bytes_of_string (P:=Tryz.prog) W 9 90 5 s Tryz.underlying9 Tryz.underlying90 Tryz.underlying5
 have hsl:=h.lt
 have hpl:=Holds.lt hp
 have HN:=hid hn
 have HS:=hid h
 clear h hp f0 hn
 go_enter Tryz.func59,Tryz.ntmps59
 go_wp2_with fail
 refine HL.out.mono ?_
 rintro e w1 ⟨rfl,rfl⟩
 go_wp2_with fail
 generalize hcap:grownCap (w.alloc (.cells #[.int .i64 0,.string ⟨#[]⟩] 136)) s.size 0 5=cap
 have hge:s.size≤cap:=by rw[←hcap];exact grownCap_ge _ _ _ _
 obtain⟨W1,hW1⟩:∃ W1,W1=((w.alloc (.cells #[.int .i64 0,.string ⟨#[]⟩] 136)).alloc (.cells (bytesRow s cap) 5 ((bytesRow s cap).size,(bytesRow s cap).size+1))).drew:=⟨_,rfl⟩
 have hby:BytesAt W1 W1.heap.size (some ⟨w.heap.size+1,0,none⟩) s.data.toList:=by
  have h0:=(conv_bytes (w.alloc (.cells #[.int .i64 0,.string ⟨#[]⟩] 136)) s cap ((bytesRow s cap).size,(bytesRow s cap).size+1)).fr ((Fr.refl [] _).drew) (by simp) (by simp)
  rw[←hW1] at h0
  have hsz:W1.heap.size=w.heap.size+1+1:=by
   rw[hW1]
   show (World.alloc _ _).heap.size=_
   simp
  rw[hsz]
  simpa using h0
 have hnx:=next_any W1 _ cap s.data.toList hby (by simpa using hl) (by simpa using hge)
 rw[HN.out] at hnx
 simp only[tup4] at hnx
 have f1:Fr [] w W1:=by rw[hW1];exact(((Fr.refl _ _).alloc _).alloc _).drew
 have b1:Holds W1 w.heap.size 136 #[.int .i64 0,.string ⟨#[]⟩]:=by rw[hW1];exact((Holds.new w _ _).alloc _).drew
 rw[←hW1]
 have HNX:=hid hnx
 clear hnx hW1 hby hcap hge c0 c3
 refine HNX.out.mono ?_
 rintro e w2 ⟨rfl,f2⟩
 have F2:=hid (f1.trans f2)
 have b2:=b1.fr f2 (by simp)
 have q0:=b2.cell 0
 have q1:=b2.cell 1
 have z0:=b2.frozen 0
 have z1:=b2.frozen 1
 have bl:=b2.lt
 simp at q0 q1
 have hs2:=HS.out.fr F2.out (by simp)
 have c0:=hs2.cell 0
 simp at c0
 have B2:=hid b2
 have HP2:=hid (Holds.fr HP.out F2.out (by simp))
 clear f1 f2 b1 b2 hs2
 have x2:Fr [] w ((w2.setCell ⟨w.heap.size,0,none⟩ (.int .i64 0)).setCell ⟨w.heap.size,1,none⟩ (.string ByteArray.empty)):=Ev.Fr.setNew (p:=⟨w.heap.size,1,none⟩) (Ev.Fr.setNew (p:=⟨w.heap.size,0,none⟩) F2.out (Nat.le_refl _) _) (Nat.le_refl _) _
 have HCl:=hid (Pi.closed_any _ pi room s false (Holds.fr HP.out x2 (by simp)))
 have X2:=hid x2
 clear x2
 go_wp2_with fail
 refine HCl.out.mono ?_
 rintro e w3 ⟨rfl,rfl⟩
 go_wp2_with fail
 have B4:=((((B2.out.set 0 (.int .i64 0)).set 1 (.string ByteArray.empty)).set 0 (.int .i64 0)).set 1 (.string ⟨#[]⟩))
 simp at B4
 exact bodyPost_ret (ret_look _ _ w.heap.size _ _ _ _ _ B4 rfl rfl rfl rfl) rfl ⟨rfl,Ev.Fr.setNew (p:=⟨w.heap.size,1,none⟩) (Ev.Fr.setNew (p:=⟨w.heap.size,0,none⟩) X2.out (Nat.le_refl _) _) (Nat.le_refl _) _⟩
theorem look_yes (w:World)(se pi:Nat)(t s b:ByteArray)(k n seq room:Int)(h:SeAt w se pi t seq)(hp:Pi.PipeAt w pi room s false)(hl:s.size≤100000)(hn:nextL s.data.toList=(k,b,n,0)) :
  Calls Tryz.prog 59 #[.pointer (some ⟨se,0,none⟩)] w fun e w'=>e = .returned (.tuple #[.int .i64 1,.agg #[.int .i64 k,.string b],.int .i64 n,.int .i64 0])∧Fr [] w w':=by
 have c0:=h.cell 0
 have c3:=h.cell 3
 simp at c0 c3
 have f0:Fr [] w (w.alloc (.cells #[.int .i64 0,.string ⟨#[]⟩] 136)):=(Fr.refl _ _).alloc _
 have HL:=hid (Pi.look_any _ pi room s false (Holds.fr hp f0 (by simp)))
 have HP:=hid hp
 have kc:=fun (W:World)=>run_bytes_of_string (P:=Tryz.prog) W 9 90 5 s Tryz.underlying9 Tryz.underlying90 Tryz.underlying5
 have hsl:=h.lt
 have hpl:=Holds.lt hp
 have HN:=hid hn
 have HS:=hid h
 clear h hp f0 hn
 go_enter Tryz.func59,Tryz.ntmps59
 go_wp2_with fail
 refine HL.out.mono ?_
 rintro e w1 ⟨rfl,rfl⟩
 go_wp2_with fail
 generalize hcap:grownCap (w.alloc (.cells #[.int .i64 0,.string ⟨#[]⟩] 136)) s.size 0 5=cap
 have hge:s.size≤cap:=by rw[←hcap];exact grownCap_ge _ _ _ _
 obtain⟨W1,hW1⟩:∃ W1,W1=((w.alloc (.cells #[.int .i64 0,.string ⟨#[]⟩] 136)).alloc (.cells (bytesRow s cap) 5 ((bytesRow s cap).size,(bytesRow s cap).size+1))).drew:=⟨_,rfl⟩
 have hby:BytesAt W1 W1.heap.size (some ⟨w.heap.size+1,0,none⟩) s.data.toList:=by
  have h0:=(conv_bytes (w.alloc (.cells #[.int .i64 0,.string ⟨#[]⟩] 136)) s cap ((bytesRow s cap).size,(bytesRow s cap).size+1)).fr ((Fr.refl [] _).drew) (by simp) (by simp)
  rw[←hW1] at h0
  have hsz:W1.heap.size=w.heap.size+1+1:=by
   rw[hW1]
   show (World.alloc _ _).heap.size=_
   simp
  rw[hsz]
  simpa using h0
 have hnx:=next_any W1 _ cap s.data.toList hby (by simpa using hl) (by simpa using hge)
 rw[HN.out] at hnx
 simp only[tup4] at hnx
 have f1:Fr [] w W1:=by rw[hW1];exact(((Fr.refl _ _).alloc _).alloc _).drew
 have b1:Holds W1 w.heap.size 136 #[.int .i64 0,.string ⟨#[]⟩]:=by rw[hW1];exact((Holds.new w _ _).alloc _).drew
 rw[←hW1]
 have HNX:=hid hnx
 clear hnx hW1 hby hcap hge c0 c3
 refine HNX.out.mono ?_
 rintro e w2 ⟨rfl,f2⟩
 have F2:=hid (f1.trans f2)
 have b2:=b1.fr f2 (by simp)
 have q0:=b2.cell 0
 have q1:=b2.cell 1
 have z0:=b2.frozen 0
 have z1:=b2.frozen 1
 have bl:=b2.lt
 simp at q0 q1
 have hs2:=HS.out.fr F2.out (by simp)
 have c0:=hs2.cell 0
 simp at c0
 have B2:=hid b2
 have HP2:=hid (Holds.fr HP.out F2.out (by simp))
 clear f1 f2 b1 b2 hs2
 have x2:Fr [] w ((w2.setCell ⟨w.heap.size,0,none⟩ (.int .i64 k)).setCell ⟨w.heap.size,1,none⟩ (.string b)):=Ev.Fr.setNew (p:=⟨w.heap.size,1,none⟩) (Ev.Fr.setNew (p:=⟨w.heap.size,0,none⟩) F2.out (Nat.le_refl _) _) (Nat.le_refl _) _
 have b3:Holds ((w2.setCell ⟨w.heap.size,0,none⟩ (.int .i64 k)).setCell ⟨w.heap.size,1,none⟩ (.string b)) w.heap.size 136 #[.int .i64 k,.string b]:=by simpa using ((B2.out.set 0 (.int .i64 k)).set 1 (.string b))
 go_wp2_with fail
 generalize (w2.setCell ⟨w.heap.size,0,none⟩ (.int .i64 k)).setCell ⟨w.heap.size,1,none⟩ (.string b)=W3 at *
 have e0:=b3.cell 0
 have e1:=b3.cell 1
 have y0:=b3.frozen 0
 have y1:=b3.frozen 1
 have l3:=b3.lt
 simp at e0 e1
 have B3:=hid b3
 have X3:=hid x2
 clear b3 x2
 go_region
 go_wp2_with fail
 have B4:=hid (((B3.out.set 0 (.int .i64 k)).set 1 (.string b)).drew)
 simp at B4
 exact bodyPost_ret (ret_look _ _ w.heap.size _ _ _ _ _ B4.out rfl rfl rfl rfl) rfl ⟨rfl,(Ev.Fr.setNew (p:=⟨w.heap.size,1,none⟩) (Ev.Fr.setNew (p:=⟨w.heap.size,0,none⟩) X3.out (Nat.le_refl _) _) (Nat.le_refl _) _).drew⟩
theorem next_todo {q:M.Req}{l:List M.Req}(h:M.reqOk q=true):nextL (En.bytesOf ((q::l).flatMap En.reqF)).data.toList=(q.kind,En.bytesOf (En.reqB q),((En.bytesOf (En.reqB q)).size:Int)+6,0):=by
 have hk:=Rq.sh_kind (Rq.sh_of h).1
 have hb:=reqB_len h
 rw[En.bytesOf_list]
 simp only[List.flatMap_cons]
 exact En.back q.kind (En.bytesOf (En.reqB q)) _ (by omega) (by omega) (by rw[En.bytesOf_size];omega)
theorem ready_any (w:World)(se pi:Nat)(t:ByteArray)(seq room:Int)(l:List M.Req)(h:SeAt w se pi t seq)(hp:Pi.PipeAt w pi room (En.bytesOf (l.flatMap En.reqF)) false)(hq:∀ q,q∈l→M.reqOk q=true)(hl:l.length≤100) :
  Calls Tryz.prog 28 #[.pointer (some ⟨se,0,none⟩)] w fun e w'=>e = .returned (.bool (!l.isEmpty))∧Fr [] w w':=by
 have hsz:(En.bytesOf (l.flatMap En.reqF)).size≤100000:=by
  have:=todo_len hq
  rw[En.bytesOf_size]
  omega
 cases l with
 | nil =>
  have HL:=hid (look_no w se pi t _ seq room h hp hsz rfl)
  clear h hp hq hl hsz
  go_enter Tryz.func28,Tryz.ntmps28
  go_wp2_with fail
  refine HL.out.mono ?_
  rintro e w1 ⟨rfl,f1⟩
  go_wp2_with fail
  go_ret
  exact⟨rfl,f1.alloc _⟩
 | cons q l =>
  have HL:=hid (look_yes w se pi t _ _ _ _ seq room h hp hsz (next_todo (hq q (by simp))))
  clear h hp hq hl hsz
  go_enter Tryz.func28,Tryz.ntmps28
  go_wp2_with fail
  refine HL.out.mono ?_
  rintro e w1 ⟨rfl,f1⟩
  go_wp2_with fail
  go_ret
  exact⟨rfl,f1.alloc _⟩
theorem tenant_any (w:World)(se pi:Nat)(t:ByteArray)(seq:Int)(h:SeAt w se pi t seq):Calls Tryz.prog 65 #[.pointer (some ⟨se,0,none⟩)] w fun e w'=>e = .returned (.string t)∧w=w':=by
 have c1:=h.cell 1
 simp at c1
 clear h
 go_enter Tryz.func65,Tryz.ntmps65
 go_wp2_with fail
 go_ret
 exact⟨rfl,rfl⟩
theorem feed_any (w:World)(se pi:Nat)(t a b:ByteArray)(seq room:Int)(h:SeAt w se pi t seq)(hp:Pi.PipeAt w pi room a false)(h0:0≤room)(h1:room≤100000)(hs:((a++b).size:Int)≤room) :
  Calls Tryz.prog 25 #[.pointer (some ⟨se,0,none⟩),.string b] w fun e w'=>e = .returned (.bool true)∧Pi.PipeAt w' pi room (a++b) false∧Fr [pi] w w':=by
 have c0:=h.cell 0
 simp at c0
 have hsz:(a++b).size=a.size+b.size:=by simp[ByteArray.size_append]
 have HP:=hid (Pi.put_yes w pi room a false b hp h0 (by omega) (by omega) (by simp[Pi.fits];omega))
 clear h hp hsz hs
 go_enter Tryz.func25,Tryz.ntmps25
 go_wp2_with fail
 refine HP.out.mono ?_
 rintro e w1 ⟨rfl,p1,f1⟩
 go_wp2_with fail
 go_ret
 exact⟨rfl,p1,f1⟩
theorem new_any (w:World)(room:Int)(h0:0≤room):Calls Tryz.prog 22 #[.int .i64 room] w fun e w'=>∃ se pi,e = .returned (.pointer (some ⟨se,0,none⟩))∧w.heap.size≤se∧w.heap.size≤pi∧pi<se∧SeAt w' se pi ⟨#[]⟩ 0∧Pi.PipeAt w' pi room ⟨#[]⟩ false∧Fr [] w w':=by
 have HP:=hid (Pi.new_any room w)
 rw[Int.max_eq_left h0] at HP
 go_enter Tryz.func22,Tryz.ntmps22
 go_wp2_with fail
 refine HP.out.mono ?_
 rintro e w1 ⟨pi,rfl,hpi,hp,f1⟩
 have HPI:=hid hp
 clear hp
 go_wp2_with fail
 go_ret
 exact⟨_,pi,rfl,f1.size,hpi,Holds.lt HPI.out,Holds.new _ _ _,Holds.alloc HPI.out _,f1.alloc _⟩
end Go.Proofs.YtjmkkcckfbnmeaaGreatDoor.Se
namespace Go.Proofs.YtjmkkcckfbnmeaaGreatDoor.Rq
open Go.RowKit Fm Pk
theorem decode_any (w:World)(B:Nat)(v:Value)(q:M.Req)(hq:M.reqOk q=true)(hb:BIn w v (En.reqB q))(hB:B≤w.heap.size) :
  Calls Tryz.prog 102 #[.int .i64 q.kind,v] w fun e w'=>∃ vo,e = .returned (.tuple #[.agg (Ev.rqc q vo).toArray,.int .i64 0])∧Ev.OpsAt w' B vo q.ops∧Fr [] w w':=by
 unfold M.reqOk at hq
 split at hq
 ·have e:=of_decide_eq_true hq
  subst e
  exact dec1 w B v (by simpa[En.reqB] using hb) hB
 split at hq
 ·have e:=of_decide_eq_true hq
  subst e
  exact dec2 w B v (by simpa[En.reqB] using hb) hB
 split at hq
 ·have e:=of_decide_eq_true hq
  subst e
  exact dec3 w B v (by simpa[En.reqB] using hb) hB
 split at hq
 ·simp only[Bool.and_eq_true,decide_eq_true_eq] at hq
  obtain⟨e,ho⟩:=hq
  have o:=op_ok ho
  have o1:=o.uid
  have o2:=o.card
  have o3:=o.cond
  have o4:=o.cv
  simp only[Bool.false_eq_true,if_false] at o1 o2 o3 o4
  clear o ho
  generalize q.uid=a1 at *
  generalize q.card=a2 at *
  generalize q.ck=a3 at *
  generalize q.cv=a4 at *
  subst e
  exact dec4 w B v a1 a2 a3 a4 o1 o2 o3 o4 (by simpa[En.reqB,En.condB] using hb) hB
 split at hq
 ·simp only[Bool.and_eq_true,decide_eq_true_eq] at hq
  obtain⟨e,ho⟩:=hq
  have o:=op_ok ho
  have o1:=o.uid
  have o3:=o.cond
  have o4:=o.cv
  simp only[] at o1 o3 o4
  clear o ho
  generalize q.uid=a1 at *
  generalize q.ck=a3 at *
  generalize q.cv=a4 at *
  subst e
  exact dec5 w B v a1 a3 a4 o1 o3 o4 (by simpa[En.reqB,En.condB] using hb) hB
 split at hq
 ·simp only[Bool.and_eq_true,decide_eq_true_eq] at hq
  obtain⟨e,hu⟩:=hq
  generalize q.uid=a1 at *
  subst e
  exact dec6 w B v a1 hu (by simpa[En.reqB] using hb) hB
 split at hq
 ·simp only[Bool.and_eq_true,decide_eq_true_eq,List.all_eq_true] at hq
  obtain⟨⟨e,h1,h2⟩,ho⟩:=hq
  have ho':∀ o,o∈q.ops→OpOk o:=fun o hm=>op_ok (ho o hm)
  clear ho
  generalize q.ops=a1 at *
  subst e
  exact dec7 w B v a1 h1 h2 ho' (by simpa[En.reqB] using hb) hB
 split at hq
 ·simp only[Bool.and_eq_true,decide_eq_true_eq] at hq
  obtain⟨e,h1,h2,h3,h4⟩:=hq
  generalize q.token=a1 at *
  generalize q.most=a2 at *
  subst e
  exact dec8 w B v a1 a2 h1 h2 h3 h4 (by simpa[En.reqB] using hb) hB
 split at hq
 ·simp only[Bool.and_eq_true,decide_eq_true_eq] at hq
  obtain⟨e,h1,h2,h3,h4⟩:=hq
  generalize q.token=a1 at *
  generalize q.ticks=a2 at *
  subst e
  exact dec9 w B v a1 a2 h1 h2 h3 h4 (by simpa[En.reqB] using hb) hB
 ·have e:=of_decide_eq_true hq
  subst e
  exact dec10 w B v (by simpa[En.reqB] using hb) hB
end Go.Proofs.YtjmkkcckfbnmeaaGreatDoor.Rq
