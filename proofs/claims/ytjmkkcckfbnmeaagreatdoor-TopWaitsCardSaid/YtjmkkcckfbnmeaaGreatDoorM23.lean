/- Texts FldB, FldC. -/
import Derived.Test.YtjmkkcckfbnmeaaGreatDoorM19
import Derived.Test.YtjmkkcckfbnmeaaGreatDoorM20
set_option maxRecDepth 100000
set_option maxHeartbeats 8000000
set_option linter.all false
open Go.Lib (hid)
namespace Go.Proofs.YtjmkkcckfbnmeaaGreatDoor.Fd
open Go.RowKit Fm Ct
theorem ret_canon (W:World)(tmps:Array Value)(g:Nat)(v:ByteArray)(vb:Value)(hp:Holds W g 273 (fc v).toArray)(h2:tmps[2]?.getD undef = .pointer (some ⟨g,0,none⟩))(h3:tmps[3]?.getD undef=vb) :
  (results Tryz.f326 tmps).run Tryz.prog W = .ok (.tuple #[.agg (fc v).toArray,vb]) W:=by
 have hr:Tryz.f326.results=#[.cell 2 273,.tmp 3]:=rfl
 have q0:=hp.cell 0
 have q1:=hp.cell 1
 have q2:=hp.cell 2
 simp at q0 q1 q2
 simp[results,h2,h3,go_sem,q0,q1,q2]
theorem ret_parse (W:World)(tmps:Array Value)(g:Nat)(v:ByteArray)(vb:Value)(hp:Holds W g 273 (fc v).toArray)(h2:tmps[2]?.getD undef = .pointer (some ⟨g,0,none⟩))(h3:tmps[3]?.getD undef=vb) :
  (results Tryz.f257 tmps).run Tryz.prog W = .ok (.tuple #[.agg (fc v).toArray,vb]) W:=by
 have hr:Tryz.f257.results=#[.cell 2 273,.tmp 3]:=rfl
 have q0:=hp.cell 0
 have q1:=hp.cell 1
 have q2:=hp.cell 2
 simp at q0 q1 q2
 simp[results,h2,h3,go_sem,q0,q1,q2]
def put3 (w:World)(g:Nat)(v:ByteArray):World:=((w.setCell ⟨g,0,none⟩ (.int .i64 1)).setCell ⟨g,1,none⟩ (.int .i64 0)).setCell ⟨g,2,none⟩ (.string v)
theorem put3_holds {w:World}{g:Nat}{a b c:Value}(v:ByteArray)(h:Holds w g 273 #[a,b,c]):Holds (put3 w g v) g 273 (fc v).toArray:=by
 simpa[put3] using ((h.set 0 (.int .i64 1)).set 1 (.int .i64 0)).set 2 (.string v)
theorem setNew {w w':World}{S:List Nat}(h:Fr S w w'){p:Addr}(hp:w.heap.size≤p.block)(u:Value):Fr S w (w'.setCell p u):=Ev.Fr.setNew h hp u
theorem put3_fr {w0 w:World}{g:Nat}{v:ByteArray}{S:List Nat}(h:Fr S w0 w)(hg:w0.heap.size≤g):Fr S w0 (put3 w g v):=setNew (setNew (setNew h hg _) hg _) hg _
theorem canon_any (v:ByteArray)(w:World)(h:Plain v) :
  Calls Tryz.prog 326 #[.agg (fc v).toArray] w fun e w'=>e = .returned (.tuple #[.agg (fc v).toArray,.int .i64 0])∧Fr [] w w':=by
 obtain⟨W,hW⟩:∃ W,W=(w.alloc (.cells (fc v).toArray 273)).alloc (.cells #[.int .i64 0,.int .i64 0,.string ⟨#[]⟩] 273):=⟨_,rfl⟩
 have f0:Fr [] w W:=by rw[hW];exact((Fr.refl _ _).alloc _).alloc _
 have b1:Holds W w.heap.size 273 (fc v).toArray:=by rw[hW];exact(Holds.new _ _ _).alloc _
 have b2:Holds W (w.heap.size+1) 273 #[.int .i64 0,.int .i64 0,.string ⟨#[]⟩]:=by rw[hW];exact at_new (by simp)
 have q0:=b1.cell 0
 have q1:=b1.cell 1
 have q2:=b1.cell 2
 simp at q0 q1 q2
 go_enter Tryz.func326,Tryz.ntmps326
 go_wp2_with (fail)
 rw[←hW]
 clear hW
 refine(label_plain W).mono ?_
 rintro e w' ⟨rfl,rfl⟩
 go_wp2_with (fail)
 refine(kind_name W).mono ?_
 rintro e w' ⟨rfl,rfl⟩
 have hk : (ByteArray.toList (M.bs "name")).isEmpty = false := by decide +kernel
 go_wp2_with (fail)
 refine(clean_any v W h).mono ?_
 rintro e w2 ⟨rfl,f2⟩
 have c1:=b1.fr f2 (by simp)
 have c2:=b2.fr f2 (by simp)
 clear q0 q1 q2
 have q0:=c1.cell 0
 have q1:=c1.cell 1
 have q2:=c1.cell 2
 have z2:=c1.frozen 2
 have d0:=c2.cell 0
 have d1:=c2.cell 1
 have d2:=c2.cell 2
 have y0:=c2.frozen 0
 have y1:=c2.frozen 1
 have y2:=c2.frozen 2
 have l1:=c1.lt
 have l2:=c2.lt
 simp at q0 q1 q2 d0 d1 d2
 go_wp2_with (fail)
 have c2':Holds (w2.setCell ⟨w.heap.size,2,none⟩ (.string v)) (w.heap.size+1) 273 #[.int .i64 0,.int .i64 0,.string ⟨#[]⟩]:=c2.far (by simp) _
 exact bodyPost_ret (ret_canon _ _ (w.heap.size+1) v _ (put3_holds v c2') rfl rfl) rfl ⟨rfl,put3_fr (setNew (f0.trans f2) (Nat.le_refl _) _) (by omega)⟩
theorem may_any (v:ByteArray)(w:World)(h:Plain v) :
  Calls Tryz.prog 325 #[.agg (fc v).toArray] w fun e w'=>e = .returned (.bool true)∧Fr [] w w':=by
 obtain⟨W,hW⟩:∃ W,W=w.alloc (.cells (fc v).toArray 273):=⟨_,rfl⟩
 have f0:Fr [] w W:=by rw[hW];exact(Fr.refl _ _).alloc _
 have b1:Holds W w.heap.size 273 (fc v).toArray:=by rw[hW];exact Holds.new _ _ _
 have HC:=hid (canon_any v W h)
 have q0:=b1.cell 0
 have q1:=b1.cell 1
 have q2:=b1.cell 2
 simp at q0 q1 q2
 go_enter Tryz.func325,Tryz.ntmps325
 go_wp2_with (fail)
 rw[←hW]
 clear hW
 go_wp2_with (fail)
 refine HC.out.mono ?_
 rintro e w2 ⟨rfl,f2⟩
 have c1:=b1.fr f2 (by simp)
 clear q0 q1 q2
 have q0:=c1.cell 0
 have q1:=c1.cell 1
 have q2:=c1.cell 2
 have l1:=c1.lt
 simp at q0 q1 q2
 go_wp2_with (fail)
 go_ret
 exact⟨rfl,(f0.trans f2).trans ((Fr.refl _ _).alloc _)⟩
end Go.Proofs.YtjmkkcckfbnmeaaGreatDoor.Fd
namespace Go.Proofs.YtjmkkcckfbnmeaaGreatDoor.Fd
open Go.RowKit Fm Ct
def nmB : ByteArray := M.bs "name"
def lineOf (v:ByteArray):ByteArray:=nmB++⟨#[58]⟩++v
theorem nmB_size:nmB.size=4:=by decide +kernel
theorem nmB_list:nmB.data.toList=[110,97,109,101]:=by decide +kernel
theorem lineOf_list (v:ByteArray):(lineOf v).data.toList=nmB.data.toList++58::v.data.toList:=by simp[lineOf]
theorem lineOf_size (v:ByteArray):(lineOf v).size=5+v.size:=by
 have:=congrArg List.length (lineOf_list v)
 rw[nmB_list] at this
 simp at this
 omega
theorem line_any (v:ByteArray)(w:World)(h:Plain v) :
  Calls Tryz.prog 297 #[.agg (fc v).toArray] w fun e w'=>e = .returned (.string (lineOf v))∧Fr [] w w':=by
 obtain⟨W,hW⟩:∃ W,W=w.alloc (.cells (fc v).toArray 273):=⟨_,rfl⟩
 have f0:Fr [] w W:=by rw[hW];exact(Fr.refl _ _).alloc _
 have b1:Holds W w.heap.size 273 (fc v).toArray:=by rw[hW];exact Holds.new _ _ _
 have HC:=hid (may_any v W h)
 have hz:=h.s2
 have hn:=nmB_size
 have q0:=b1.cell 0
 have q1:=b1.cell 1
 have q2:=b1.cell 2
 simp at q0 q1 q2
 go_enter Tryz.func297,Tryz.ntmps297
 go_wp2_with (fail)
 rw[←hW]
 clear hW
 go_wp2_with (fail)
 refine HC.out.mono ?_
 rintro e w2 ⟨rfl,f2⟩
 have c1:=b1.fr f2 (by simp)
 clear q0 q1 q2
 have q0:=c1.cell 0
 have q1:=c1.cell 1
 have q2:=c1.cell 2
 simp at q0 q1 q2
 go_wp2_with (fail)
 refine(label_plain w2).mono ?_
 rintro e w3 ⟨rfl,rfl⟩
 have HK:=hid (fun W=>show Calls Tryz.prog 296 #[.int .i64 1] W fun e w'=>e = .returned (.string nmB)∧W=w' from kind_name W)
 obtain⟨N,hN⟩:∃ N,nmB=N:=⟨_,rfl⟩
 have HN:=hid hN
 rw[hN] at HK hn
 clear hN
 go_wp2_with (fail)
 go_quiet ((go_at_call 296;exact quiet_same (HK.out _)))
 go_wp2_with (fail)
 go_ret
 exact⟨ret_str (by rw[←HN.out];exact ba_ext (by simp[lineOf])),(f0.trans f2).drewN _⟩
theorem parse_any (v:ByteArray)(w:World)(h:Plain v) :
  Calls Tryz.prog 257 #[.string (lineOf v)] w fun e w'=>e = .returned (.tuple #[.agg (fc v).toArray,.int .i64 0])∧Fr [] w w':=by
 obtain⟨W,hW⟩:∃ W,W=w.alloc (.cells #[.int .i64 0,.int .i64 0,.string ⟨#[]⟩] 273):=⟨_,rfl⟩
 have f0:Fr [] w W:=by rw[hW];exact(Fr.refl _ _).alloc _
 have b1:Holds W w.heap.size 273 #[.int .i64 0,.int .i64 0,.string ⟨#[]⟩]:=by rw[hW];exact Holds.new _ _ _
 have hls:=lineOf_size v
 have hz:=h.s2
 have HC:=hid (fun W=>cut_any (lineOf v) ⟨#[58]⟩ nmB v W rfl (lineOf_list v) (by rw[nmB_list];decide) (by omega) (by omega))
 have HL:=hid (fun W=>line_any v W h)
 have HK:=hid (fun W=>show Calls Tryz.prog 296 #[.int .i64 1] W fun e w'=>e = .returned (.string nmB)∧W=w' from kind_name W)
 obtain⟨N,hN⟩:∃ N,nmB=N:=⟨_,rfl⟩
 obtain⟨s,hs⟩:∃ s,lineOf v=s:=⟨_,rfl⟩
 have hnn:N++(⟨#[]⟩:ByteArray)=N:=ba_ext (by simp)
 have hn:=nmB_size
 rw[hN] at HK HC hn
 rw[hs] at HC HL hls ⊢
 clear hN hs
 go_enter Tryz.func257,Tryz.ntmps257
 go_wp2_with (fail)
 rw[←hW]
 clear hW
 refine(HC.out W).mono ?_
 rintro e w2 ⟨rfl,f2⟩
 have c1:=b1.fr f2 (by simp)
 go_wp2_with (fail)
 refine wp_loop_rounds 1 ?_
 rw[rounds_succ]
 go_wp2_with (fail)
 refine wp_loop_rounds 1 ?_
 rw[rounds_succ]
 go_wp2_with (fail)
 refine(label_plain w2).mono ?_
 rintro e w3 ⟨rfl,rfl⟩
 go_wp2_with (fail)
 refine(HK.out w2).mono ?_
 rintro e w3 ⟨rfl,rfl⟩
 go_wp2_with (fail)
 refine(HL.out _).mono ?_
 rintro e w3 ⟨rfl,f3⟩
 have b2:=Holds.new w2 273 #[.int .i64 1,.int .i64 0,.string v]
 have c2:=b2.fr f3 (by simp)
 have c3:=c1.fr (((Fr.refl [] w2).alloc _).trans f3) (by simp)
 have d0:=c2.cell 0
 have d1:=c2.cell 1
 have d2:=c2.cell 2
 have e0:=c3.cell 0
 have e1:=c3.cell 1
 have e2:=c3.cell 2
 have y0:=c3.frozen 0
 have y1:=c3.frozen 1
 have y2:=c3.frozen 2
 have l3:=c3.lt
 simp at d0 d1 d2 e0 e1 e2
 go_wp2_with (fail)
 exact bodyPost_ret (ret_parse _ _ w.heap.size v _ (put3_holds v c3) rfl rfl) rfl ⟨rfl,put3_fr ((f0.trans f2).trans (((Fr.refl [] w2).alloc _).trans f3)) (Nat.le_refl _)⟩
end Go.Proofs.YtjmkkcckfbnmeaaGreatDoor.Fd
