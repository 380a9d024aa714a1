/- Walks. -/
import Derived.Test.YtocppjcocnckmaaGreatDoorM10
import Derived.Laws.DeepStrings4
set_option maxRecDepth 100000
set_option maxHeartbeats 8000000
set_option linter.all false
open Go.Lib (hid)
namespace Go.Proofs.YtocppjcocnckmaaGreatDoor
open Go.Proofs.Tryz
namespace Fm
open Go.RowKit
theorem gP (W:World)(tmps:Array Value)(g:Nat)(k n e:Int)(s:ByteArray)(hp:Holds W g 74 #[.int .i64 k,.string s])(h2:tmps[2]?.getD undef = .pointer (some ⟨g,0,none⟩))(h3:tmps[3]?.getD undef = .int .i64 n)(h4:tmps[4]?.getD undef = .int .i64 e) :
  (results f23 tmps).run prog W = .ok (.tuple #[.agg #[.int .i64 k,.string s],.int .i64 n,.int .i64 e]) W:=by
 have q0:=hp.cell 0
 have q1:=hp.cell 1
 have hr:f23.results=#[.cell 2 74,.tmp 3,.tmp 4]:=rfl
 simp at q0 q1
 simp[results,hr,h2,h3,h4,go_sem,q0,q1]
theorem kP (s:ByteArray)(k n:Nat)(h:k+n<s.size):∀ W:World,(Instr.index 9 (.string s) (.int .i64 ((k:Int)+n))).run prog W = .ok (.int .u8 (s[k+n]'h).toNat) W:=λW=>by
 rw[run_index_string W 9 s .i64 _ underlying9,dif_pos (by omega)]
 rfl
theorem iU (w:World)(s:ByteArray)(h3:s.size<3) :
  Calls prog 23 #[.string s] w λe w'=>e = .returned (.tuple #[.agg #[.int .i64 0,.string ByteArray.empty],.int .i64 0,.int .i64 14])/\Fr [] w w':=by
 go_enter func23,ntmps23
 go_wp2_with fail
 refine bodyPost_ret (gP _ _ w.heap.size 0 0 14 ⟨#[]⟩ (Holds.new _ _ _) rfl rfl rfl) rfl ⟨rfl,(Fr.refl [] w).alloc _⟩
theorem tP (w:World)(s:ByteArray)(hlen:s.size<=100000)(h0:0<s.size)(h1:1<s.size)(h2:2<s.size)(n:Nat)(hn:sizeOf3 (s[0]'h0) (s[1]'h1) (s[2]'h2)=n)(hbig:20000<n) :
  Calls prog 23 #[.string s] w λe w'=>e = .returned (.tuple #[.agg #[.int .i64 0,.string ByteArray.empty],.int .i64 0,.int .i64 2])/\Fr [] w w':=by
 have b0:=(s[0]'h0).toNat_lt
 have b1:=(s[1]'h1).toNat_lt
 have b2:=(s[2]'h2).toNat_lt
 have u0:(0:Int)<s.size:=by omega
 have u1:(1:Int)<s.size:=by omega
 have u2:(2:Int)<s.size:=by omega
 have hor:=gY _ _ _ n hn
 clear hn
 go_enter func23,ntmps23
 go_wp2_with fail
 go_quiet (fail)
 go_wp2_with fail
 refine bodyPost_ret (gP _ _ w.heap.size 0 0 2 ⟨#[]⟩ ((((Holds.new _ _ _).drewN _).set 0 _).set 1 _) rfl rfl rfl) rfl ⟨rfl,((((Fr.refl [] w).alloc _).drewN _).aw (Nat.le_refl _) _).aw (Nat.le_refl _) _⟩
theorem re (w:World)(s:ByteArray)(hlen:s.size<=100000)(h0:0<s.size)(h1:1<s.size)(h2:2<s.size)(n:Nat)(hn:sizeOf3 (s[0]'h0) (s[1]'h1) (s[2]'h2)=n)(hsm:n<=20000)(h6:s.size<n+6) :
  Calls prog 23 #[.string s] w λe w'=>e = .returned (.tuple #[.agg #[.int .i64 0,.string ByteArray.empty],.int .i64 0,.int .i64 14])/\Fr [] w w':=by
 have b0:=(s[0]'h0).toNat_lt
 have b1:=(s[1]'h1).toNat_lt
 have b2:=(s[2]'h2).toNat_lt
 have u0:(0:Int)<s.size:=by omega
 have u1:(1:Int)<s.size:=by omega
 have u2:(2:Int)<s.size:=by omega
 have hor:=gY _ _ _ n hn
 clear hn
 go_enter func23,ntmps23
 go_wp2_with fail
 go_quiet (fail)
 go_wp2_with fail
 refine bodyPost_ret (gP _ _ w.heap.size 0 0 14 ⟨#[]⟩ ((((Holds.new _ _ _).drewN _).set 0 _).set 1 _) rfl rfl rfl) rfl ⟨rfl,((((Fr.refl [] w).alloc _).drewN _).aw (Nat.le_refl _) _).aw (Nat.le_refl _) _⟩
theorem Ai (w:World)(s:ByteArray)(hlen:s.size<=100000)(h0:0<s.size)(h1:1<s.size)(h2:2<s.size)(n:Nat)(hn:sizeOf3 (s[0]'h0) (s[1]'h1) (s[2]'h2)=n)(hsm:n<=20000)(h6:n+6<=s.size)(h3:3<s.size)(h4:4+n<s.size)(h5:5+n<s.size)(hsum:(cK ((s[3]'h3).toNat:Int) (List.take n (List.drop 4 s.data.toList)) != ((s[4+n]'h4).toNat:Int)*256+(s[5+n]'h5).toNat)=false) :
  Calls prog 23 #[.string s] w λe w'=>e = .returned (.tuple #[.agg #[.int .i64 (s[3]'h3).toNat,.string (s.extract 4 (4+n))],.int .i64 (n+6),.int .i64 0])/\Fr [] w w':=by
 have b0:=(s[0]'h0).toNat_lt
 have b1:=(s[1]'h1).toNat_lt
 have b2:=(s[2]'h2).toNat_lt
 have u0:(0:Int)<s.size:=by omega
 have u1:(1:Int)<s.size:=by omega
 have u2:(2:Int)<s.size:=by omega
 have hor:=gY _ _ _ n hn
 clear hn
 have b3:=(s[3]'h3).toNat_lt
 have b4:=(s[4+n]'h4).toNat_lt
 have b5:=(s[5+n]'h5).toNat_lt
 have u3:(3:Int)<s.size:=by omega
 have x4:IntKind.i64.wrap (4+(n:Int))=4+n:=by rw[IntKind.wrap_i64];omega
 have i4:∀ W:World,(Instr.index 9 (.string s) (.int .i64 (4+(n:Int)))).run prog W = .ok (.int .u8 (s[4+n]'h4).toNat) W:=kP s 4 n h4
 have x5:IntKind.i64.wrap (5+(n:Int))=5+n:=by rw[IntKind.wrap_i64];omega
 have i5:∀ W:World,(Instr.index 9 (.string s) (.int .i64 (5+(n:Int)))).run prog W = .ok (.int .u8 (s[5+n]'h5).toNat) W:=kP s 5 n h5
 have hms:(s.extract 4 (4+n)).size<=maxLen:=by simp[maxLen];omega
 have hor2:bits .or .i64 (((s[4+n]'h4).toNat:Int)*256) ((s[5+n]'h5).toNat:Int)=((s[4+n]'h4).toNat:Int)*256+(s[5+n]'h5).toNat:=kh 8 _ _ (by omega) (by omega) (by omega) (by omega) (by omega) (by omega)
 go_enter func23,ntmps23
 go_wp2_with fail
 go_quiet (fail)
 go_wp2_with fail
 go_region
 go_wp2_with fail
 generalize hW:(((w.alloc (Obj.cells #[Value.int IntKind.i64 0,Value.string { data:=#[] }] 74)).drewN (nq+1)).alloc (Obj.cells #[Value.int IntKind.i64 (s[3]'h3).toNat,Value.string (s.extract 4 (4+n))] 74))=W
 have hH:Holds W w.heap.size 74 #[.int .i64 0,.string ⟨#[]⟩]:=by rw[<-hW];exact((Holds.new _ _ _).drewN _).alloc _
 have hK:Holds W (w.heap.size+1) 74 #[.int .i64 (s[3]'h3).toNat,.string (s.extract 4 (4+n))]:=by rw[<-hW];simpa using Holds.new ((w.alloc (Obj.cells #[Value.int IntKind.i64 0,Value.string { data:=#[] }] 74)).drewN (nq+1)) 74 #[.int .i64 (s[3]'h3).toNat,.string (s.extract 4 (4+n))]
 have fW:Fr [] w W:=by rw[<-hW];exact(((Fr.refl [] w).alloc _).drewN _).alloc _
 have q0:=hH.cell 0
 have q1:=hH.cell 1
 have z0:=hH.frozen 0
 have z1:=hH.frozen 1
 have y0:=hK.cell 0
 have y1:=hK.cell 1
 simp at q0 q1 y0 y1
 clear hW
 have FW:=hid fW
 clear fW
 go_quiet ((go_at_call 34;exact bB (ns _ _ _ hms)))
 go_wp2_with fail
 refine bodyPost_ret (gP _ _ w.heap.size _ _ _ _ (((hH.drewN _).set 0 _).set 1 _) rfl rfl rfl) rfl ⟨rfl,((FW.drewN _).aw (Nat.le_refl _) _).aw (Nat.le_refl _) _⟩
theorem tR (w:World)(s:ByteArray)(hlen:s.size<=100000)(h0:0<s.size)(h1:1<s.size)(h2:2<s.size)(n:Nat)(hn:sizeOf3 (s[0]'h0) (s[1]'h1) (s[2]'h2)=n)(hsm:n<=20000)(h6:n+6<=s.size)(h3:3<s.size)(h4:4+n<s.size)(h5:5+n<s.size)(hsum:(cK ((s[3]'h3).toNat:Int) (List.take n (List.drop 4 s.data.toList)) != ((s[4+n]'h4).toNat:Int)*256+(s[5+n]'h5).toNat)=true) :
  Calls prog 23 #[.string s] w λe w'=>e = .returned (.tuple #[.agg #[.int .i64 0,.string ByteArray.empty],.int .i64 0,.int .i64 1])/\Fr [] w w':=by
 have b0:=(s[0]'h0).toNat_lt
 have b1:=(s[1]'h1).toNat_lt
 have b2:=(s[2]'h2).toNat_lt
 have u0:(0:Int)<s.size:=by omega
 have u1:(1:Int)<s.size:=by omega
 have u2:(2:Int)<s.size:=by omega
 have hor:=gY _ _ _ n hn
 clear hn
 have b3:=(s[3]'h3).toNat_lt
 have b4:=(s[4+n]'h4).toNat_lt
 have b5:=(s[5+n]'h5).toNat_lt
 have u3:(3:Int)<s.size:=by omega
 have x4:IntKind.i64.wrap (4+(n:Int))=4+n:=by rw[IntKind.wrap_i64];omega
 have i4:∀ W:World,(Instr.index 9 (.string s) (.int .i64 (4+(n:Int)))).run prog W = .ok (.int .u8 (s[4+n]'h4).toNat) W:=kP s 4 n h4
 have x5:IntKind.i64.wrap (5+(n:Int))=5+n:=by rw[IntKind.wrap_i64];omega
 have i5:∀ W:World,(Instr.index 9 (.string s) (.int .i64 (5+(n:Int)))).run prog W = .ok (.int .u8 (s[5+n]'h5).toNat) W:=kP s 5 n h5
 have hms:(s.extract 4 (4+n)).size<=maxLen:=by simp[maxLen];omega
 have hor2:bits .or .i64 (((s[4+n]'h4).toNat:Int)*256) ((s[5+n]'h5).toNat:Int)=((s[4+n]'h4).toNat:Int)*256+(s[5+n]'h5).toNat:=kh 8 _ _ (by omega) (by omega) (by omega) (by omega) (by omega) (by omega)
 go_enter func23,ntmps23
 go_wp2_with fail
 go_quiet (fail)
 go_wp2_with fail
 go_region
 go_wp2_with fail
 generalize hW:(((w.alloc (Obj.cells #[Value.int IntKind.i64 0,Value.string { data:=#[] }] 74)).drewN (nq+1)).alloc (Obj.cells #[Value.int IntKind.i64 (s[3]'h3).toNat,Value.string (s.extract 4 (4+n))] 74))=W
 have hH:Holds W w.heap.size 74 #[.int .i64 0,.string ⟨#[]⟩]:=by rw[<-hW];exact((Holds.new _ _ _).drewN _).alloc _
 have hK:Holds W (w.heap.size+1) 74 #[.int .i64 (s[3]'h3).toNat,.string (s.extract 4 (4+n))]:=by rw[<-hW];simpa using Holds.new ((w.alloc (Obj.cells #[Value.int IntKind.i64 0,Value.string { data:=#[] }] 74)).drewN (nq+1)) 74 #[.int .i64 (s[3]'h3).toNat,.string (s.extract 4 (4+n))]
 have fW:Fr [] w W:=by rw[<-hW];exact(((Fr.refl [] w).alloc _).drewN _).alloc _
 have q0:=hH.cell 0
 have q1:=hH.cell 1
 have z0:=hH.frozen 0
 have z1:=hH.frozen 1
 have y0:=hK.cell 0
 have y1:=hK.cell 1
 simp at q0 q1 y0 y1
 clear hW
 have FW:=hid fW
 clear fW
 go_quiet ((go_at_call 34;exact bB (ns _ _ _ hms)))
 go_wp2_with fail
 refine bodyPost_ret (gP _ _ w.heap.size _ _ _ _ (((hH.drewN _).set 0 _).set 1 _) rfl rfl rfl) rfl ⟨rfl,((FW.drewN _).aw (Nat.le_refl _) _).aw (Nat.le_refl _) _⟩
theorem tQ (w:World)(l:List UInt8)(hlen:l.length<=100000) :
  Calls prog 23 #[.string ⟨l.toArray⟩] w λe w'=>e = .returned (lo (gF l))/\Fr [] w w':=by
 have hsz:(⟨l.toArray⟩:ByteArray).size=l.length:=by simp[ByteArray.size]
 match l,hlen,hsz with
 | [],_,_=>exact iU w _ (by decide)
 | [_],_,hsz=>exact iU w _ (by rw[hsz];simp)
 | [_,_],_,hsz=>exact iU w _ (by rw[hsz];simp)
 | c0::c1::c2::r,hlen,hsz =>
  simp only[List.length_cons] at hlen hsz
  generalize hS:(⟨(c0::c1::c2::r).toArray⟩:ByteArray)=s at hsz
  have e0:s[0]'(by omega)=c0:=by subst hS;rfl
  have e1:s[1]'(by omega)=c1:=by subst hS;rfl
  have e2:s[2]'(by omega)=c2:=by subst hS;rfl
  have hd:s.data.toList=c0::c1::c2::r:=by subst hS;rfl
  have ej:∀ j (h:j+3<s.size),s[j+3]'h=r.getD j 0:=by
   intro j h
   subst hS
   have hj:j<r.length:=by omega
   show r[j]=_
   simp[List.getD,List.getElem?_eq_getElem hj]
  have hz:sizeOf3 (s[0]'(by omega)) (s[1]'(by omega)) (s[2]'(by omega))=sizeOf3 c0 c1 c2:=by rw[e0,e1,e2]
  by_cases h1:20000<sizeOf3 c0 c1 c2
  ·have:=tP w s (by omega) (by omega) (by omega) (by omega) _ hz h1
   simpa only[gF,h1,if_true,lo] using this
  by_cases h2:r.length+3<sizeOf3 c0 c1 c2+6
  ·have:=re w s (by omega) (by omega) (by omega) (by omega) _ hz (by omega) (by omega)
   simpa only[gF,h1,h2,if_false,if_true,lo] using this
  generalize hn:sizeOf3 c0 c1 c2=n at h1 h2 hz
  have x3:s[3]'(by omega)=r.getD 0 0:=ej 0 (by omega)
  have x4:s[4+n]'(by omega)=r.getD (n+1) 0:=by
   rw[<-ej (n+1) (by omega)];congr 1;omega
  have x5:s[5+n]'(by omega)=r.getD (n+2) 0:=by
   rw[<-ej (n+2) (by omega)];congr 1;omega
  have hdr:List.take n (List.drop 4 s.data.toList)=(r.drop 1).take n:=by rw[hd];rfl
  have hex:s.extract 4 (4+n)=⟨((r.drop 1).take n).toArray⟩:=by
   rw[<-hdr]
   apply ByteArray.ext
   apply Array.ext'
   simp
  by_cases hs:cK ((r.getD 0 0).toNat:Int) ((r.drop 1).take n)=((r.getD (n+1) 0).toNat:Int)*256+((r.getD (n+2) 0).toNat:Int)
  ·have:=Ai w s (by omega) (by omega) (by omega) (by omega) n hz (by omega) (by omega) (by omega) (by omega) (by omega) (by rw[x3,x4,x5,hdr];simpa using hs)
   rw[hex,x3] at this
   simpa only[gF,hn,h1,h2,hs,if_false,if_true,lo] using this
  have:=tR w s (by omega) (by omega) (by omega) (by omega) n hz (by omega) (by omega) (by omega) (by omega) (by omega) (by rw[x3,x4,x5,hdr];simpa using hs)
  simpa only[gF,hn,h1,h2,hs,if_false,if_true,lo] using this
end Fm
