/- Walks. -/
import Derived.Test.YtocppjcocnckmaaGreatDoorM07
import Derived.Deep.RegionLaw
import Derived.Deep.RegionHeld3
import Derived.Laws.BytesArg
set_option maxRecDepth 100000
set_option maxHeartbeats 8000000
set_option linter.all false
open Go.Lib (hid)
namespace Go.Proofs.YtocppjcocnckmaaGreatDoor
open Go.Proofs.Tryz
namespace Fm
open Go.RowKit
def cb (c:UInt8):Value:=.int .u8 c.toNat
def dQ (w:World)(B:Nat)(a:Option Addr)(l:List UInt8):Prop :=
 0<l.length->∃ b off,a=some ⟨b,off,none⟩/\b<B/\∀ (k:Nat) (c:UInt8),l[k]? = some c->w.cell? ⟨b,off+k,none⟩=some (.int .u8 c.toNat)
theorem dQ.fr {w w':World}{B:Nat}{a:Option Addr}{l:List UInt8}{S:List Nat}(h:dQ w B a l)(hf:Fr S w w')(hB:B<=w.heap.size)(hS:∀ k,k∈S->B<=k):dQ w' B a l:=by
 intro hl
 obtain⟨b,off,ha,hb,hc⟩:=h hl
 have hn:∀ o,w'.cell? ⟨b,o,none⟩=w.cell? ⟨b,o,none⟩:=λo=>World.cell?_of_block (w:=w) (hf.block b (by omega) (λhs=>absurd (hS b hs) (by omega)))
 exact⟨b,off,ha,hb,λk c hk=>by rw[hn];exact hc k c hk⟩
def sizeOf3 (c0 c1 c2:UInt8):Nat:=c0.toNat*65536+c1.toNat*256+c2.toNat
theorem cE (W:World)(b off m c:Nat)(body:ByteArray)(hbs:body.size=m)(hbody:∀ (k:Nat) (x:UInt8),body.data.toList[k]? = some x->W.cell? ⟨b,off+k,none⟩=some (.int .u8 x.toNat)) :
  (convert 69 9 (.slice (some ⟨b,off,none⟩) m c)).run prog W = .ok (.string body) W:=by
 have h:=run_convert_bytes_arg (P:=prog) W 69 5 underlying69 underlying5 b off m c (body.data.toList.map λx=>(x.toNat:Int)) (by simpa using hbs) (λi hi=>by
  have hi':i<body.data.toList.length:=by simpa using (by rw[<-hbs] at hi;exact hi)
  rw[hbody i _ (List.getElem?_eq_getElem hi')]
  simp[List.getD]
  rw[Array.getElem?_eq_getElem (by simpa using hi')]
  rfl) 9 underlying9
 rw[h]
 have:strOfNums (body.data.toList.map λx=>(x.toNat:Int))=body:=by
  simp[strOfNums,Function.comp_def]
 rw[this]
theorem gY (c0 c1 c2:UInt8)(n:Nat)(hn:sizeOf3 c0 c1 c2=n):bits BinOp.or IntKind.i64 (bits BinOp.or IntKind.i64 ((c0.toNat:Int)*65536) ((c1.toNat:Int)*256)) (c2.toNat:Int)=(n:Int):=by
 have b0:=jg c0
 have b1:=jg c1
 have b2:=jg c2
 unfold sizeOf3 at hn
 rw[kh 16 ((c0.toNat:Int)*65536) ((c1.toNat:Int)*256) (by omega) (by omega) (by omega) (by omega) (by omega) (by omega),kh 8 _ _ (by omega) (by omega) (by omega) (by omega) (by omega) (by omega)]
 omega
theorem iA (W:World)(tmps:Array Value)(g:Nat)(k n e:Int)(s:ByteArray)(hp:Holds W g 161 #[.int .i64 k,.string s])(h2:tmps[2]?.getD undef = .pointer (some ⟨g,0,none⟩))(h3:tmps[3]?.getD undef = .int .i64 n)(h4:tmps[4]?.getD undef = .int .i64 e) :
  (results f129 tmps).run prog W = .ok (.tuple #[.agg #[.int .i64 k,.string s],.int .i64 n,.int .i64 e]) W:=by
 have q0:=hp.cell 0
 have q1:=hp.cell 1
 have hr:f129.results=#[.cell 2 161,.tmp 3,.tmp 4]:=rfl
 simp at q0 q1
 simp[results,hr,h2,h3,h4,go_sem,q0,q1]
theorem yf (w:World)(c0 c1 c2:UInt8)(len:Nat)(b off cap:Nat)(hb:b<w.heap.size)(k0:w.cell? ⟨b,off,none⟩=some (.int .u8 c0.toNat))(k1:w.cell? ⟨b,off+1,none⟩=some (.int .u8 c1.toNat))(k2:w.cell? ⟨b,off+2,none⟩=some (.int .u8 c2.toNat))(h3:2<len)(hlen:len<=100000)(n:Nat)(hn:sizeOf3 c0 c1 c2=n)(hbig:20000<n) :
  Calls prog 129 #[.slice (some ⟨b,off,none⟩) len cap] w λe w'=>e = .returned (.tuple #[.agg #[.int .i64 0,.string ByteArray.empty],.int .i64 0,.int .i64 2])/\Fr [] w w':=by
 have b0:=c0.toNat_lt
 have b1:=c1.toNat_lt
 have b2:=c2.toNat_lt
 have t0:0<len:=by omega
 have t1:1<len:=by omega
 have hor:=gY c0 c1 c2 n hn
 clear hn
 go_enter func129,ntmps129
 go_wp2_with fail
 go_quiet (fail)
 go_wp2_with fail
 refine bodyPost_ret (iA _ _ w.heap.size 0 0 2 ⟨#[]⟩ ((((Holds.new _ _ _).drewN _).set 0 _).set 1 _) rfl rfl rfl) rfl ⟨rfl,((((Fr.refl [] w).alloc _).drewN _).aw (Nat.le_refl _) _).aw (Nat.le_refl _) _⟩
theorem Dk (w:World)(c0 c1 c2 c3 d0 d1:UInt8)(body:ByteArray)(len:Nat)(b off cap:Nat)(hb:b<w.heap.size)(k0:w.cell? ⟨b,off,none⟩=some (.int .u8 c0.toNat))(k1:w.cell? ⟨b,off+1,none⟩=some (.int .u8 c1.toNat))(k2:w.cell? ⟨b,off+2,none⟩=some (.int .u8 c2.toNat))(k3:w.cell? ⟨b,off+3,none⟩=some (.int .u8 c3.toNat))
  (n:Nat) (hn:sizeOf3 c0 c1 c2=n) (hsm:n<=20000) (hbody:∀ (k:Nat) (c:UInt8),body.data.toList[k]? = some c->w.cell? ⟨b,off+4+k,none⟩=some (.int .u8 c.toNat)) (hbs:body.size=n) (k4:w.cell? ⟨b,off+(n+4),none⟩=some (.int .u8 d0.toNat)) (k5:w.cell? ⟨b,off+(n+5),none⟩=some (.int .u8 d1.toNat)) (h6:n+6<=len) (hlen:len<=100000) (hcap:len<=cap) (hsum:(cK (c3.toNat:Int) body.data.toList != (d0.toNat:Int)*256+d1.toNat)=false) :
  Calls prog 129 #[.slice (some ⟨b,off,none⟩) len cap] w λe w'=>e = .returned (.tuple #[.agg #[.int .i64 c3.toNat,.string body],.int .i64 (n+6),.int .i64 0])/\Fr [] w w':=by
 have b0:=c0.toNat_lt
 have b1:=c1.toNat_lt
 have b2:=c2.toNat_lt
 have b3:=c3.toNat_lt
 have t0:0<len:=by omega
 have t1:1<len:=by omega
 have t2:2<len:=by omega
 have t3:3<len:=by omega
 have hor:=gY c0 c1 c2 n hn
 have hms:body.size<=maxLen:=by unfold maxLen;omega
 have b4:=d0.toNat_lt
 have b5:=d1.toNat_lt
 have hor2:bits .or .i64 ((d0.toNat:Int)*256) (d1.toNat:Int)=(d0.toNat:Int)*256+d1.toNat:=kh 8 _ _ (by omega) (by omega) (by omega) (by omega) (by omega) (by omega)
 clear hn
 have hsame:∀ k o,((w.alloc (Obj.cells #[Value.int IntKind.i64 0,Value.string { data:=#[] }] 161)).drewN k).cell? ⟨b,o,none⟩=w.cell? ⟨b,o,none⟩:=λk o=>World.cell?_of_block (w:=w) ((((Fr.refl [] w).alloc _).drewN k).block b hb (by simp))
 have kc0:∀ (W:World) (c m:Nat),m=n->(∀ o,W.cell? ⟨b,o,none⟩=w.cell? ⟨b,o,none⟩)->(convert 69 9 (.slice (some ⟨b,off+4,none⟩) m c)).run prog W = .ok (.string body) W:=by
  intro W c m hm hW
  exact cE W b (off+4) m c body (hbs.trans hm.symm) (λk x hk=>by rw[hW];exact hbody k x hk)
 have kc1:∀ (k c:Nat),(convert 69 9 (.slice (some ⟨b,off+4,none⟩) (4+n - 4) c)).run prog (((w.alloc (Obj.cells #[Value.int IntKind.i64 0,Value.string { data:=#[] }] 161)).drewN k).drew) = .ok (.string body) (((w.alloc (Obj.cells #[Value.int IntKind.i64 0,Value.string { data:=#[] }] 161)).drewN k).drew):=λk c=>kc0 _ _ _ (by omega) (λo=>hsame k o)
 have kc2:∀ (k c:Nat),(convert 69 9 (.slice (some ⟨b,off+4,none⟩) (4+n - 4) c)).run prog (((w.alloc (Obj.cells #[Value.int IntKind.i64 0,Value.string { data:=#[] }] 161)).drewN k)) = .ok (.string body) (((w.alloc (Obj.cells #[Value.int IntKind.i64 0,Value.string { data:=#[] }] 161)).drewN k)):=λk c=>kc0 _ _ _ (by omega) (λo=>hsame k o)
 have kc3:∀ (k c:Nat),(convert 69 9 (.slice (some ⟨b,off+4,none⟩) n c)).run prog (((w.alloc (Obj.cells #[Value.int IntKind.i64 0,Value.string { data:=#[] }] 161)).drewN k).drew) = .ok (.string body) (((w.alloc (Obj.cells #[Value.int IntKind.i64 0,Value.string { data:=#[] }] 161)).drewN k).drew):=λk c=>kc0 _ _ _ (by omega) (λo=>hsame k o)
 have kc4:∀ (k c:Nat),(convert 69 9 (.slice (some ⟨b,off+4,none⟩) n c)).run prog (((w.alloc (Obj.cells #[Value.int IntKind.i64 0,Value.string { data:=#[] }] 161)).drewN k)) = .ok (.string body) (((w.alloc (Obj.cells #[Value.int IntKind.i64 0,Value.string { data:=#[] }] 161)).drewN k)):=λk c=>kc0 _ _ _ (by omega) (λo=>hsame k o)
 clear kc0
 go_enter func129,ntmps129
 go_wp2_with fail
 go_quiet (fail)
 go_wp2_with fail
 go_region
 all_goals
  clear kc1 kc2 kc3 kc4
  go_wp2_with fail
  generalize hW:((((w.alloc (Obj.cells #[Value.int IntKind.i64 0,Value.string { data:=#[] }] 161)).drewN (nq+1)).setCell { block:=w.heap.size,off:=0 } (Value.int IntKind.i64 ↑c3.toNat)).setCell { block:=w.heap.size,off:=1 } (Value.string body))=W
  have hH:Holds W w.heap.size 161 #[.int .i64 c3.toNat,.string body]:=by rw[<-hW];exact(((Holds.new _ _ _).drewN _).set 0 _).set 1 _
  have fW:Fr [] w W:=by rw[<-hW];exact((((Fr.refl [] w).alloc _).drewN _).aw (Nat.le_refl _) _).aw (Nat.le_refl _) _
  have q0:=hH.cell 0
  have q1:=hH.cell 1
  have z0:=hH.frozen 0
  have z1:=hH.frozen 1
  have m4:=fW.cell k4 hb (by simp)
  have m5:=fW.cell k5 hb (by simp)
  simp at q0 q1
  clear hW hbody k0 k1 k2 k3 k4 k5
  have FW:=hid fW
  clear fW
  go_quiet ((go_at_call 125;exact bB (kC _ _ _ hms)))
  go_wp2_with fail
  refine bodyPost_ret (iA _ _ w.heap.size _ _ _ _ (((hH.drewN _).set 0 _).set 1 _) rfl rfl rfl) rfl ⟨rfl,((FW.drewN _).aw (Nat.le_refl _) _).aw (Nat.le_refl _) _⟩
theorem yg (w:World)(c0 c1 c2 c3 d0 d1:UInt8)(body:ByteArray)(len:Nat)(b off cap:Nat)(hb:b<w.heap.size)(k0:w.cell? ⟨b,off,none⟩=some (.int .u8 c0.toNat))(k1:w.cell? ⟨b,off+1,none⟩=some (.int .u8 c1.toNat))(k2:w.cell? ⟨b,off+2,none⟩=some (.int .u8 c2.toNat))(k3:w.cell? ⟨b,off+3,none⟩=some (.int .u8 c3.toNat))
  (n:Nat) (hn:sizeOf3 c0 c1 c2=n) (hsm:n<=20000) (hbody:∀ (k:Nat) (c:UInt8),body.data.toList[k]? = some c->w.cell? ⟨b,off+4+k,none⟩=some (.int .u8 c.toNat)) (hbs:body.size=n) (k4:w.cell? ⟨b,off+(n+4),none⟩=some (.int .u8 d0.toNat)) (k5:w.cell? ⟨b,off+(n+5),none⟩=some (.int .u8 d1.toNat)) (h6:n+6<=len) (hlen:len<=100000) (hcap:len<=cap) (hsum:(cK (c3.toNat:Int) body.data.toList != (d0.toNat:Int)*256+d1.toNat)=true) :
  Calls prog 129 #[.slice (some ⟨b,off,none⟩) len cap] w λe w'=>e = .returned (.tuple #[.agg #[.int .i64 0,.string ByteArray.empty],.int .i64 0,.int .i64 1])/\Fr [] w w':=by
 have b0:=c0.toNat_lt
 have b1:=c1.toNat_lt
 have b2:=c2.toNat_lt
 have b3:=c3.toNat_lt
 have t0:0<len:=by omega
 have t1:1<len:=by omega
 have t2:2<len:=by omega
 have t3:3<len:=by omega
 have hor:=gY c0 c1 c2 n hn
 have hms:body.size<=maxLen:=by unfold maxLen;omega
 have b4:=d0.toNat_lt
 have b5:=d1.toNat_lt
 have hor2:bits .or .i64 ((d0.toNat:Int)*256) (d1.toNat:Int)=(d0.toNat:Int)*256+d1.toNat:=kh 8 _ _ (by omega) (by omega) (by omega) (by omega) (by omega) (by omega)
 clear hn
 have hsame:∀ k o,((w.alloc (Obj.cells #[Value.int IntKind.i64 0,Value.string { data:=#[] }] 161)).drewN k).cell? ⟨b,o,none⟩=w.cell? ⟨b,o,none⟩:=λk o=>World.cell?_of_block (w:=w) ((((Fr.refl [] w).alloc _).drewN k).block b hb (by simp))
 have kc0:∀ (W:World) (c m:Nat),m=n->(∀ o,W.cell? ⟨b,o,none⟩=w.cell? ⟨b,o,none⟩)->(convert 69 9 (.slice (some ⟨b,off+4,none⟩) m c)).run prog W = .ok (.string body) W:=by
  intro W c m hm hW
  exact cE W b (off+4) m c body (hbs.trans hm.symm) (λk x hk=>by rw[hW];exact hbody k x hk)
 have kc1:∀ (k c:Nat),(convert 69 9 (.slice (some ⟨b,off+4,none⟩) (4+n - 4) c)).run prog (((w.alloc (Obj.cells #[Value.int IntKind.i64 0,Value.string { data:=#[] }] 161)).drewN k).drew) = .ok (.string body) (((w.alloc (Obj.cells #[Value.int IntKind.i64 0,Value.string { data:=#[] }] 161)).drewN k).drew):=λk c=>kc0 _ _ _ (by omega) (λo=>hsame k o)
 have kc2:∀ (k c:Nat),(convert 69 9 (.slice (some ⟨b,off+4,none⟩) (4+n - 4) c)).run prog (((w.alloc (Obj.cells #[Value.int IntKind.i64 0,Value.string { data:=#[] }] 161)).drewN k)) = .ok (.string body) (((w.alloc (Obj.cells #[Value.int IntKind.i64 0,Value.string { data:=#[] }] 161)).drewN k)):=λk c=>kc0 _ _ _ (by omega) (λo=>hsame k o)
 have kc3:∀ (k c:Nat),(convert 69 9 (.slice (some ⟨b,off+4,none⟩) n c)).run prog (((w.alloc (Obj.cells #[Value.int IntKind.i64 0,Value.string { data:=#[] }] 161)).drewN k).drew) = .ok (.string body) (((w.alloc (Obj.cells #[Value.int IntKind.i64 0,Value.string { data:=#[] }] 161)).drewN k).drew):=λk c=>kc0 _ _ _ (by omega) (λo=>hsame k o)
 have kc4:∀ (k c:Nat),(convert 69 9 (.slice (some ⟨b,off+4,none⟩) n c)).run prog (((w.alloc (Obj.cells #[Value.int IntKind.i64 0,Value.string { data:=#[] }] 161)).drewN k)) = .ok (.string body) (((w.alloc (Obj.cells #[Value.int IntKind.i64 0,Value.string { data:=#[] }] 161)).drewN k)):=λk c=>kc0 _ _ _ (by omega) (λo=>hsame k o)
 clear kc0
 go_enter func129,ntmps129
 go_wp2_with fail
 go_quiet (fail)
 go_wp2_with fail
 go_region
 all_goals
  clear kc1 kc2 kc3 kc4
  go_wp2_with fail
  generalize hW:((((w.alloc (Obj.cells #[Value.int IntKind.i64 0,Value.string { data:=#[] }] 161)).drewN (nq+1)).setCell { block:=w.heap.size,off:=0 } (Value.int IntKind.i64 ↑c3.toNat)).setCell { block:=w.heap.size,off:=1 } (Value.string body))=W
  have hH:Holds W w.heap.size 161 #[.int .i64 c3.toNat,.string body]:=by rw[<-hW];exact(((Holds.new _ _ _).drewN _).set 0 _).set 1 _
  have fW:Fr [] w W:=by rw[<-hW];exact((((Fr.refl [] w).alloc _).drewN _).aw (Nat.le_refl _) _).aw (Nat.le_refl _) _
  have q0:=hH.cell 0
  have q1:=hH.cell 1
  have z0:=hH.frozen 0
  have z1:=hH.frozen 1
  have m4:=fW.cell k4 hb (by simp)
  have m5:=fW.cell k5 hb (by simp)
  simp at q0 q1
  clear hW hbody k0 k1 k2 k3 k4 k5
  have FW:=hid fW
  clear fW
  go_quiet ((go_at_call 125;exact bB (kC _ _ _ hms)))
  go_wp2_with fail
  refine bodyPost_ret (iA _ _ w.heap.size _ _ _ _ (((hH.drewN _).set 0 _).set 1 _) rfl rfl rfl) rfl ⟨rfl,((FW.drewN _).aw (Nat.le_refl _) _).aw (Nat.le_refl _) _⟩
theorem jB (w:World)(a:Option Addr)(len cap:Nat)(h3:len<3) :
  Calls prog 129 #[.slice a len cap] w λe w'=>e = .returned (.tuple #[.agg #[.int .i64 0,.string ByteArray.empty],.int .i64 0,.int .i64 14])/\Fr [] w w':=by
 go_enter func129,ntmps129
 go_wp2_with fail
 refine bodyPost_ret (iA _ _ w.heap.size 0 0 14 ⟨#[]⟩ (Holds.new _ _ _) rfl rfl rfl) rfl ⟨rfl,(Fr.refl [] w).alloc _⟩
theorem uy (w:World)(c0 c1 c2:UInt8)(len:Nat)(b off cap:Nat)(hb:b<w.heap.size)(k0:w.cell? ⟨b,off,none⟩=some (.int .u8 c0.toNat))(k1:w.cell? ⟨b,off+1,none⟩=some (.int .u8 c1.toNat))(k2:w.cell? ⟨b,off+2,none⟩=some (.int .u8 c2.toNat))(h3:2<len)(hlen:len<=100000)(n:Nat)(hn:sizeOf3 c0 c1 c2=n)(hsm:n<=20000)(h6:len<n+6) :
  Calls prog 129 #[.slice (some ⟨b,off,none⟩) len cap] w λe w'=>e = .returned (.tuple #[.agg #[.int .i64 0,.string ByteArray.empty],.int .i64 0,.int .i64 14])/\Fr [] w w':=by
 have b0:=c0.toNat_lt
 have b1:=c1.toNat_lt
 have b2:=c2.toNat_lt
 have t0:0<len:=by omega
 have t1:1<len:=by omega
 have hor:=gY c0 c1 c2 n hn
 clear hn
 go_enter func129,ntmps129
 go_wp2_with fail
 go_quiet (fail)
 go_wp2_with fail
 refine bodyPost_ret (iA _ _ w.heap.size 0 0 14 ⟨#[]⟩ ((((Holds.new _ _ _).drewN _).set 0 _).set 1 _) rfl rfl rfl) rfl ⟨rfl,((((Fr.refl [] w).alloc _).drewN _).aw (Nat.le_refl _) _).aw (Nat.le_refl _) _⟩
def gF (l:List UInt8):Int × ByteArray × Int × Int :=
 match l with
 | c0::c1::c2::r =>
  if 20000<sizeOf3 c0 c1 c2 then (0,ByteArray.empty,0,2)
  else if r.length+3<sizeOf3 c0 c1 c2+6 then (0,ByteArray.empty,0,14)
  else if cK ((r.getD 0 0).toNat:Int) ((r.drop 1).take (sizeOf3 c0 c1 c2))=((r.getD (sizeOf3 c0 c1 c2+1) 0).toNat:Int)*256+((r.getD (sizeOf3 c0 c1 c2+2) 0).toNat:Int)
   then (((r.getD 0 0).toNat:Int),⟨((r.drop 1).take (sizeOf3 c0 c1 c2)).toArray⟩,(sizeOf3 c0 c1 c2:Int)+6,0)
   else (0,ByteArray.empty,0,1)
 | _=>(0,ByteArray.empty,0,14)
def lo (x:Int × ByteArray × Int × Int):Value:=.tuple #[.agg #[.int .i64 x.1,.string x.2.1],.int .i64 x.2.2.1,.int .i64 x.2.2.2]
theorem kJ (w:World)(a:Option Addr)(cap:Nat)(l:List UInt8)(h:dQ w w.heap.size a l)(hlen:l.length<=100000)(hcap:l.length<=cap) :
  Calls prog 129 #[.slice a l.length cap] w λe w'=>e = .returned (lo (gF l))/\Fr [] w w':=by
 match l,h,hlen,hcap with
 | [],_,_,_=>exact jB w a _ cap (by decide)
 | [_],_,_,_=>exact jB w a _ cap (by simp)
 | [_,_],_,_,_=>exact jB w a _ cap (by simp)
 | c0::c1::c2::r,h,hlen,hcap =>
  obtain⟨b,off,rfl,hb,hc⟩:=h (by simp)
  have k0:=hc 0 c0 rfl
  have k1:=hc 1 c1 rfl
  have k2:=hc 2 c2 rfl
  simp only[List.length_cons] at hlen hcap ⊢
  by_cases h1:20000<sizeOf3 c0 c1 c2
  ·have:=yf w c0 c1 c2 (r.length+1+1+1) b off cap hb k0 k1 k2 (by omega) hlen _ rfl h1
   simpa only[gF,h1,if_true,lo] using this
  by_cases h2:r.length+3<sizeOf3 c0 c1 c2+6
  ·have:=uy w c0 c1 c2 (r.length+1+1+1) b off cap hb k0 k1 k2 (by omega) hlen _ rfl (by omega) (by omega)
   simpa only[gF,h1,h2,if_false,if_true,lo] using this
  generalize hn:sizeOf3 c0 c1 c2=n at h1 h2
  have g:∀ j,j<r.length->w.cell? ⟨b,off+(j+3),none⟩=some (.int .u8 ((r.getD j 0).toNat:Int)):=λj hj=>hc (j+3) _ (by simp[List.getD,List.getElem?_eq_getElem hj])
  have hbody:∀ (k:Nat) (c:UInt8),((r.drop 1).take n)[k]? = some c->w.cell? ⟨b,off+4+k,none⟩=some (.int .u8 c.toNat):=λk c hk=>by
   rw[List.getElem?_take] at hk
   split at hk
   ·rw[List.getElem?_drop] at hk
    have:=hc (1+k+3) c (by simpa using hk)
    rwa [show off+(1+k+3)=off+4+k by omega] at this
   cases hk
  have hbs:(⟨((r.drop 1).take n).toArray⟩:ByteArray).size=n:=by simp[ByteArray.size];omega
  have k3:=g 0 (by omega)
  have k4:=g (n+1) (by omega)
  have k5:=g (n+2) (by omega)
  by_cases hs:cK ((r.getD 0 0).toNat:Int) ((r.drop 1).take n)=((r.getD (n+1) 0).toNat:Int)*256+((r.getD (n+2) 0).toNat:Int)
  ·have:=Dk w c0 c1 c2 (r.getD 0 0) (r.getD (n+1) 0) (r.getD (n+2) 0) ⟨((r.drop 1).take n).toArray⟩ (r.length+1+1+1) b off cap hb k0 k1 k2 k3 n hn (by omega) hbody hbs k4 k5 (by omega) hlen hcap (by simpa using hs)
   simpa only[gF,hn,h1,h2,hs,if_false,if_true,lo] using this
  have:=yg w c0 c1 c2 (r.getD 0 0) (r.getD (n+1) 0) (r.getD (n+2) 0) ⟨((r.drop 1).take n).toArray⟩ (r.length+1+1+1) b off cap hb k0 k1 k2 k3 n hn (by omega) hbody hbs k4 k5 (by omega) hlen hcap (by simpa using hs)
  simpa only[gF,hn,h1,h2,hs,if_false,if_true,lo] using this
end Fm
