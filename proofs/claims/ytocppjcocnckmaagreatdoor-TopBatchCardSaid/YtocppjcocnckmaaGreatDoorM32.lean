/- Walks. -/
import Derived.Test.YtocppjcocnckmaaGreatDoorM19
import Derived.Test.YtocppjcocnckmaaGreatDoorM29
import Derived.Deep.RegionLaw
set_option maxRecDepth 100000
set_option maxHeartbeats 8000000
set_option linter.all false
open Go.Lib (hid)
namespace Go.Proofs.YtocppjcocnckmaaGreatDoor
open Go.Proofs.Tryz
namespace Fd
open Go.RowKit Fm Ct
def dv (l:List UInt8):Int:=l.foldl (λn c=>n*10+((c.toNat:Int) - 48)) 0
structure wG (s:ByteArray)(n:Int):Prop where
 dig:∀ c∈s.data.toList,48<=c.toNat/\c.toNat<=57
 low:∀ k:Fin 6,0<=dv (s.data.toList.take k.val)/\dv (s.data.toList.take k.val)<=99999
 s5:s.size<=5
 val:dv s.data.toList=n
theorem fL (s:ByteArray)(n:Int)(w:World)(h:wG s n):Calls prog 367 #[.string s] w λe w'=>e = .returned (.int .i64 n)/\w=w':=by
 have h5:=h.s5
 go_enter func367,ntmps367
 go_wp2_with fail
 go_loop [3,7] (λa i=>∃ k:Nat,k<=s.size/\i = .int .i64 k/\a = .int .i64 (dv (s.data.toList.take k))) (λ_ i=>s.size - (intOf i).toNat)
 case atStart=>exact⟨0,Nat.zero_le _,rfl,rfl⟩
 obtain⟨k,hk,rfl,rfl⟩:=hrel
 by_cases hlt:k<s.size
 ·have hd:=h.dig _ (cw hlt)
  have h0:=h.low ⟨k,by omega⟩
  have h1:=h.low ⟨k+1,by omega⟩
  have hs:=dj s k hlt
  simp only at h0 h1
  have e1:dv (s.data.toList.take (k+1))=dv (s.data.toList.take k)*10+((s[k].toNat:Int) - 48):=by rw[hs];simp[dv]
  obtain⟨m,hm⟩:∃ m,dv (s.data.toList.take k)=m:=⟨_,rfl⟩
  rw[hm] at h0 e1
  rw[e1] at h1
  have E1:=hid e1
  have b1:decide ((s[k].toNat:Int)<48)=false:=decide_eq_false (by omega)
  have b2:decide ((s[k].toNat:Int) > 57)=false:=decide_eq_false (by omega)
  have w1:IntKind.u8.wrap ((s[k].toNat:Int) - 48)=(s[k].toNat:Int) - 48:=by rw[IntKind.wrap_u8];omega
  have w2:IntKind.i64.wrap (m*10)=m*10:=IntWalk.i64_in _ (by omega)
  have w3:IntKind.i64.wrap (m*10+((s[k].toNat:Int) - 48))=m*10+((s[k].toNat:Int) - 48):=IntWalk.i64_in _ (by omega)
  have w4:IntKind.i64.wrap ((s[k].toNat:Int) - 48)=(s[k].toNat:Int) - 48:=IntWalk.i64_in _ (by omega)
  clear hd hs e1 h0 h1
  rw[hm]
  clear hm
  go_wp2_with fail
  go_round
  case rel=>exact⟨k+1,by omega,by go_num,by rw[E1]⟩
  simp[intOf];omega
 obtain rfl:k=s.size:=by omega
 have ht:s.data.toList.take s.size=s.data.toList:=List.take_of_length_le (by simp)
 rw[ht,h.val]
 go_wp2_with fail
 go_ret
 exact⟨rfl,rfl⟩
theorem uW (n:Int)(m:Int)(s:ByteArray)(w:World)(hz:m<=(s.size:Int))(HI:∀ W,Fr [] w W->Calls prog 393 #[.int .i64 n] W λe w'=>e = .returned (.string s)/\Fr [] W w')(h5:s.size<=5) :
  cA 384 #[.int .i64 n,.int .i64 m] w (.string s):=by
 have hd:decide ((s.size:Int)<m)=false:=decide_eq_false (by omega)
 have HI:=hid HI
 go_enter func384,ntmps384
 go_wp2_with fail
 refine uu (HI _ rZ) λw2 f2=>?_
 go_wp2_with fail
 refine wp_loop_rounds 1 ?_
 rw[rounds_succ]
 go_wp2_with fail
 go_ret
 exact⟨rfl,f2⟩
theorem nX (i:Nat)(w:World)(h0:10<=i)(h1:i<100)(hz:(Lib.decDigits i).length=2):Calls prog 384 #[.int .i64 i,.int .i64 2] w λe w'=>e = .returned (.string ⟨(Lib.decDigits i).toArray⟩)/\w=w':=by
 obtain⟨s,hs⟩:∃ s:ByteArray,⟨(Lib.decDigits i).toArray⟩=s:=⟨_,rfl⟩
 have hz2:s.size=2:=by rw[<-hs];exact hz
 have HI:=hid (Sh.uF i w h1)
 rw[hs] at HI ⊢
 clear hs hz
 have hd:decide ((s.size:Int)<2)=false:=decide_eq_false (by omega)
 go_enter func384,ntmps384
 go_wp2_with fail
 refine HI.mono ?_
 rintro e w' ⟨rfl,rfl⟩
 go_wp2_with fail
 refine wp_loop_rounds 1 ?_
 rw[rounds_succ]
 go_wp2_with fail
 go_ret
 exact⟨rfl,rfl⟩
theorem BK (w:World):Calls prog 383 #[.int .i64 1999,.int .i64 12] w λe w'=>e = .returned (.int .i64 31)/\w=w':=by
 go_enter func383,ntmps383
 go_wp2_with fail
 go_ret
 exact⟨rfl,rfl⟩
abbrev dC:Array Value:=#[.int .i64 1999,.int .i64 12,.int .i64 31]
theorem we (w:World):cA 368 #[.agg dC] w (.bool true):=by
 go_enter func368,ntmps368
 go_wp2_with fail
 go_quiet ((go_at_call 383;exact bB (BK _)))
 go_wp2_with fail
 go_ret
 exact⟨rfl,(rZ.alloc _).drewN _⟩
def la : ByteArray := M.bs "1999-12-31"
theorem ko : la.size = 10 /\ la.extract 0 4 = M.bs "1999" /\ la.extract 5 7 = M.bs "12" /\ la.extract 8 10 = M.bs "31" := by decide +kernel
theorem DR : (⟨(Lib.itoa 1999).toArray⟩ : ByteArray) = M.bs "1999" /\ (⟨(Lib.decDigits 12).toArray⟩ : ByteArray) = M.bs "12" /\ (⟨(Lib.decDigits 31).toArray⟩ : ByteArray) = M.bs "31" /\ M.bs "1999" ++ ⟨#[45]⟩ ++ M.bs "12" ++ ⟨#[45]⟩ ++ M.bs "31" = la := by decide +kernel
theorem DF (w:World)(k:Nat)(os:Array Obj):Fr [] w («Sort».grow (w.drewN k) os):=by
 refine((Fr.refl [] w).drewN k).trans ⟨rfl,rfl,rfl,by simp[«Sort».grow],λj hj _=>?_⟩
 simp only[«Sort».grow]
 rw[Array.getElem?_append_left hj]
theorem zY (A B C s:ByteArray)(w:World)(z1:A.size=4)(z2:B.size=2)(z3:C.size=2)(hs:A++⟨#[45]⟩++B++⟨#[45]⟩++C=s)
  (HG:∀ W,Fr [] w W->Calls prog 384 #[.int .i64 1999,.int .i64 4] W λe w'=>e = .returned (.string A)/\Fr [] W w')
  (H12:∀ W,Calls prog 384 #[.int .i64 12,.int .i64 2] W λe w'=>e = .returned (.string B)/\W=w')
  (H31:∀ W,Calls prog 384 #[.int .i64 31,.int .i64 2] W λe w'=>e = .returned (.string C)/\W=w') :
  cA 369 #[.agg dC] w (.string s):=by
 obtain⟨W,hW⟩:∃ W,W=w.alloc (.cells dC 358):=⟨_,rfl⟩
 have f0:Fr [] w W:=by rw[hW];exact rZ.alloc _
 have b1:Holds W w.heap.size 358 dC:=by rw[hW];exact Holds.new _ _ _
 have HG:=hid HG
 have H12:=hid H12
 have H31:=hid H31
 have HS:=hid hs
 have q0:=b1.cell 0
 have q1:=b1.cell 1
 have q2:=b1.cell 2
 simp at q0 q1 q2
 clear hs
 go_enter func369,ntmps369
 go_wp2_with fail
 rw[<-hW]
 clear hW
 go_wp2_with fail
 refine uu (we _) λw2 f2=>?_
 have F2:=hid (f0.trans f2)
 have c1:=b1.fr f2 (by simp)
 clear q0 q1 q2 f2
 have q0:=c1.cell 0
 have q1:=c1.cell 1
 have q2:=c1.cell 2
 simp at q0 q1 q2
 go_wp2_with fail
 refine uu (HG _ F2) λw3 f3=>?_
 have F3:=hid (F2.trans f3)
 have c1:=c1.fr f3 (by simp)
 clear q0 q1 q2 f3
 have q0:=c1.cell 0
 have q1:=c1.cell 1
 have q2:=c1.cell 2
 simp at q0 q1 q2
 go_wp2_with fail
 go_quiet ((go_at_call 384;first|with_reducible exact bB (H12.out _)|with_reducible exact bB (H31.out _)))
 go_wp2_with fail
 go_ret
 exact⟨mI HS,F3.drewN _⟩
theorem zZ (w:World)(hG:Sh.Gl w):cA 369 #[.agg dC] w (.string la):=by
 refine zY _ _ _ _ w (by decide +kernel) (by decide +kernel) (by decide +kernel) DR.2.2.2 (λW f=>?_) (λW=>?_) (λW=>?_)
 ·refine uW 1999 4 _ W (by decide +kernel) (λW2 f2=>?_) (by decide +kernel)
  have h:=Sh.Dy 1999 W2 (hG.fr0 (f.trans f2)) (by omega) (by omega)
  rw[DR.1] at h
  refine h.mono ?_
  rintro e w' ⟨h1,k,os,rfl⟩
  exact⟨h1,DF _ _ _⟩
 ·rw[<-DR.2.1]
  exact nX 12 W (by omega) (by omega) (by decide +kernel)
 rw[<-DR.2.2.1]
 exact nX 31 W (by omega) (by omega) (by decide +kernel)
theorem AV : wG (M.bs "1999") 1999 := ⟨by decide +kernel, by decide +kernel, by decide +kernel, by decide +kernel⟩
theorem EX : wG (M.bs "12") 12 := ⟨by decide +kernel, by decide +kernel, by decide +kernel, by decide +kernel⟩
theorem EW : wG (M.bs "31") 31 := ⟨by decide +kernel, by decide +kernel, by decide +kernel, by decide +kernel⟩
structure wI (v:ByteArray):Prop where
 eq:v=la
theorem CX (W:World)(tmps:Array Value)(g:Nat)(vb:Value)(hp:Holds W g 358 dC)(h2:tmps[2]?.getD undef = .pointer (some ⟨g,0,none⟩))(h3:tmps[3]?.getD undef=vb) :
  (results f354 tmps).run prog W = .ok (.tuple #[.agg dC,vb]) W:=by
 have hr:f354.results=#[.cell 2 358,.tmp 3]:=rfl
 have q0:=hp.cell 0
 have q1:=hp.cell 1
 have q2:=hp.cell 2
 simp at q0 q1 q2
 simp[results,h2,h3,go_sem,q0,q1,q2]
theorem xV (v:ByteArray)(w:World)(h:wI v)(hG:Sh.Gl w) :
  Calls prog 354 #[.string v] w λe w'=>(∃ d,e = .returned (.tuple #[d,.int .i64 0]))/\Fr [] w w':=by
 obtain⟨rfl⟩:=h
 obtain⟨hz,x1,x2,x3⟩:=ko
 have N1:=hid (λW=>fL _ _ W AV)
 have N2:=hid (λW=>fL _ _ W EX)
 have N3:=hid (λW=>fL _ _ W EW)
 rw[<-x1] at N1
 rw[<-x2] at N2
 rw[<-x3] at N3
 have HS:=hid (λW f=>zZ W (hG.fr0 (w':=W) f))
 obtain⟨W,hW⟩:∃ W,W=(w.alloc (.cells #[.int .i64 0,.int .i64 0,.int .i64 0] 358)).alloc (.cells #[.int .i64 0,.int .i64 0,.int .i64 0] 358):=⟨_,rfl⟩
 have F0:=hid (show Fr [] w W by rw[hW];exact(rZ.alloc _).alloc _)
 have b1:Holds W w.heap.size 358 #[.int .i64 0,.int .i64 0,.int .i64 0]:=by rw[hW];exact(Holds.new _ _ _).alloc _
 have b2:Holds W (w.heap.size+1) 358 #[.int .i64 0,.int .i64 0,.int .i64 0]:=by rw[hW];exact aE (by simp)
 have d0:=b2.cell 0
 have d1:=b2.cell 1
 have d2:=b2.cell 2
 have y0:=b2.frozen 0
 have y1:=b2.frozen 1
 have y2:=b2.frozen 2
 have l2:=b2.lt
 simp at d0 d1 d2
 generalize la=s at *
 clear x1 x2 x3 hG
 go_enter func354,ntmps354
 go_wp2_with fail
 rw[<-hW]
 clear hW
 have k4:(4:Int)<=(s.size:Int):=by omega
 have k7:(7:Int)<=(s.size:Int):=by omega
 have k8:(8:Int)<=(s.size:Int):=by omega
 have e7:((s.size:Int)==7)=false:=by rw[hz];rfl
 have e10:((s.size:Int)==10)=true:=by rw[hz];rfl
 go_wp2_with fail
 go_region_law (first
  | (go_simp;go_at_call 367;first
    | (with_reducible refine(N1.out _).mono ?_;rintro e w' ⟨rfl,rfl⟩)
    | (with_reducible refine(N2.out _).mono ?_;rintro e w' ⟨rfl,rfl⟩)
    | (with_reducible refine(N3.out _).mono ?_;rintro e w' ⟨rfl,rfl⟩)))
 all_goals
  have C2:=hid (show Holds (((W.setCell ⟨w.heap.size+1,0,none⟩ (.int .i64 1999)).setCell ⟨w.heap.size+1,1,none⟩ (.int .i64 12)).setCell ⟨w.heap.size+1,2,none⟩ (.int .i64 31)).drew (w.heap.size+1) 358 dC from by
   have:=((b2.set 0 (.int .i64 1999)).set 1 (.int .i64 12)).set 2 (.int .i64 31)
   have:=this.fr (Fr.refl [] _).drew (by simp)
   simpa using this)
  have C1:=hid (show Holds (((W.setCell ⟨w.heap.size+1,0,none⟩ (.int .i64 1999)).setCell ⟨w.heap.size+1,1,none⟩ (.int .i64 12)).setCell ⟨w.heap.size+1,2,none⟩ (.int .i64 31)).drew w.heap.size 358 #[.int .i64 0,.int .i64 0,.int .i64 0] from
   (((b1.far (by simp) _).far (by simp) _).far (by simp) _).fr (Fr.refl [] _).drew (by simp))
  have F1:=hid (show Fr [] w (((W.setCell ⟨w.heap.size+1,0,none⟩ (.int .i64 1999)).setCell ⟨w.heap.size+1,1,none⟩ (.int .i64 12)).setCell ⟨w.heap.size+1,2,none⟩ (.int .i64 31)).drew from
   (Ev.Fr.aw (Ev.Fr.aw (Ev.Fr.aw F0 (by simp) _) (by simp) _) (by simp) _).drew)
  generalize (((W.setCell ⟨w.heap.size+1,0,none⟩ (.int .i64 1999)).setCell ⟨w.heap.size+1,1,none⟩ (.int .i64 12)).setCell ⟨w.heap.size+1,2,none⟩ (.int .i64 31)).drew=V at *
  clear d0 d1 d2 y0 y1 y2 l2 b1 b2
  have d0:=C2.cell 0
  have d1:=C2.cell 1
  have d2:=C2.cell 2
  simp at d0 d1 d2
  go_wp2_with fail
  refine uu (we _) λw2 f2=>?_
  have G2:=hid (F1.trans f2)
  have C2:=hid (C2.fr f2 (by simp))
  have C1:=hid (C1.fr f2 (by simp))
  clear d0 d1 d2 f2
  have d0:=C2.cell 0
  have d1:=C2.cell 1
  have d2:=C2.cell 2
  simp at d0 d1 d2
  go_wp2_with fail
  refine uu (HS _ G2) λw3 f3=>?_
  have G3:=hid (G2.trans f3)
  have C2:=hid (C2.fr f3 (by simp))
  have C1:=hid (C1.fr f3 (by simp))
  clear d0 d1 d2 f3
  have d0:=C2.cell 0
  have d1:=C2.cell 1
  have d2:=C2.cell 2
  have e0:=C1.cell 0
  have e1:=C1.cell 1
  have e2:=C1.cell 2
  have y0:=C1.frozen 0
  have y1:=C1.frozen 1
  have y2:=C1.frozen 2
  have l1:=C1.lt
  simp at d0 d1 d2 e0 e1 e2
  go_wp2_with fail
  have hh:Holds (((w3.setCell ⟨w.heap.size,0,none⟩ (.int .i64 1999)).setCell ⟨w.heap.size,1,none⟩ (.int .i64 12)).setCell ⟨w.heap.size,2,none⟩ (.int .i64 31)) w.heap.size 358 dC:=by
   have:=((C1.set 0 (.int .i64 1999)).set 1 (.int .i64 12)).set 2 (.int .i64 31)
   simpa using this
  exact bodyPost_ret (CX _ _ w.heap.size _ hh rfl rfl) rfl ⟨⟨_,rfl⟩,Ev.Fr.aw (Ev.Fr.aw (Ev.Fr.aw G3 (Nat.le_refl _) _) (Nat.le_refl _) _) (Nat.le_refl _) _⟩
open Go.RowKit Fm Ct
theorem nP (k:Nat)(w:World)(h1:1<=k)(h6:k<=6):Calls prog 302 #[.int .i64 k] w λe w'=>e = .returned (.string (kT k))/\w=w':=by
 obtain rfl|rfl|rfl|rfl|rfl|rfl:k=1∨k=2∨k=3∨k=4∨k=5∨k=6:=by omega
 all_goals
  go_enter func302,ntmps302
  go_wp2
  go_ret
  exact⟨by kernel_rfl,rfl⟩
theorem km (k l:Nat)(w:World)(h1:1<=k)(h6:k<=6)(h3:l<=3):Calls prog 301 #[.int .i64 k,.int .i64 l] w λe w'=>e = .returned (.tuple #[.string (lR k l),.bool (lab k l)])/\w=w':=by
 obtain rfl|rfl|rfl|rfl|rfl|rfl:k=1∨k=2∨k=3∨k=4∨k=5∨k=6:=by omega
 all_goals
  obtain rfl|rfl|rfl|rfl:l=0∨l=1∨l=2∨l=3:=by omega
  all_goals
   go_enter func301,ntmps301
   go_wp2
   go_ret2
   exact⟨by kernel_rfl,rfl⟩
inductive Val:F->Prop
 | clean (k l:Nat) (v:ByteArray) (hk:k=1∨k=2∨k=6) (n:qK v):Val ⟨k,l,v⟩
 | tel (l:Nat) (v d:ByteArray) (h:mz v d):Val ⟨3,l,v⟩
 | mail (l:Nat) (s a b:ByteArray) (L:List ByteArray) (h:ky s a b L):Val ⟨4,l,s⟩
 | day (l:Nat) (v:ByteArray) (n:qK v) (h:wI v):Val ⟨5,l,v⟩
theorem iB (W:World)(tmps:Array Value)(g:Nat)(f:F)(vb:Value)(hp:Holds W g 209 (fcs f).toArray)(h2:tmps[2]?.getD undef = .pointer (some ⟨g,0,none⟩))(h3:tmps[3]?.getD undef=vb) :
  (results f330 tmps).run prog W = .ok (.tuple #[.agg (fcs f).toArray,vb]) W:=by
 have hr:f330.results=#[.cell 2 209,.tmp 3]:=rfl
 have q0:=hp.cell 0
 have q1:=hp.cell 1
 have q2:=hp.cell 2
 simp at q0 q1 q2
 simp[results,h2,h3,go_sem,q0,q1,q2]
def EO (w:World)(g:Nat)(k l:Int)(v:ByteArray):World:=((w.setCell ⟨g,0,none⟩ (.int .i64 k)).setCell ⟨g,1,none⟩ (.int .i64 l)).setCell ⟨g,2,none⟩ (.string v)
theorem fJ {w:World}{g:Nat}{a b c:Value}(f:F)(h:Holds w g 209 #[a,b,c]):Holds (EO w g f.k f.l f.v) g 209 (fcs f).toArray:=by
 simpa[EO] using ((h.set 0 (.int .i64 f.k)).set 1 (.int .i64 f.l)).set 2 (.string f.v)
theorem aw {w w':World}{S:List Nat}(h:Fr S w w'){p:Addr}(hp:w.heap.size<=p.block)(u:Value):Fr S w (w'.setCell p u):=Ev.Fr.aw h hp u
theorem jI {w0 w:World}{g:Nat}{k l:Int}{v:ByteArray}{S:List Nat}(h:Fr S w0 w)(hg:w0.heap.size<=g):Fr S w0 (EO w g k l v):=aw (aw (aw h hg _) hg _) hg _
theorem iN (f:F)(w:World)(h:iu f)(hv:Val f)(hG:Sh.Gl w) :
  cA 330 #[.agg (fcs f).toArray] w (.tuple #[.agg (fcs f).toArray,.int .i64 0]):=by
 have HL:=hid (λW=>km f.k f.l W h.k1 h.k6 h.l3)
 have HK:=hid (λW=>nP f.k W h.k1 h.k6)
 have hkT:=h.head.2.2.2
 obtain⟨W,hW⟩:∃ W,W=(w.alloc (.cells (fcs f).toArray 209)).alloc (.cells #[.int .i64 0,.int .i64 0,.string ⟨#[]⟩] 209):=⟨_,rfl⟩
 have f0:Fr [] w W:=by rw[hW];exact(rZ.alloc _).alloc _
 have b1:Holds W w.heap.size 209 (fcs f).toArray:=by rw[hW];exact(Holds.new _ _ _).alloc _
 have b2:Holds W (w.heap.size+1) 209 #[.int .i64 0,.int .i64 0,.string ⟨#[]⟩]:=by rw[hW];exact aE (by simp)
 rw[show lR f.k f.l=lT f.l by rw[lR,h.lab];rfl,h.lab] at HL
 have hne:(kT f.k).toList.isEmpty=false:=by
  rw[Lib.toList_data]
  cases e:(kT f.k).data.toList with
  | cons=>rfl
  | nil =>
   have h1:(kT f.k).data.toList.length=(kT f.k).size:=by simp
   rw[e,List.length_nil] at h1
   omega
 clear hkT h
 obtain⟨fk,fl,fv⟩:=f
 have HV:Hid (∀ W,Fr [] w W->Calls prog (if fk=3 then 351 else if fk=4 then 352 else 353) #[.string fv] W λe w'=>e = .returned (.tuple #[.string fv,.int .i64 0])/\Fr [] W w'):=by
  cases hv with
  | clean k l v hk n =>
   rw[if_neg (by omega),if_neg (by omega)]
   exact hid (λW f=>dF fv W n (hG.fr0 f))
  | tel l v d h=>exact hid (λW f=>yZ fv d W h (hG.fr0 f))
  | mail l s a b L h=>exact hid (λW f=>vA fv a b L W h (hG.fr0 f))
  | day l v n h=>exact hid (λW f=>dF fv W n (hG.fr0 f))
 have HD:Hid (fk=5->∀ W,Fr [] w W->Calls prog 354 #[.string fv] W λe w'=>(∃ v,e = .returned (.tuple #[v,.int .i64 0]))/\Fr [] W w'):=by
  cases hv with
  | clean k l v hk n=>exact hid λe=>by omega
  | tel=>exact hid λe=>by omega
  | mail=>exact hid λe=>by omega
  | day l v n h=>exact hid (λ_ W f=>xV fv W h (hG.fr0 f))
 have hk:fk=3∨fk=4∨fk=5∨fk=1∨fk=2∨fk=6:=by
  cases hv<;>omega
 simp only at HL HK b1 b2 hW hne
 clear hv hG
 have q0:=b1.cell 0
 have q1:=b1.cell 1
 have q2:=b1.cell 2
 simp at q0 q1 q2
 obtain⟨T,hT⟩:∃ T,kT fk=T:=⟨_,rfl⟩
 rw[hT] at HK hne
 clear hT
 rcases hk with rfl|rfl|rfl|rfl|rfl|rfl
 all_goals
  simp only[Nat.reduceEqDiff,if_true,if_false] at HV
  go_enter func330,ntmps330
  go_wp2_with fail
  rw[<-hW]
  clear hW
  refine(HL W).mono ?_
  rintro e w' ⟨rfl,rfl⟩
  go_wp2_with fail
  refine(HK W).mono ?_
  rintro e w' ⟨rfl,rfl⟩
  go_wp2_with fail
  refine uu (HV.out W f0) λw2 f2=>?_
  have F2:=hid (f0.trans f2)
  have c1:=b1.fr f2 (by simp)
  have c2:=b2.fr f2 (by simp)
  clear q0 q1 q2 b1 b2 f2
  have q0:=c1.cell 0
  have q1:=c1.cell 1
  have q2:=c1.cell 2
  have z2:=c1.frozen 2
  have d0:=c2.cell 0
  have d1:=c2.cell 1
  have d2:=c2.cell 2
  have y0:=c2.frozen 0
  have y1:=c2.frozen 1
  have y2:=c2.frozen 2
  have l1:=c1.lt
  have l2:=c2.lt
  simp at q0 q1 q2 d0 d1 d2
  first
   | (go_wp2_with fail
      exact bodyPost_ret (iB _ _ (w.heap.size+1) ⟨_,fl,fv⟩ _ (fJ ⟨_,fl,fv⟩ (c2.far (by simp) _)) rfl rfl) rfl ⟨rfl,jI (aw F2.out (Nat.le_refl _) _) (by omega)⟩)
   | (go_wp2_with fail
      refine(HD.out (by first|rfl|trivial) _ F2).mono ?_
      rintro e w3 ⟨⟨vd,rfl⟩,f3⟩
      have F3:=hid (F2.trans f3)
      have c1:=c1.fr f3 (by simp)
      have c2:=c2.fr f3 (by simp)
      clear q0 q1 q2 d0 d1 d2 y0 y1 y2 z2 l1 l2 f3
      have q0:=c1.cell 0
      have q1:=c1.cell 1
      have q2:=c1.cell 2
      have z2:=c1.frozen 2
      have d0:=c2.cell 0
      have d1:=c2.cell 1
      have d2:=c2.cell 2
      have y0:=c2.frozen 0
      have y1:=c2.frozen 1
      have y2:=c2.frozen 2
      have l1:=c1.lt
      have l2:=c2.lt
      simp at q0 q1 q2 d0 d1 d2
      go_wp2_with fail
      exact bodyPost_ret (iB _ _ (w.heap.size+1) ⟨5,fl,fv⟩ _ (fJ ⟨5,fl,fv⟩ (c2.far (by simp) _)) rfl rfl) rfl ⟨rfl,jI (aw F3.out (Nat.le_refl _) _) (by omega)⟩)
open Go.RowKit Fm Ct
theorem lD (W:World)(tmps:Array Value)(g:Nat)(f:F)(vb:Value)(hp:Holds W g 209 (fcs f).toArray)(h2:tmps[2]?.getD undef = .pointer (some ⟨g,0,none⟩))(h3:tmps[3]?.getD undef=vb) :
  (results f264 tmps).run prog W = .ok (.tuple #[.agg (fcs f).toArray,vb]) W:=by
 have hr:f264.results=#[.cell 2 209,.tmp 3]:=rfl
 have q0:=hp.cell 0
 have q1:=hp.cell 1
 have q2:=hp.cell 2
 simp at q0 q1 q2
 simp[results,h2,h3,go_sem,q0,q1,q2]
theorem dN (f:F)(w:World)(h:iu f)(hv:Val f)(hG:Sh.Gl w) :
  cA 329 #[.agg (fcs f).toArray] w (.bool true):=by
 obtain⟨W,hW⟩:∃ W,W=w.alloc (.cells (fcs f).toArray 209):=⟨_,rfl⟩
 have f0:Fr [] w W:=by rw[hW];exact rZ.alloc _
 have b1:Holds W w.heap.size 209 (fcs f).toArray:=by rw[hW];exact Holds.new _ _ _
 have HC:=hid (iN f W h hv (hG.fr0 f0))
 clear h hv hG
 obtain⟨fk,fl,fv⟩:=f
 have q0:=b1.cell 0
 have q1:=b1.cell 1
 have q2:=b1.cell 2
 simp at q0 q1 q2
 go_enter func329,ntmps329
 go_wp2_with fail
 rw[<-hW]
 clear hW
 go_wp2_with fail
 refine uu HC λw2 f2=>?_
 have c1:=b1.fr f2 (by simp)
 clear q0 q1 q2
 have q0:=c1.cell 0
 have q1:=c1.cell 1
 have q2:=c1.cell 2
 have l1:=c1.lt
 simp at q0 q1 q2
 go_wp2_with fail
 go_ret
 exact⟨rfl,(f0.trans f2).trans (rZ.alloc _)⟩
theorem pY:∀ l:Fin 4,(lT l.val).size<=5:=by decide +kernel
theorem mL:∀ k:Fin 7,(kT k.val).size<=4:=by decide +kernel
theorem kN (f:F)(w:World)(h:iu f)(hv:Val f)(hG:Sh.Gl w) :
  cA 303 #[.agg (fcs f).toArray] w (.string (aL f)):=by
 obtain⟨W,hW⟩:∃ W,W=w.alloc (.cells (fcs f).toArray 209):=⟨_,rfl⟩
 have f0:Fr [] w W:=by rw[hW];exact rZ.alloc _
 have b1:Holds W w.heap.size 209 (fcs f).toArray:=by rw[hW];exact Holds.new _ _ _
 have HC:=hid (dN f W h hv (hG.fr0 f0))
 have HL:=hid (λW=>km f.k f.l W h.k1 h.k6 h.l3)
 have HK:=hid (λW=>nP f.k W h.k1 h.k6)
 rw[show lR f.k f.l=lT f.l by rw[lR,h.lab];rfl,h.lab] at HL
 have hz:=h.s2
 have hzk:(kT f.k).size<=4:=mL ⟨f.k,by have:=h.k6;omega⟩
 have hzl:(lT f.l).size<=5:=pY ⟨f.l,by have:=h.l3;omega⟩
 have hline:kT f.k++lT f.l++⟨#[58]⟩++f.v=aL f:=rfl
 have HN:=hid hline
 clear h hv hG hline
 obtain⟨s,hs⟩:∃ s,aL f=s:=⟨_,rfl⟩
 rw[hs] at HN ⊢
 clear hs
 obtain⟨fk,fl,fv⟩:=f
 simp only at HL HK hz hzk hzl HN
 obtain⟨T,hT⟩:∃ T,kT fk=T:=⟨_,rfl⟩
 obtain⟨L,hL⟩:∃ L,lT fl=L:=⟨_,rfl⟩
 rw[hT] at HK hzk HN
 rw[hL] at HL hzl HN
 clear hT hL
 have q0:=b1.cell 0
 have q1:=b1.cell 1
 have q2:=b1.cell 2
 simp at q0 q1 q2
 go_enter func303,ntmps303
 go_wp2_with fail
 rw[<-hW]
 clear hW
 go_wp2_with fail
 refine uu HC λw2 f2=>?_
 have c1:=b1.fr f2 (by simp)
 clear q0 q1 q2
 have q0:=c1.cell 0
 have q1:=c1.cell 1
 have q2:=c1.cell 2
 simp at q0 q1 q2
 go_wp2_with fail
 refine(HL w2).mono ?_
 rintro e w3 ⟨rfl,rfl⟩
 go_wp2_with fail
 go_quiet ((go_at_call 302;exact bB (HK _)))
 go_wp2_with fail
 go_ret
 exact⟨mI HN,(f0.trans f2).drewN _⟩
theorem Dx:∀ k:Fin 7,∀ l:Fin 4,(lR k.val l.val).size<=5:=by decide +kernel
theorem E6:∀ k:Fin 7,∀ l:Fin 4,∀ k':Fin 7,∀ l':Fin 4,1<=k.val->1<=k'.val->lab k'.val l'.val=true->kT k'.val++lR k'.val l'.val=cP k.val l.val->k'=k/\l'=l:=by decide +kernel
theorem E7 {f:F}(h:iu f){k l:Nat}(h1:1<=k)(h6:k<=6)(h3:l<=3)(hl:lab k l=true)(e:kT k++lR k l=cP f.k f.l):k=f.k/\l=f.l:=by
 have:=E6 ⟨f.k,by have:=h.k6;omega⟩ ⟨f.l,by have:=h.l3;omega⟩ ⟨k,by omega⟩ ⟨l,by omega⟩ h.k1 h1 hl e
 simpa using this
theorem oX {a b:ByteArray}(h:a≠b):(a.toList==b.toList)=false:=by
 rw[Lib.toList_data,Lib.toList_data]
 have:a.data.toList≠b.data.toList:=λe=>h (gC e)
 simpa using this
theorem lI (f:F)(w:World)(h:iu f)(hv:Val f)(hG:Sh.Gl w) :
  cA 264 #[.string (aL f)] w (.tuple #[.agg (fcs f).toArray,.int .i64 0]):=by
 obtain⟨W,hW⟩:∃ W,W=w.alloc (.cells #[.int .i64 0,.int .i64 0,.string ⟨#[]⟩] 209):=⟨_,rfl⟩
 have f0:Fr [] w W:=by rw[hW];exact rZ.alloc _
 have b1:Holds W w.heap.size 209 #[.int .i64 0,.int .i64 0,.string ⟨#[]⟩]:=by rw[hW];exact Holds.new _ _ _
 have hls:=h.size
 have hh:=h.head
 have hz:=h.s2
 have hz1:=h.s1
 have HC:=hid (λW=>qv (aL f) ⟨#[58]⟩ (cP f.k f.l) f.v W rfl (ie f) hh.1 (by omega) (by omega))
 have HL:=hid (λW (g:Fr [] w W)=>kN f W h hv (hG.fr0 g))
 have HKL:=hid (λW k l (h1:1<=k) (h6:k<=6) (h3:l<=3)=>km k l W h1 h6 h3)
 have HK:=hid (λW k (h1:1<=k) (h6:k<=6)=>nP k W h1 h6)
 have HA:=hid (λk l (h1:1<=k) (h6:k<=6) (h3:l<=3)=>E7 h (k:=k) (l:=l) h1 h6 h3)
 have HB:=hid (show lab f.k f.l=true/\kT f.k++lR f.k f.l=cP f.k f.l from ⟨h.lab,by rw[lR,h.lab];rfl⟩)
 have k1:=h.k1
 have k6:=h.k6
 have l3:=h.l3
 clear h hv hG hls hh hz hz1
 obtain⟨fk,fl,fv⟩:=f
 simp only at HC HL HA HB k1 k6 l3 ⊢
 obtain⟨H,hH⟩:∃ H,cP fk fl=H:=⟨_,rfl⟩
 obtain⟨s,hs⟩:∃ s,aL ⟨fk,fl,fv⟩=s:=⟨_,rfl⟩
 rw[hH] at HC HA HB
 rw[hs] at HC HL ⊢
 clear hH hs
 have F0:=hid f0
 have B1:=hid b1
 clear f0 b1
 go_enter func264,ntmps264
 go_wp2_with fail
 rw[<-hW]
 clear hW
 refine uu (HC W) λw2 f2=>?_
 have F2:=hid (F0.trans f2)
 have C1:=hid (B1.fr f2 (by simp))
 clear f2
 go_wp2_with fail
 go_loop [7] (λi=>∃ k:Nat,1<=k/\k<=fk/\i = .int .i64 k) (λi=>6 - (intOf i).toNat)
 case atStart=>exact⟨1,Nat.le_refl _,k1,rfl⟩
 obtain⟨k,hk1,hkf,rfl⟩:=hrel
 have hk6:(k:Int)<=6:=by omega
 go_wp2_with fail
 go_loop [8] (λi=>∃ l:Nat,l<=4/\(k=fk->l<=fl)/\i = .int .i64 l) (λi=>4 - (intOf i).toNat)
 case atStart=>exact⟨0,by omega,λ_=>Nat.zero_le _,rfl⟩
 obtain⟨l,hl4,hlf,rfl⟩:=hrel
 by_cases hl:l=4
 ·subst hl
  have hkn:k≠fk:=λe=>by have:=hlf e;omega
  have h43:¬ ((4:Nat):Int)<=3:=by omega
  clear hlf
  go_wp2_with fail
  go_round
  case rel=>exact⟨k+1,by omega,by omega,by go_num⟩
  simp[intOf];omega
 have hl3:(l:Int)<=3:=by omega
 have HA1:=hid (HA.out k l hk1 (by omega) (by omega))
 have HLF:=hid hlf
 have hzk:(kT k).size<=4:=mL ⟨k,by omega⟩
 have hzl:(lR k l).size<=5:=Dx ⟨k,by omega⟩ ⟨l,by omega⟩
 clear hlf
 go_wp2_with fail
 refine(HKL.out _ k l hk1 (by omega) (by omega)).mono ?_
 rintro e w' ⟨rfl,rfl⟩
 obtain⟨ok,hok⟩:∃ b,lab k l=b:=⟨_,rfl⟩
 have HOK:=hid hok
 rw[hok] at HA1 ⊢
 cases ok
 ·clear hok
  go_wp2_with fail
  go_round
  case rel =>
   refine⟨l+1,by omega,λe=>?_,by go_num⟩
   have h1:=HLF.out e
   have h2:l≠fl:=λe2=>by
    have h3:=HOK.out
    rw[e,e2,HB.1] at h3
    cases h3
   omega
  simp[intOf];omega
 clear hok
 go_wp2_with fail
 refine(HK.out _ k hk1 (by omega)).mono ?_
 rintro e w' ⟨rfl,rfl⟩
 by_cases he:kT k++lR k l=H
 ·obtain⟨rfl,rfl⟩:=HA1.out (by first|rfl|trivial) he
  go_wp2_with fail
  refine uu (HL _ (F2.alloc _)) λw3 f3=>?_
  have b2:=Holds.new w2 209 #[.int .i64 k,.int .i64 l,.string fv]
  have c2:=b2.fr f3 (by simp)
  have c3:=C1.fr (((Fr.refl [] w2).alloc _).trans f3) (by simp)
  have F3:=hid ((F2.alloc _).trans f3)
  have C3:=hid c3
  have d0:=c2.cell 0
  have d1:=c2.cell 1
  have d2:=c2.cell 2
  have e0:=c3.cell 0
  have e1:=c3.cell 1
  have e2:=c3.cell 2
  have y0:=c3.frozen 0
  have y1:=c3.frozen 1
  have y2:=c3.frozen 2
  have l3:=c3.lt
  simp at d0 d1 d2 e0 e1 e2
  clear b2 c2 c3 f3
  go_wp2_with fail
  exact bodyPost_ret (lD _ _ w.heap.size ⟨k,l,fv⟩ _ (fJ ⟨k,l,fv⟩ C3) rfl rfl) rfl ⟨rfl,jI F3 (Nat.le_refl _)⟩
 have hne:=oX he
 go_wp2_with fail
 go_round
 case rel =>
  refine⟨l+1,by omega,λe=>?_,by go_num⟩
  have h1:=HLF.out e
  have h2:l≠fl:=λe2=>he (by rw[e,e2];exact HB.2)
  omega
 simp[intOf];omega
end Fd
