/- Walks. -/
import Derived.Test.YtocppjcocnckmaaGreatDoorM50
import Derived.Laws.BitsLemmas
import Derived.BigRegion
import Derived.Deep.RegionHeld3
import Derived.Deep.CutRange
set_option maxRecDepth 100000
set_option maxHeartbeats 8000000
set_option linter.all false
open Go.Lib (hid)
namespace Go.Proofs.YtocppjcocnckmaaGreatDoor
open Go.Proofs.Tryz
namespace Tp
open Go.RowKit Cr Sv Pr
theorem DV (w:World)(a b c d:Int):Calls prog 28 #[.agg #[.int .i64 a,.int .i64 b,.int .i64 c,.int .i64 d]] w λe w'=>(∃ r,e = .returned (.int .i64 r)/\(r=0->1<=a/\a<=8/\1<=b/\b<=16/\1<=c/\c<=1048576/\1<=d/\d<=64))/\Fr [] w w':=by
 have f:Fr [] w (w.alloc (.cells #[.int .i64 a,.int .i64 b,.int .i64 c,.int .i64 d] 23)):=rZ.alloc _
 have HF:=hid f
 clear f
 go_enter func28,ntmps28
 go_upto_region 1 with fail
 by_cases c1:a<1
 ·go_wp2_with fail;go_ret;exact⟨⟨_,rfl,λh=>by cases h⟩,HF⟩
 by_cases c2:8<a
 ·go_wp2_with fail;go_ret;exact⟨⟨_,rfl,λh=>by cases h⟩,HF⟩
 by_cases c3:b<1
 ·go_wp2_with fail;go_ret;exact⟨⟨_,rfl,λh=>by cases h⟩,HF⟩
 by_cases c4:16<b
 ·go_wp2_with fail;go_ret;exact⟨⟨_,rfl,λh=>by cases h⟩,HF⟩
 by_cases c5:c<1
 ·go_wp2_with fail;go_ret;exact⟨⟨_,rfl,λh=>by cases h⟩,HF⟩
 by_cases c6:1048576<c
 ·go_wp2_with fail;go_ret;exact⟨⟨_,rfl,λh=>by cases h⟩,HF⟩
 by_cases c7:d<1
 ·go_wp2_with fail;go_ret;exact⟨⟨_,rfl,λh=>by cases h⟩,HF⟩
 by_cases c8:64<d
 ·go_wp2_with fail;go_ret;exact⟨⟨_,rfl,λh=>by cases h⟩,HF⟩
 go_wp2_with fail
 go_ret
 exact⟨⟨_,rfl⟩,HF⟩
theorem DX (w:World)(c:M.Cfg):Calls prog 13 #[.agg (cellsOf c)] w λe w'=>(∃ r,e = .returned (.int .i64 r)/\(r=0->4<=c.ag->c.start<=M.aW->c.Ok))/\Fr [] w w':=by
 obtain⟨n,s,r,h,a,b,d,l⟩:=c
 simp only[cellsOf]
 obtain⟨w0,hw0⟩:∃ W,W=w.alloc (.cells #[.int .i64 n,.int .i64 s,.int .i64 r,.int .i64 h,.int .i64 a,.int .i64 b,.int .i64 d,.int .i64 l] 25):=⟨_,rfl⟩
 have f:Fr [] w w0:=by rw[hw0];exact rZ.alloc _
 obtain⟨z,hz⟩:∃ z,w.heap.size=z:=⟨_,rfl⟩
 have hb:Holds w0 z 25 #[.int .i64 n,.int .i64 s,.int .i64 r,.int .i64 h,.int .i64 a,.int .i64 b,.int .i64 d,.int .i64 l]:=by rw[hw0,<-hz];exact Holds.new _ _ _
 obtain⟨k0,k1,k2,k3,k4,k5,k6,k7⟩:=hb.cs8
 have kl:=hb.lt
 simp at k0 k1 k2 k3 k4 k5 k6 k7
 have HF:=hid f
 clear f hb
 go_enter func13,ntmps13
 go_upto_region 1 with fail
 rw[<-hw0]
 try simp only[hz]
 clear hw0
 by_cases c1:n<1
 ·go_wp2_with fail;go_ret;exact⟨⟨_,rfl,λh=>by cases h⟩,HF⟩
 by_cases c2:12<n
 ·go_wp2_with fail;go_ret;exact⟨⟨_,rfl,λh=>by cases h⟩,HF⟩
 by_cases c3:s<0
 ·go_wp2_with fail;go_ret;exact⟨⟨_,rfl,λh=>by cases h⟩,HF⟩
 by_cases c4:r<20006
 ·go_wp2_with fail;go_ret;exact⟨⟨_,rfl,λh=>by cases h⟩,HF⟩
 by_cases c5:40000<r
 ·go_wp2_with fail;go_ret;exact⟨⟨_,rfl,λh=>by cases h⟩,HF⟩
 by_cases c6:h<1
 ·go_wp2_with fail;go_ret;exact⟨⟨_,rfl,λh=>by cases h⟩,HF⟩
 by_cases c7:16<h
 ·go_wp2_with fail;go_ret;exact⟨⟨_,rfl,λh=>by cases h⟩,HF⟩
 go_wp2_with fail
 refine(DV _ a b d l).mono ?_
 rintro e w1 ⟨⟨q,rfl,hq⟩,f1⟩
 have HQ:=hid hq
 clear hq
 go_wp2_with fail
 go_ret
 refine⟨⟨_,rfl,λh0 h4 hs=>?_⟩,HF.trans f1⟩
 obtain⟨a0,a1,b0,b1,d0,d1,l0,l1⟩:=HQ.out h0
 exact⟨h4,by simp only;omega,by simp only;omega,hs,by simp only;omega,by simp only;omega,by simp only;omega,by simp only;omega,a0,a1,b0,b1,d0,d1,l0,l1⟩
theorem dN (w:World)(c:M.Cfg):Calls prog 5 #[.agg (cellsOf c)] w λe w'=>(∃ b,e = .returned (.bool b)/\(b=true->4<=c.ag->c.start<=M.aW->c.Ok))/\Fr [] w w':=by
 have HC:=hid (λW=>DX W c)
 have HO:=hid (show True from trivial)
 simp only[cellsOf] at HC ⊢
 go_enter func5,ntmps5
 go_wp2_with fail
 refine(HC _).mono ?_
 rintro e w1 ⟨⟨q,rfl,hq⟩,f1⟩
 have HQ:=hid hq
 clear hq
 go_wp2_with fail
 go_ret
 exact⟨⟨_,rfl,λh=>HQ (by simpa using h)⟩,(rZ.alloc _).trans f1⟩
theorem wB (x y:Int):bits .and .i64 x y=IntKind.i64.wrap ((BitVec.ofInt 64 x &&& BitVec.ofInt 64 y).toNat:Int):=rfl
theorem lf (x:Int)(i:Nat)(hi:i<=32):bits .and .i64 x (2 ^ i - 1)=x % 2 ^ i:=by
 have hp:0<2 ^ i:=Nat.two_pow_pos i
 have hq:2 ^ i<=2 ^ 32:=Nat.pow_le_pow_right (by decide) hi
 have hc:((2:Int) ^ i - 1)=((2 ^ i - 1:Nat):Int):=by rw[Int.natCast_sub hp];simp
 have hm:(2 ^ i - 1) % 2 ^ 64=2 ^ i - 1:=Nat.mod_eq_of_lt (by omega)
 have hx:(BitVec.ofInt 64 x).toNat % 2 ^ i=(x % 2 ^ i).toNat:=by
  have h1:((BitVec.ofInt 64 x).toNat:Int)=x % 18446744073709551616:=by simp[BitVec.toNat_ofInt];omega
  have h2:(((BitVec.ofInt 64 x).toNat % 2 ^ i:Nat):Int)=x % 2 ^ i:=by
   rw[Int.natCast_emod,h1]
   have:((2 ^ i:Nat):Int) ∣ 18446744073709551616:=by
    have h3:(2:Nat) ^ i ∣ 2 ^ 64:=Nat.pow_dvd_pow 2 (by omega)
    exact Int.natCast_dvd_natCast.2 h3
   rw[Int.emod_emod_of_dvd _ this]
   simp
  omega
 rw[hc,wB,BitVec.ofInt_natCast,BitVec.toNat_and,BitVec.toNat_ofNat,hm,Nat.and_two_pow_sub_one_eq_mod,hx]
 have h0:0<=x % 2 ^ i:=Int.emod_nonneg _ (by have:(0:Int)<2 ^ i:=(by exact_mod_cast hp);omega)
 have h1:x % 2 ^ i<2 ^ i:=Int.emod_lt_of_pos _ (by exact_mod_cast hp)
 have h2:(2:Int) ^ i<=2 ^ 32:=by exact_mod_cast hq
 rw[Int.toNat_of_nonneg h0]
 exact IntWalk.i64_in _ (by omega)
theorem nat_bit (n i:Nat):n &&& 2 ^ i=if n / 2 ^ i % 2=1 then 2 ^ i else 0:=by
 apply Nat.eq_of_testBit_eq
 intro j
 rw[Nat.testBit_and,Nat.testBit_two_pow]
 by_cases h:i=j
 ·subst h
  by_cases h1:n / 2 ^ i % 2=1
  ·rw[if_pos h1,Nat.testBit_eq_decide_div_mod_eq,Nat.testBit_two_pow]
   simp[h1]
  rw[if_neg h1,Nat.testBit_eq_decide_div_mod_eq]
  simp[h1]
 split<;>simp[Nat.testBit_two_pow,h]
theorem wF (x:Int)(i:Nat)(hi:i<=32):bits .and .i64 x (2 ^ i)=if x / 2 ^ i % 2=1 then 2 ^ i else 0:=by
 have hp:0<2 ^ i:=Nat.two_pow_pos i
 have hq:2 ^ i<=2 ^ 32:=Nat.pow_le_pow_right (by decide) hi
 have hm:(2 ^ i) % 2 ^ 64=2 ^ i:=Nat.mod_eq_of_lt (by omega)
 have hc:(2:Int) ^ i=((2 ^ i:Nat):Int):=by simp
 have h1:((BitVec.ofInt 64 x).toNat:Int)=x % 18446744073709551616:=by simp[BitVec.toNat_ofInt];omega
 have ht:((BitVec.ofInt 64 x).toNat / 2 ^ i % 2=1) ↔ (x / 2 ^ i % 2=1):=by
  have h2:(((BitVec.ofInt 64 x).toNat / 2 ^ i % 2:Nat):Int)=x / 2 ^ i % 2:=by
   rw[Int.natCast_emod,Int.natCast_ediv,h1,<-hc]
   obtain⟨j,hj⟩:∃ j,64=i+1+j:=⟨63 - i,by omega⟩
   have e:(18446744073709551616:Int)=2 ^ i*(2*2 ^ j):=by
    rw[show (18446744073709551616:Int)=2 ^ 64 by decide,hj,Int.pow_add,Int.pow_succ,Int.mul_assoc]
   have hp':(0:Int)<2 ^ i:=by rw[hc];exact_mod_cast hp
   have e2:x % 18446744073709551616=x+2 ^ i*(-(2*2 ^ j*(x / 18446744073709551616))):=by
    rw[Int.emod_def]
    conv=>lhs;rw[e]
    rw[<-e,Int.mul_neg,<-Int.mul_assoc,<-e]
    omega
   rw[e2,Int.add_mul_ediv_left _ _ (Int.ne_of_gt hp')]
   rw[show -(2*2 ^ j*(x / 18446744073709551616))=2*-(2 ^ j*(x / 18446744073709551616)) by rw[Int.mul_assoc,Int.mul_neg]]
   simp
  omega
 rw[hc,wB,BitVec.ofInt_natCast,BitVec.toNat_and,BitVec.toNat_ofNat,hm,nat_bit]
 by_cases h:(BitVec.ofInt 64 x).toNat / 2 ^ i % 2=1
 ·rw[<-hc,if_pos (ht.1 h),if_pos h,<-hc]
  exact IntWalk.i64_in _ (by have:(2:Int) ^ i<=2 ^ 32:=(by exact_mod_cast hq);have:(0:Int)<2 ^ i:=(by exact_mod_cast hp);omega)
 rw[<-hc,if_neg (λh'=>h (ht.2 h')),if_neg h]
 rfl
theorem umod (x:Int):(IntKind.u64.wrap x).tmod 4=x % 4:=by
 have:IntKind.u64.wrap x=x % 18446744073709551616:=by simp[IntKind.wrap,IntKind.bits,IntKind.signed]
 rw[this,Int.tmod_eq_emod_of_nonneg (by omega)]
 omega
theorem Ce (w:World)(x:Int)(h0:0<=x)(h8:x<8):cA 7 #[.int .i64 x] w (.string (M.eN x.toNat)):=by
 have e1:bits .and .i64 x 65535=x:=by rw[show (65535:Int)=2 ^ 16 - 1 by decide,lf x 16 (by decide)];omega
 have hx:x=0∨x=1∨x=2∨x=3∨x=4∨x=5∨x=6∨x=7:=by omega
 obtain⟨y,hy⟩:∃ y:Nat,x.tmod 5=y/\y<5/\M.eN x.toNat=M.eN y:=by
  rcases hx with rfl|rfl|rfl|rfl|rfl|rfl|rfl|rfl
  ·exact⟨0,rfl,by decide,rfl⟩
  ·exact⟨1,rfl,by decide,rfl⟩
  ·exact⟨2,rfl,by decide,rfl⟩
  ·exact⟨3,rfl,by decide,rfl⟩
  ·exact⟨4,rfl,by decide,rfl⟩
  ·exact⟨0,rfl,by decide,rfl⟩
  ·exact⟨1,rfl,by decide,rfl⟩
  exact⟨2,rfl,by decide,rfl⟩
 obtain⟨e2,y5,e3⟩:=hy
 rw[e3]
 clear e3 hx h0 h8
 go_enter func7,ntmps7
 go_upto_region 2 with fail
 generalize hW:w.alloc _=W
 have hS:=(show Holds W w.heap.size 9 _ by rw[<-hW];exact Holds.new _ _ _)
 have f:Fr [] w W:=by rw[<-hW];exact rZ.alloc _
 have c:W.cell? ⟨w.heap.size,y,none⟩=some (.string (M.eN y)):=by
  refine(hS.cell y).trans ?_
  rcases (by omega:y=0∨y=1∨y=2∨y=3∨y=4) with rfl|rfl|rfl|rfl|rfl<;>kernel_rfl
 have hl:=hS.lt
 have HF:=hid f
 have hy5:(y:Int)<5:=by omega
 clear hS f hW
 generalize w.heap.size=z at *
 obtain⟨cy,hcy⟩:∃ cy,M.eN y=cy:=⟨_,rfl⟩
 rw[hcy] at c
 have HCY:=hid hcy
 clear hcy
 go_wp2_with fail
 go_ret
 exact⟨by rw[HCY];rfl,HF⟩
theorem An (W:World)(tmps:Array Value)(g:Nat)(a b c d:Value)(hp:Holds W g 49 #[a,b,c,d])(h6:tmps[6]?.getD undef = .pointer (some ⟨g,0,none⟩))(h7:tmps[7]?.getD undef = .bool true) :
  (results f8 tmps).run prog W = .ok (.tuple #[.agg #[a,b,c,d],.bool true]) W:=by
 have hr:f8.results=#[.cell 6 49,.tmp 7]:=rfl
 have q0:=hp.cell 0
 have q1:=hp.cell 1
 have q2:=hp.cell 2
 have q3:=hp.cell 3
 simp at q0 q1 q2 q3
 simp[results,h6,h7,go_sem,q0,q1,q2,q3]
theorem Bs (w:World)(c:M.Cfg)(O:c.Ok)(A:List M.Ac)(vl:Value)(Bl n t:Nat)(hl:Own w Bl 31 4 vl A.length (flat acs A))(hG:Sh.Gl w)(hA:A.length<=1000)(ht:t<=200)(hfit:M.Fits c.ag (M.s0 c) A)(hn:((M.s0 c).cR A).ag.length=n)(h0:0<n)(h12:n<=12)
  (hr:∀ j,j<t->M.mP n (M.bk n ((M.s0 c).cR A,List.replicate n []) j)) (he:(M.bk n ((M.s0 c).cR A,List.replicate n []) t).1.events.length<=4000) :
  Calls prog 8 #[.agg (cellsOf c),vl,.int .i64 t] w λe w'=>∃ vO vS vD ae ne ce,e = .returned (.tuple #[.agg #[vO,vS,vD,.slice ae ne ce],.bool true])/\vO.oneCell'=true/\vS.oneCell'=true/\vD.oneCell'=true/\Ev.dz w' w.heap.size (.slice ae ne ce) (M.bk n ((M.s0 c).cR A,List.replicate n []) t).1.events/\Fr [] w w':=by
 obtain⟨Z,hZ⟩:∃ Z,w.heap.size=Z:=⟨_,rfl⟩
 have hnA:(n:Int)<=(A.length:Int):=by
  have:=kt (M.s0 c) A
  rw[hn] at this
  simp[M.s0] at this
  omega
 have HR:=hid (λW (f:Fr [] w W)=>vQ W c O A vl Bl n t (hl.fr0 f) (hG.fr0 f) hA ht hfit hn h0 h12 hr he)
 obtain⟨al,cl,hvl⟩:=hl.form
 subst hvl
 have HZ:=hid hZ
 rw[hZ]
 clear hl hG hfit hn hr he
 unfold cellsOf at *
 go_enter func8,ntmps8
 go_wp2_with fail
 refine(HR _ ((rZ.alloc _).alloc _)).mono ?_
 rintro e w1 ⟨vO,vS,vD,vE,xS,xD,rfl,hO,hS,hD,hev,f1⟩
 have B6:=hid (show Holds w1 (Z+1) 49 #[.slice none 0 0,.slice none 0 0,.slice none 0 0,.slice none 0 0] from Holds.fr (aE (by simp[hZ])) f1 (by simp))
 have F1:=hid (show Fr [] w w1 from ((rZ.alloc _).alloc _).trans f1)
 obtain⟨oa,oc,rfl⟩:=hO.form
 obtain⟨sa,sc,rfl⟩:=hS.form
 obtain⟨da,dc,rfl⟩:=hD.form
 obtain⟨ve,ne,ce,rfl⟩:∃ va vn vc,vE = .slice va vn vc:=by
  obtain⟨L,hL,ho,hat⟩:=hev.at_
  obtain⟨va,vc,h⟩:=ho.form
  exact⟨va,_,vc,h⟩
 have HEV:=hid (dz.down hev (show Z<=_ by rw[<-hZ];exact(((Fr.refl [] w).alloc _).alloc _).size))
 clear hO hS hD hev f1
 go_upto_region 2 with fail
 obtain⟨N1,hN1⟩:∃ N1,w1.heap.size=N1:=⟨_,rfl⟩
 have B8:=hid (show Holds (w1.alloc (.cells #[.slice oa n oc,.slice sa n sc,.slice da A.length dc,.slice ve ne ce] 49)) N1 49 #[.slice oa n oc,.slice sa n sc,.slice da A.length dc,.slice ve ne ce] from aE hN1)
 have fa:Fr [] w1 (w1.alloc (.cells #[.slice oa n oc,.slice sa n sc,.slice da A.length dc,.slice ve ne ce] 49)):=rZ.alloc _
 have B62:=hid (B6.fr fa (by simp))
 have FA:=hid fa
 try simp only[hN1]
 generalize w1.alloc (.cells #[.slice oa n oc,.slice sa n sc,.slice da A.length dc,.slice ve ne ce] 49)=W2 at *
 have t0:=B8.cell 0
 have t1:=B8.cell 1
 have t2:=B8.cell 2
 have t3:=B8.cell 3
 have tl:=B8.lt
 have v0:=B62.cell 0
 have v1:=B62.cell 1
 have v2:=B62.cell 2
 have v3:=B62.cell 3
 have z0:=B62.frozen 0
 have z1:=B62.frozen 1
 have z2:=B62.frozen 2
 have z3:=B62.frozen 3
 have vl:=B62.lt
 simp at t0 t1 t2 t3 v0 v1 v2 v3
 have n1:N1≠Z+1:=by have:=B6.lt;omega
 have n2:Z+1≠N1:=Ne.symm n1
 have HH:=hid hN1
 clear fa hN1
 go_region
 all_goals
  generalize hV:((((W2.setCell ⟨Z+1,0,none⟩ (.slice oa n oc)).setCell ⟨Z+1,1,none⟩ (.slice sa n sc)).setCell ⟨Z+1,2,none⟩ (.slice da A.length dc)).setCell ⟨Z+1,3,none⟩ (.slice ve ne ce)).drew=V
  have q4:Holds V (Z+1) 49 #[.slice oa n oc,.slice sa n sc,.slice da A.length dc,.slice ve ne ce]:=by rw[<-hV];exact Holds.drew (by simpa using (((B62.set 0 (.slice oa n oc)).set 1 (.slice sa n sc)).set 2 (.slice da A.length dc)).set 3 (.slice ve ne ce))
  have x4:Fr [Z+1] W2 V:=by rw[<-hV];exact(((((Fr.refl [Z+1] _).setCell (by simp) _).setCell (by simp) _).setCell (by simp) _).setCell (by simp) _).drew
  have x5:FrX Z [49] [] W2 V:=FrX.aB x4 (by simp) (λy hy=>⟨49,by simp,by simp at hy;subst hy;exact B62.ty⟩)
  clear hV
  go_wp2_with fail
  refine bodyPost_ret (An _ _ (Z+1) _ _ _ _ q4 rfl rfl) rfl ⟨_,_,_,_,_,_,rfl,rfl,rfl,rfl,(HEV.frx (FrX.aA (Ts:=[]) FA) (by simp) (by simp) (by simp)).frx x5 (by decide) (by decide) (by decide),Fr.fR (F1.trans FA.out) HZ.out x5⟩
theorem Bq:(prog.info? 31).map (λi=>(i.zero,i.size,i.bytes))=some (some (.agg #[.int .i64 0,.int .i64 0,.int .i64 0,.string ByteArray.empty]),4,40):=by kernel_rfl
theorem Dp (w:World):∃ w1,(Instr.makeSlice 29 (.int .i64 0) (.int .i64 300)).run prog w = .ok (.slice (some ⟨w.heap.size,0,none⟩) 0 300) w1/\Fr [] w w1/\Row w1 31 4 w.heap.size 0 300 []:=by
 obtain⟨i5,hi,hz0,hz1,hz2⟩:=info_parts Bq
 obtain⟨w1,hmk,hown,hgr⟩:=run_makeSlice_owned (P:=prog) w 0 29 31 i5 _ 4 underlying29 hi hz0 hz1 .i64 .i64 300 (by omega) (by rw[hz2];omega) (by unfold maxLen;omega) (Nat.zero_le _)
 refine⟨w1,hmk,Fr.iF hgr (λk hk=>by cases hk),?_⟩
 obtain⟨hx,⟨h0,_⟩|⟨g,c,cur,hv,hb,h1,h2,h3,h4,h5⟩⟩:=hown
 ·cases h0
 cases hv
 exact⟨cur,h1,h2,h3,h4,h5,hx⟩
theorem jW {w0 W W' w7:World}{Z m:Nat}{L Y:List M.Ac}{o v7:Value}{news:List Value}{own7:Option Nat}(h0:w0.heap.size=Z)(f0:Fr [] w0 W)(hown:Own W Z 31 4 o L.length (flat acs L))(f1:Fr [] W W')(hm0:m=Y.length)(h1:0<m)(hn:news=flat acs Y)
  (hs:Sl w7 31 4 v7 (L.length+m) (flat acs L++news) own7) (hf:Fr (ay o).toList W' w7) (ho:own7=ay o∨∃ g,own7=some g/\W'.heap.size<=g) (hm:0<m->∃ g,own7=some g) :
  Own w7 Z 31 4 v7 (L++Y).length (flat acs (L++Y))/\Fr [] w0 w7/\∀ {y t:Nat} {cs:Array Value},Holds W y t cs->t≠31->Holds w7 y t cs:=by
 have hB:Z<=W'.heap.size:=by rw[<-h0];exact(f0.trans f1).size
 have hown':=Own.fr0 hown f1
 have hb:∀ y,y∈(ay o).toList->cB W' y=some 31/\Z<=y:=λy hy=>hown'.ty (by simpa using hy)
 obtain⟨oo,-⟩:=bn (B:=Z) hB (λg hg=>(hown'.ty hg).2) hs ho (hm h1)
 have e:flat acs (L++Y)=flat acs L++flat acs Y:=aP L Y
 refine⟨by rw[e,<-hn,List.length_append,<-hm0];exact oo,(f0.trans f1).step hf (λy hy=>.inr (by rw[h0];exact(hb y hy).2)),λ{y t cs} h ht=>(h.fr f1 (by simp)).fr hf (λhm=>ht ?_)⟩
 have h2:=(hb y hm).1
 rw[(h.fr f1 (by simp)).ty] at h2
 exact Option.some.inj h2
theorem BE {α:Type}{f:α->List Value}(x y:α):flat f [x,y]=f x++f y:=by simp[flat]
theorem qJ (k:Nat)(q:M.Req):acs (.snd k [q])=[.int .i64 2,.int .i64 k,.int .i64 0,.string (En.bytesOf (En.bU q))]:=by simp[acs]
theorem ze (k:Nat)(h:k<4):M.en.take (2*k)++[.opn,.snd k [M.eh]]=M.en.take (2*(k+1)):=by
 rcases (by omega:k=0∨k=1∨k=2∨k=3) with rfl|rfl|rfl|rfl<;>rfl
structure GO (m:M.Move):Prop where
 k:(IntKind.u64.wrap m.conn).tmod 4=(m.k:Int)
 w:(IntKind.u64.wrap m.pF).tmod 4=(m.w:Int)
 k4:m.k<4
 w4:m.w<4
 a7:bits .and .i64 m.n 7=m.n % 8
 a15:bits .and .i64 m.n 15=m.n % 16
 a3:bits .and .i64 (m.n / 16) 3=m.n / 16 % 4
 b8:bits .and .i64 m.n 8=if m.n / 8 % 2=1 then 8 else 0
 b64:bits .and .i64 m.n 64=if m.n / 64 % 2=1 then 64 else 0
theorem nums (m:M.Move):GO m:=by
 refine⟨?_,?_,M.pU m,by unfold M.Move.w;omega,?_,?_,?_,?_,?_⟩
 ·rw[umod];unfold M.Move.k;omega
 ·rw[umod];unfold M.Move.w;omega
 ·have h:=lf m.n 3 (by decide)
  rwa [show (2:Int) ^ 3 - 1=7 by decide,show (2:Int) ^ 3=8 by decide] at h
 ·have h:=lf m.n 4 (by decide)
  rwa [show (2:Int) ^ 4 - 1=15 by decide,show (2:Int) ^ 4=16 by decide] at h
 ·have h:=lf (m.n / 16) 2 (by decide)
  rwa [show (2:Int) ^ 2 - 1=3 by decide,show (2:Int) ^ 2=4 by decide] at h
 ·have h:=wF m.n 3 (by decide)
  rwa [show (2:Int) ^ 3=8 by decide] at h
 have h:=wF m.n 6 (by decide)
 rwa [show (2:Int) ^ 6=64 by decide] at h
def Ey (w:World)(a:Option Addr)(mvs:List M.Move):Prop:=∀ (j:Nat) m,mvs[j]? = some m->∃ b o,a=some ⟨b,o,none⟩/\b<w.heap.size/\w.cell? ⟨b,o+j*3,none⟩=some (.int .i64 m.pF)/\w.cell? ⟨b,o+j*3+1,none⟩=some (.int .i64 m.conn)/\w.cell? ⟨b,o+j*3+2,none⟩=some (.int .i64 m.n)
def pQ (U:World)(p:Nat)(a0 a1 a2 a3 a4 a5 a6 a7 a8 a9 a10:Value):World:=((((((((((U.setCell ⟨p,0,none⟩ a0).setCell ⟨p,1,none⟩ a1).setCell ⟨p,2,none⟩ a2).setCell ⟨p,3,none⟩ a3).setCell ⟨p,4,none⟩ a4).setCell ⟨p,5,none⟩ a5).setCell ⟨p,6,none⟩ a6).setCell ⟨p,7,none⟩ a7).setCell ⟨p,8,none⟩ a8).setCell ⟨p,9,none⟩ a9).setCell ⟨p,10,none⟩ a10
structure Tq (w U:World)(Z p:Nat)(c:M.Cfg)(va:Value)(A:List M.Ac)(cs:Array Value):Prop where
 fr:Fr [] w U
 cf:Holds U Z 25 (cellsOf c)
 ac:Own U Z 31 4 va A.length (flat acs A)
 rq:Holds U p 37 cs
section
variable {w U V:World} {Z p:Nat} {c:M.Cfg} {va:Value} {A:List M.Ac} {cs:Array Value}
theorem Tq.fr0 (h:Tq w U Z p c va A cs)(f:Fr [] U V):Tq w V Z p c va A cs:=⟨h.fr.trans f,h.cf.fr f (by simp),h.ac.fr0 f,h.rq.fr f (by simp)⟩
theorem Tq.sto (h:Tq w U Z p c va A cs)(hp:w.heap.size<=p){V:World}{cs':Array Value}(f:Fr [p] U V)(hr:Holds V p 37 cs'):Tq w V Z p c va A cs' :=
 ⟨h.fr.step f (λy hy=>.inr (by simp at hy;omega)),h.cf.fr f (by simpa using h.cf.ne h.rq (by decide)),h.ac.fr f (λg hg hm=>by
  simp at hm
  subst hm
  have h1:=(h.ac.ty hg).1
  rw[h.rq.ty] at h1
  exact absurd (Option.some.inj h1) (by decide)),hr⟩
theorem pP (U:World)(p:Nat)(a0 a1 a2 a3 a4 a5 a6 a7 a8 a9 a10:Value):Fr [p] U (pQ U p a0 a1 a2 a3 a4 a5 a6 a7 a8 a9 a10):=((((((((((((Fr.refl [p] U).setCell (p:=⟨p,0,none⟩) (by simp) _).setCell (p:=⟨p,1,none⟩) (by simp) _).setCell (p:=⟨p,2,none⟩) (by simp) _).setCell (p:=⟨p,3,none⟩) (by simp) _).setCell (p:=⟨p,4,none⟩) (by simp) _).setCell (p:=⟨p,5,none⟩) (by simp) _).setCell (p:=⟨p,6,none⟩) (by simp) _).setCell (p:=⟨p,7,none⟩) (by simp) _).setCell (p:=⟨p,8,none⟩) (by simp) _).setCell (p:=⟨p,9,none⟩) (by simp) _).setCell (p:=⟨p,10,none⟩) (by simp) _)
theorem Tq.put {b0 b1 b2 b3 b4 b5 b6 b7 b8 b9 b10:Value}(h:Tq w U Z p c va A #[b0,b1,b2,b3,b4,b5,b6,b7,b8,b9,b10])(hp:w.heap.size<=p)(a0 a1 a2 a3 a4 a5 a6 a7 a8 a9 a10:Value):Tq w (pQ U p a0 a1 a2 a3 a4 a5 a6 a7 a8 a9 a10) Z p c va A #[a0,a1,a2,a3,a4,a5,a6,a7,a8,a9,a10]:=by
 refine h.sto hp (pP U p a0 a1 a2 a3 a4 a5 a6 a7 a8 a9 a10) ?_
 simpa[pQ] using ((((((((((h.rq.set 0 a0).set 1 a1).set 2 a2).set 3 a3).set 4 a4).set 5 a5).set 6 a6).set 7 a7).set 8 a8).set 9 a9).set 10 a10
theorem Tq.set (h:Tq w U Z p c va A cs)(hp:w.heap.size<=p)(i:Nat)(v:Value):Tq w (U.setCell ⟨p,i,none⟩ v) Z p c va A (cs.setIfInBounds i v):=h.sto hp ((Fr.refl [p] U).setCell (p:=⟨p,i,none⟩) (by simp) _) (h.rq.set i v)
end
theorem xJ (U:World)(p:Nat)(a0 a1 a2 a3 a4 a5 a6 a7 a8 a9 a10:Value):(pQ U p a0 a1 a2 a3 a4 a5 a6 a7 a8 a9 a10).heap.size=U.heap.size:=by simp[pQ]
theorem qd:M.home=⟨#[104,111,109,101]⟩:=by decide +kernel
theorem CI:M.ua=⟨#[97]⟩:=by decide +kernel
theorem Ez:M.ub=⟨#[98]⟩:=by decide +kernel
theorem Ag (n:Nat)(v:Value):(Ev.rqc (M.jE n) v).toArray=#[.int .i64 7,.string ⟨#[]⟩,.string ⟨#[104,111,109,101]⟩,.string ⟨#[]⟩,.string ⟨#[]⟩,.int .i64 0,.int .i64 0,v,.int .i64 0,.int .i64 0,.int .i64 0]:=by simp[Ev.rqc,M.jE,qd]
theorem Ah (v:Value):(Ev.rqc M.s6 v).toArray=#[.int .i64 7,.string ⟨#[]⟩,.string ⟨#[104,111,109,101]⟩,.string ⟨#[]⟩,.string ⟨#[]⟩,.int .i64 0,.int .i64 0,v,.int .i64 0,.int .i64 0,.int .i64 0]:=by simp[Ev.rqc,M.s6,qd]
theorem lA (t n:Int)(v:Value):(Ev.rqc (M.gA t n) v).toArray=#[.int .i64 8,.string ⟨#[]⟩,.string ⟨#[104,111,109,101]⟩,.string ⟨#[]⟩,.string ⟨#[]⟩,.int .i64 0,.int .i64 0,v,.int .i64 t,.int .i64 n,.int .i64 0]:=by simp[Ev.rqc,M.gA,qd]
theorem CQ (v:Value):(Ev.rqc M.xz v).toArray=#[.int .i64 6,.string ⟨#[]⟩,.string ⟨#[104,111,109,101]⟩,.string ⟨#[97]⟩,.string ⟨#[]⟩,.int .i64 0,.int .i64 0,v,.int .i64 0,.int .i64 0,.int .i64 0]:=by simp[Ev.rqc,M.xz,qd,CI]
theorem AO (n:Nat):flat Lp.cs (M.jE n).ops=[.bool false,.string ⟨#[97]⟩,.string (M.eN n),.int .i64 0,.int .i64 0,.bool false,.string ⟨#[98]⟩,.string (M.eN n),.int .i64 0,.int .i64 0]:=by simp[flat,Lp.cs,M.jE,CI,Ez]
theorem AP:flat Lp.cs M.s6.ops=[.bool true,.string ⟨#[97]⟩,.string ⟨#[]⟩,.int .i64 0,.int .i64 0,.bool true,.string ⟨#[98]⟩,.string ⟨#[]⟩,.int .i64 0,.int .i64 0]:=by simp[flat,Lp.cs,M.s6,CI,Ez]
structure Td (w U:World)(Z p:Nat)(c:M.Cfg)(va:Value)(A:List M.Ac)(q:M.Req)(vo:Value):Prop where
 tq:Tq w U Z p c va A (Ev.rqc q vo).toArray
 ops:Ev.bD U 0 vo q.ops
 nil:q.kind≠7->vo = .slice none 0 0
noncomputable def snd1:Code->Code
 | .seq _ b=>b
 | c=>c
noncomputable def bodyC:Code:=match f3.body with
 | some c=>c
 | none=>.skip
noncomputable def restC:Code:=snd1 (snd1 (snd1 (snd1 (snd1 (snd1 (snd1 (snd1 bodyC)))))))
noncomputable def evsC:Code:=snd1 (snd1 (snd1 restC))
theorem Cg (x:ByteArray):(x==x)=true:=by
 have:=M.oy
 exact beq_self_eq_true _
theorem uK {l:List M.Item}(h:M.qi l=true):l=[]∨∃ x y,l=[x,y]/\x.uid=⟨#[97]⟩/\y.uid=⟨#[98]⟩/\x.version=y.version/\x.gone=y.gone/\x.au=y.au:=by
 have:=M.oy
 unfold M.qi at h
 match l,h with
 | [],_=>exact .inl rfl
 | [_],h=>simp at h
 | [x,y],h =>
  simp at h
  obtain⟨⟨⟨⟨h1,h2⟩,h3⟩,h4⟩,h5⟩:=h
  exact .inr ⟨x,y,rfl,h1.trans CI,h2.trans Ez,h3,h4,h5⟩
 | _::_::_::_,h=>simp at h
variable {ia ib ih il ji jl jn kc kd ke kg kk ks kx mb mm mn mv mx na nb nd ni nk nn nq nv nw nx pa pc pe pn po pr ps pt qa qb qc qh qk ql qo qq qx xb xc xk xl xp xv xw yk yl yq ys yt yv zb zc aa ab ad ai ak al ao aq ar av ba bb bc bg bl bm bo bq br bs bt bx ca cb cc cf cg ch ck cl cn cp cq cr cv cx cy da dc dd di dn ds dt dv dy ea ec ee ei ej ek er et ez fa fb fc fh fi fj fk fl fm fo fq fs fv fw fz ga gb gf gg gh gk gl gn gp gr gv gx ha hb hc hd hf hg hh hi hk hl hp hq hs hz lb lg lk lq lr oa oc og oi oj oo ot ou ra rl rm rp rq rr ry sa sb sc se sh si sl so sq ss sv sz ta tc th ti tj tk tl tn tq tt tv tw tx ua ub vb vd ve vl vn vo vp vq vr vs vv vx wb wc wh wk wo wz a1 a6 a7 a8 b0 b1 b2 b3 b4 b5 b6 b8 b9 j3 l0 l3 l4 l5 l6 l7 l8 l9 n0 n1 n2 n5 n7 p0 p1 p2 p3 p4 p5 p7 q8 q9 r0 r1 r2 r3 r4 r5 r6 r7 r8 r9 s3 s4 s5 s7 x0 x1 x2:Value}
theorem evs_any (w W:World)(B:Nat)(va2:Option Addr)(ce:Nat)(L:List Ev.Raw)(fW:Fr [] w W)(ho:Own W B 57 23 (.slice va2 L.length ce) L.length (flat Ev.Raw.cells L))(hat:∀ r∈L,r.At W B)(hgd:∀ (j:Nat) r,L[j]? = some r->M.kR r.ev=true)(hLl:L.length<=2600) :
  Code.wp prog evsC (bodyPost prog f3 λe w'=>e = .returned (.bool true)/\Fr [] w w') { tmps:=#[ia,ib,ih,il,ji,jl,jn,kc,kd,ke,kg,kk,ks,kx,mb,mm,.slice va2 L.length ce,mv,mx,na,nb,nd,ni,nk,nn,nq,nv,nw,nx,pa,pc,pe,pn,po,pr,ps,pt,qa,qb,qc,qh,qk,ql,qo,qq,qx,xb,xc,xk,xl,xp,xv,xw,yk,yl,yq,ys,yt,yv,zb,zc,aa,ab,ad,ai,ak,al,ao,aq,ar,av,ba,bb,bc,bg,bl,bm,bo,bq,br,bs,bt,bx,ca,cb,cc,cf,cg,ch,ck,cl,cn,cp,cq,cr,cv,cx,cy,da,dc,dd,di,dn,ds,dt,dv,dy,ea,ec,ee,ei,ej,ek,er,et,ez,fa,fb,fc,fh,fi,fj,fk,fl,fm,fo,fq,fs,fv,fw,fz,ga,gb,gf,gg,gh,gk,gl,gn,gp,gr,gv,gx,ha,hb,hc,hd,hf,hg,hh,hi,hk,hl,hp,hq,hs,hz,lb,lg,lk,lq,lr,oa,oc,og,oi,oj,oo,ot,ou,ra,rl,rm,rp,rq,rr,ry,sa,sb,sc,se,sh,si,sl,so,sq,ss,sv,sz,ta,tc,th,ti,tj,tk,tl,tn,tq,tt,tv,tw,tx,ua,ub,vb,vd,ve,vl,vn,vo,vp,vq,vr,vs,vv,vx,wb,wc,wh,wk,wo,wz,a1,a6,a7,a8,b0,b1,b2,b3,b4,b5,b6,b8,b9,j3,l0,l3,l4,l5,l6,l7,l8,l9,n0,n1,n2,n5,n7,p0,p1,p2,p3,p4,p5,p7,q8,q9,r0,r1,r2,r3,r4,r5,r6,r7,r8,r9,s3,s4,s5,s7,x0,x1,x2],defers:=[] } W:=by
 have HL:=hid (And.intro ho (And.intro hat hgd))
 have FW:=hid fW
 clear ho hat hgd fW
 unfold evsC restC bodyC
 conv in snd1 _=>simp only[snd1,f3]
 go_wp2_with fail
 go_loopw [17] (λi wr=>∃ t:Nat,i = .int .i64 t/\t<=L.length/\Fr [] W wr) (λi _=>L.length - (intOf i).toNat)
 case atStart=>exact⟨0,rfl,Nat.zero_le _,rZ⟩
 obtain⟨t,rfl,ht,f9⟩:=hrel
 have F9:=hid f9
 clear f9
 rcases Nat.lt_or_ge t L.length with htl|htl
 ·obtain⟨r,hr⟩:∃ r,L[t]? = some r:=⟨_,List.getElem?_eq_getElem htl⟩
  obtain⟨gq,hea,hgq,hrng⟩:=kX (Own.fr0 HL.1 F9) hr
  subst hea
  obtain⟨o,ho⟩:∃ o,t*23=o:=⟨_,rfl⟩
  rw[ho] at hrng
  have d0:wr.cell? ⟨gq,o,none⟩=some (.int .i64 r.kind):=hrng 0 _ rfl
  have d15:wr.cell? ⟨gq,o+15,none⟩=some (.int .i64 r.rs.kind):=hrng 15 _ rfl
  have d16:wr.cell? ⟨gq,o+16,none⟩=some (.int .i64 r.rs.err):=hrng 16 _ rfl
  have d22:wr.cell? ⟨gq,o+22,none⟩=some r.vi:=hrng 22 _ rfl
  have hgd:=HL.2.2 t r hr
  have hit:=Own.fr0 (HL.2.1 r (List.mem_of_getElem? hr)).its F9
  have htl1:(t:Int)<(L.length:Int):=by omega
  clear hrng hr
  by_cases e3:r.kind=3
  rotate_left
  ·clear hgd hit
   go_wp2_with fail
   go_roundw
   case rel=>exact⟨t+1,by go_num,by omega,F9⟩
   simp[intOf];omega
  by_cases e8:r.rs.kind=8
  rotate_left
  ·rw[e3] at d0
   clear e3 hgd hit
   go_wp2_with fail
   go_roundw
   case rel=>exact⟨t+1,by go_num,by omega,F9⟩
   simp[intOf];omega
  by_cases e0:r.rs.err=0
  rotate_left
  ·rw[e3] at d0
   rw[e8] at d15
   clear e3 e8 hgd hit
   go_wp2_with fail
   go_roundw
   case rel=>exact⟨t+1,by go_num,by omega,F9⟩
   simp[intOf];omega
  have hgo:M.qi r.rs.items=true:=by simpa[M.kR,Ev.Raw.ev,e3,e8,e0] using hgd
  rw[e3] at d0
  rw[e8] at d15
  rw[e0] at d16
  clear e3 e8 e0 hgd
  rcases uK hgo with hn|⟨x,y,hxy,h1,h2,h3,h4,h5⟩
  ·rw[hn] at hit
   obtain⟨a',c',hvi⟩:=Own.form hit
   rw[hvi] at d22
   clear hit hvi hn hgo
   go_wp2_with fail
   go_loopw [18,19,21] (λp q k wx=>p = .int .i64 (-1)/\q = .int .i64 (-1)/\k = .int .i64 0/\Fr [] wr wx) (λ_ _ _ _=>0)
   case atStart=>exact⟨rfl,rfl,rfl,rZ⟩
   obtain⟨rfl,rfl,rfl,f10⟩:=hrel
   have F10:=hid (F9.trans f10)
   clear f10
   go_wp2_with fail
   go_quiet (fail)
   go_wp2_with fail
   go_roundw
   case rel=>exact⟨t+1,by go_num,by omega,F10.trans (by repeat (first|exact rZ|apply Fr.drewN|apply Fr.drew))⟩
   simp[intOf];omega
  rw[hxy] at hit
  have hit2:Own wr _ 59 4 r.vi 2 (flat Ev.ic [x,y]):=hit
  obtain⟨g,c',-,hvi,hrow⟩:=Own.pos hit2 (by decide)
  rw[hvi] at d22
  have q0:wr.cell? ⟨g,0,none⟩=some (.string x.uid):=hrow.cell rfl
  have q1:wr.cell? ⟨g,1,none⟩=some (.int .i64 x.version):=hrow.cell rfl
  have q2:wr.cell? ⟨g,2,none⟩=some (.bool x.gone):=hrow.cell rfl
  have q3:wr.cell? ⟨g,3,none⟩=some (.string x.au):=hrow.cell rfl
  have q4:wr.cell? ⟨g,4,none⟩=some (.string y.uid):=hrow.cell rfl
  have q5:wr.cell? ⟨g,5,none⟩=some (.int .i64 y.version):=hrow.cell rfl
  have q6:wr.cell? ⟨g,6,none⟩=some (.bool y.gone):=hrow.cell rfl
  have q7:wr.cell? ⟨g,7,none⟩=some (.string y.au):=hrow.cell rfl
  rw[h1] at q0
  rw[h2] at q4
  rw[<-h3] at q5
  rw[<-h4] at q6
  rw[<-h5] at q7
  have ug:=hrow.lt
  have tcd:(x.au==x.au)=true:=Cg _
  clear hit hit2 hvi hrow hgo h1 h2 h3 h4 h5 hxy
  go_wp2_with fail
  go_loopw [18,19,21] (λp q k wx=>((p = .int .i64 (-1)/\q = .int .i64 (-1)/\k = .int .i64 0)∨(p = .int .i64 0/\q = .int .i64 (-1)/\k = .int .i64 1)∨(p = .int .i64 0/\q = .int .i64 1/\k = .int .i64 2))/\Fr [] wr wx) (λ_ _ k _=>2 - (intOf k).toNat)
  case atStart=>exact⟨.inl ⟨rfl,rfl,rfl⟩,rZ⟩
  obtain⟨hpq,f10⟩:=hrel
  have v0:=f10.cell q0 ug (by simp)
  have v1:=f10.cell q1 ug (by simp)
  have v2:=f10.cell q2 ug (by simp)
  have v3:=f10.cell q3 ug (by simp)
  have v4:=f10.cell q4 ug (by simp)
  have v5:=f10.cell q5 ug (by simp)
  have v6:=f10.cell q6 ug (by simp)
  have v7:=f10.cell q7 ug (by simp)
  have vg:=Nat.lt_of_lt_of_le ug f10.size
  have F10:=hid f10
  clear q0 q1 q2 q3 q4 q5 q6 q7 ug f10 d0 d15 d16 d22
  rcases hpq with⟨rfl,rfl,rfl⟩|⟨rfl,rfl,rfl⟩|⟨rfl,rfl,rfl⟩
  ·go_wp2_with fail
   go_roundw
   case rel=>exact⟨.inr (.inl ⟨rfl,rfl,rfl⟩),F10⟩
   simp[intOf]
  ·go_wp2_with fail
   go_roundw
   case rel=>exact⟨.inr (.inr ⟨rfl,rfl,rfl⟩),F10⟩
   simp[intOf]
  go_wp2_with fail
  go_quiet (fail)
  go_wp2_with fail
  go_roundw
  case rel=>exact⟨t+1,by go_num,by omega,(F9.trans F10).trans (by repeat (first|exact rZ|apply Fr.drewN|apply Fr.drew))⟩
  simp[intOf];omega
 obtain rfl:t=L.length:=by omega
 go_wp2_with fail
 go_ret
 exact⟨rfl,FW.trans F9⟩
theorem rest_any (w W:World)(c:M.Cfg)(O:c.Ok)(Z:Nat)(mvs:List M.Move)(drop:Bool)(v7:Value)(hlen:mvs.length<=200)(hG:Sh.Gl w)(fr:Fr [] w W)(hA:Own W Z 31 4 v7 (M.dk c.start drop mvs).1.length (flat acs (M.dk c.start drop mvs).1))(hCw:Holds W Z 25 (cellsOf c)) :
  Code.wp prog restC (bodyPost prog f3 λe w'=>e = .returned (.bool true)/\Fr [] w w') { tmps:=#[ia,ib,ih,.pointer (some ⟨Z,0,none⟩),ji,jl,jn,v7,kd,ke,kg,kk,ks,kx,mb,mm,mn,mv,mx,na,nb,nd,ni,nk,nn,nq,nv,nw,nx,pa,pc,pe,pn,po,pr,ps,pt,qa,qb,qc,qh,qk,ql,qo,qq,qx,xb,xc,xk,xl,xp,xv,xw,yk,yl,yq,ys,yt,yv,zb,zc,aa,ab,ad,ai,ak,al,ao,aq,ar,av,ba,bb,bc,bg,bl,bm,bo,bq,br,bs,bt,bx,ca,cb,cc,cf,cg,ch,ck,cl,cn,cp,cq,cr,cv,cx,cy,da,dc,dd,di,dn,ds,dt,dv,dy,ea,ec,ee,ei,ej,ek,er,et,ez,fa,fb,fc,fh,fi,fj,fk,fl,fm,fo,fq,fs,fv,fw,fz,ga,gb,gf,gg,gh,gk,gl,gn,gp,gr,gv,gx,ha,hb,hc,hd,hf,hg,hh,hi,hk,hl,hp,hq,hs,hz,lb,lg,lk,lq,lr,oa,oc,og,oi,oj,oo,ot,ou,ra,rl,rm,rp,rq,rr,ry,sa,sb,sc,se,sh,si,sl,so,sq,ss,sv,sz,ta,tc,th,ti,tj,tk,tl,tn,tq,tt,tv,tw,tx,ua,ub,vb,vd,ve,vl,vn,vo,vp,vq,vr,vs,vv,vx,wb,wc,wh,wk,wo,wz,a1,a6,a7,a8,b0,b1,b2,b3,b4,b5,b6,b8,b9,j3,l0,l3,l4,l5,l6,l7,l8,l9,n0,n1,n2,n5,n7,p0,p1,p2,p3,p4,p5,p7,q8,q9,r0,r1,r2,r3,r4,r5,r6,r7,r8,r9,s3,s4,s5,s7,x0,x1,x2],defers:=[] } W:=by
 unfold cellsOf at *
 obtain⟨hfit,hinv,hev0,hlA,hn2⟩:=M.oI O drop mvs hlen
 obtain⟨y,hy⟩:∃ y,M.dk c.start drop mvs=y:=⟨_,rfl⟩
 rw[hy] at hA hfit hinv hev0 hlA hn2
 try simp only[hy]
 obtain⟨va,vc,hv⟩:=hA.form
 subst hv
 have hinv1:M.Inv c 61 ((M.s0 c).cR y.1):=hinv.le (by omega)
 have hRD:=M.Inv.rounds (x:=((M.s0 c).cR y.1,List.replicate 4 [])) hinv1 O (by decide) (by show ((M.s0 c).cR y.1).events.length<=1000;omega)
 obtain⟨S,hS⟩:∃ S,(M.bk 4 ((M.s0 c).cR y.1,List.replicate 4 []) 200).1=S:=⟨_,rfl⟩
 have hgood:∀ e∈S.events,M.kR e=true:=by rw[<-hS];exact(hRD 200 (by decide)).1.b.evs
 have hSl:S.events.length<=2600:=by rw[<-hS];exact(hRD 200 (by decide)).2
 have hrn:=λU (f:Fr [] W U)=>Bs U c O y.1 (.slice va y.1.length vc) Z 4 200 (hA.fr0 f) (hG.fr0 (fr.trans f)) (by omega) (by decide) hfit hinv1.b.len (by decide) (by decide) (λj hj=>((hRD j (by omega)).1.round O (by decide) (by have:=(hRD j (by omega)).2;omega)).1) (by rw[hS];omega)
 rw[hS] at hrn
 unfold cellsOf at hrn
 have HRN:=hid hrn
 have HGD:=hid (And.intro hgood hSl)
 have HFR:=hid fr
 obtain⟨k0,k1,k2,k3,k4,k5,k6,k7⟩:=hCw.cs8
 have kl:=hCw.lt
 simp at k0 k1 k2 k3 k4 k5 k6 k7
 clear hrn hgood hSl hRD hinv1 hfit hinv hev0 hlA hn2 hS hA hCw fr hy hlen hG
 unfold restC bodyC
 conv in snd1 _=>simp only[snd1,f3]
 go_wp2_with fail
 refine(HRN _ (by repeat (first|exact rZ|apply Fr.alloc|apply Fr.drewN|apply Fr.drew))).mono ?_
 rintro e w2 ⟨vO,vS,vD,ae,ne,ce,rfl,o1,o2,o3,hev,f2⟩
 have F2:=hid (HFR.trans (Fr.trans (by repeat (first|exact rZ|apply Fr.alloc|apply Fr.drewN|apply Fr.drew)) f2))
 obtain⟨L,hL,ho,hat⟩:=hev.at_
 obtain⟨va2,vc2,h2⟩:=Own.form ho
 cases h2
 have HL:=hid (And.intro ho (And.intro hat (show ∀ (j:Nat) r,L[j]? = some r->M.kR r.ev=true from λj r hr=>HGD.1 _ (by rw[<-hL];exact List.mem_map_of_mem (List.mem_of_getElem? hr)))))
 have hLl:L.length<=2600:=by have:=HGD.2;rw[<-hL] at this;simpa using this
 clear hev ho hat hL f2 k0 k1 k2 k3 k4 k5 k6 k7 kl HRN HGD
 go_upto_region 33 with(refine cV rfl 49 (.tmp 14) (.tmp 165) rfl _ #[vO,vS,vD,.slice ae L.length ce] rfl rfl _ _ (heap_alloc_new _ _) sw rfl (by rw[Array.all_eq_true_iff_forall_mem];intro u hu;simp at hu;rcases hu with rfl|rfl|rfl|rfl<;>first|rfl|assumption) ?_;intro W7 b7 fs7)
 have g7:Fr [] w2 W7:=((Fr.refl [] w2).alloc _).step fs7 (λx hx=>.inr (by simp at hx;omega))
 obtain⟨N,hN⟩:∃ N,w2.heap.size=N:=⟨_,rfl⟩
 rw[hN] at b7
 have d3:=b7.cell 3
 have dl:=b7.lt
 simp at d3
 try simp only[hN]
 have G7:=hid g7
 clear fs7 hN o1 o2 o3
 go_upto_region 35 with fail
 go_cut [16] from 169 to 170 (λs16 wx=>s16 = .slice ae L.length ce/\W7=wx)
 case first =>
  go_wp2_with fail
  go_meet
  exact⟨rfl,rfl⟩
 obtain⟨rfl,rfl⟩:=hcut
 apply_assumption
 exact evs_any w W7 W.heap.size ae ce L (F2.trans g7) (Own.fr0 HL.1 g7) (λr hr=>⟨Own.fr0 (HL.2.1 r hr).ops g7,Own.fr0 (HL.2.1 r hr).its g7,(HL.2.1 r hr).l1,(HL.2.1 r hr).l2⟩) HL.2.2 hLl
theorem zd (w:World)(c:M.Cfg)(a:Option Addr)(l cap:Nat)(drop:Bool)(mvs:List M.Move)(hx:Ey w a mvs)(hl:mvs.length=l)(hG:Sh.Gl w)(hs:c.start<=M.aW) :
  cA 3 #[.agg (cellsOf c),.slice a l cap,.bool drop] w (.bool true):=by
 obtain⟨Z,hZ⟩:∃ Z,w.heap.size=Z:=⟨_,rfl⟩
 obtain⟨w0,hw0⟩:∃ W,W=w.alloc (.cells #[.int .i64 c.ag,.int .i64 c.start,.int .i64 c.room,.int .i64 c.dD,.int .i64 c.bQ,.int .i64 c.ah,.int .i64 c.bytes,.int .i64 c.log] 25):=⟨_,rfl⟩
 have f0:Fr [] w w0:=by rw[hw0];exact rZ.alloc _
 have hC:Holds w0 Z 25 #[.int .i64 c.ag,.int .i64 c.start,.int .i64 c.room,.int .i64 c.dD,.int .i64 c.bQ,.int .i64 c.ah,.int .i64 c.bytes,.int .i64 c.log]:=by rw[hw0,<-hZ];exact Holds.new _ _ _
 have HC:=hid hC
 have HZ:=hid hZ
 have HG:=hid hG
 have HX:=hid (And.intro hx hl)
 have HF0:=hid f0
 have HS:=hid hs
 have hM:=hid (λW=>dN W c)
 obtain⟨aI,ai,az0,az1,az2⟩:=info_parts Bq
 unfold cellsOf at *
 clear hx hl hG f0 hC hs
 go_enter func3,ntmps3
 go_upto_region 1 with fail
 rw[<-hw0]
 try simp only[hZ]
 clear hw0 hZ
 go_wp2_with fail
 refine uu (jO _ (HG.fr0 HF0)) λw1 f1=>?_
 have F1:=hid (HF0.trans f1)
 have C1:=hid (HC.fr f1 (by simp))
 clear f1
 go_upto_region 3 with fail
 by_cases c1:(200:Int)<l
 ·go_wp2_with fail
  refine uu (jO _ (HG.fr0 F1)) λw2 f2=>?_
  go_wp2_with fail
  go_ret
  exact⟨rfl,F1.trans f2⟩
 obtain⟨k0,k1,k2,k3,k4,k5,k6,k7⟩:=C1.cs8
 have kl:=C1.lt
 simp at k0 k1 k2 k3 k4 k5 k6 k7
 go_wp2_with fail
 refine(hM _).mono ?_
 rintro e w2 ⟨⟨b,rfl,hb⟩,f2⟩
 have F2:=hid (F1.trans f2)
 have C2:=hid (C1.fr f2 (by simp))
 have HB:=hid hb
 clear k0 k1 k2 k3 k4 k5 k6 k7 kl f2 hb
 have k0:=C2.cell 0
 have kl:=C2.lt
 simp at k0
 cases b
 ·go_wp2_with fail
  refine uu (jO _ (HG.fr0 F2)) λw3 f3=>?_
  go_wp2_with fail
  go_ret
  exact⟨rfl,F2.trans f3⟩
 by_cases c2:c.ag<4
 ·go_wp2_with fail
  refine uu (jO _ (HG.fr0 F2)) λw3 f3=>?_
  go_wp2_with fail
  go_ret
  exact⟨rfl,F2.trans f3⟩
 have HO:=hid (HB.out rfl (by omega) HS)
 have hlen:mvs.length<=200:=by rw[HX.2];omega
 go_upto_region 5 with fail
 obtain⟨w3,hmk,fm,hrow⟩:=Dp w2
 have F3:=hid (F2.trans fm)
 have C3:=hid (C2.fr fm (by simp))
 have A3:=hid (show Own w3 Z 31 4 (.slice (some ⟨w2.heap.size,0,none⟩) 0 300) (M.en.take 0).length (flat acs (M.en.take 0)) from .inr ⟨_,_,by rw[<-HZ];exact F2.size,rfl,hrow⟩)
 clear fm hrow k0 kl c1 c2
 go_wp2_with fail
 go_loopw [7,8] (λv i wr=>∃ k:Nat,i = .int .i64 k/\k<=4/\Own wr Z 31 4 v (M.en.take (2*k)).length (flat acs (M.en.take (2*k)))/\Fr [] w wr/\Holds wr Z 25 #[.int .i64 c.ag,.int .i64 c.start,.int .i64 c.room,.int .i64 c.dD,.int .i64 c.bQ,.int .i64 c.ah,.int .i64 c.bytes,.int .i64 c.log]) (λ_ i _=>4 - (intOf i).toNat)
 case atStart=>exact⟨0,rfl,by omega,A3,F3,C3⟩
 obtain⟨k,rfl,hk,hA,fr,hCw⟩:=hrel
 have HCW:=hid hCw
 clear hCw
 clear A3 C3 F3 hmk
 rcases Nat.lt_or_ge k 4 with hk4|hk4
 ·have hk4':(k:Int)<4:=by omega
  have hb:=ze k hk4
  have hLl:(M.en.take (2*k)).length<=9:=List.length_take_le' _ _
  obtain⟨L,hL⟩:∃ L,M.en.take (2*k)=L:=⟨_,rfl⟩
  rw[hL] at hA hb hLl
  obtain⟨va,vc,hv⟩:=hA.form
  subst hv
  have HA:=hid hA
  have HBT:=hid hb
  have HFR:=hid fr
  clear hA hb fr hL
  go_wp2_with fail
  refine uu (mr _) λw4 f4=>?_
  have F4:=hid (HFR.trans f4)
  have C4:=hid (HCW.fr f4 (by simp))
  have A4:=hid (HA.fr0 f4)
  obtain⟨sh,hsh⟩:∃ s,En.bytesOf (En.bU M.eh)=s:=⟨_,rfl⟩
  have HSH:=hid hsh
  try simp only[hsh]
  clear f4 hsh
  go_upto_region 8 with(at_builtin;(refine af rfl (.tmp 43) (.tmp 49) 29 rfl aI _ 40 underlying29 ai az0 az1 az2 rfl (by decide) (.slice va L.length vc) (ay (.slice va L.length vc)) rfl (A4.sl.fr0 (rZ.alloc _)) _ 2 2 _ rfl (by rfl) (Fm.Cells.bO (aE (by simp))) (by simp[Value.oneCell']) (by unfold maxLen;omega) (by omega) ?_;intro v5 w5 own5 hs5 hf5 ho5 hm5;have HP:=hid (jW (Y:=[.opn,.snd k [M.eh]]) HZ F4 A4 (rZ.alloc _) rfl (by simp) (by rw[BE,qJ,HSH.out];rfl) hs5 hf5 ho5 hm5);clear hs5 hf5 ho5 hm5))
  rw[HBT] at HP
  go_wp2_with fail
  go_roundw
  case rel=>exact⟨k+1,by go_num,by omega,HP.1,HP.2.1,HP.2.2 C4 (by decide)⟩
  simp[intOf];omega
 obtain rfl:k=4:=by omega
 obtain⟨L,hL⟩:∃ L,M.en.take (2*4)=L:=⟨_,rfl⟩
 have hb:L++[.snd 0 [M.eb]]=M.en:=by rw[<-hL];rfl
 have hLl:L.length=8:=by rw[<-hL];rfl
 rw[hL] at hA
 obtain⟨va,vc,hv⟩:=hA.form
 subst hv
 have HA:=hid hA
 have HBT:=hid hb
 have HFR:=hid fr
 clear hA hb fr hL
 go_wp2_with fail
 refine uu (kV _) λw4 f4=>?_
 have F4:=hid (HFR.trans f4)
 have C4:=hid (HCW.fr f4 (by simp))
 have A4:=hid (HA.fr0 f4)
 obtain⟨sh,hsh⟩:∃ s,En.bytesOf (En.bU M.eb)=s:=⟨_,rfl⟩
 have HSH:=hid hsh
 try simp only[hsh]
 clear f4 hsh
 go_upto_region 11 with(at_builtin;(refine af rfl (.tmp 51) (.tmp 55) 29 rfl aI _ 40 underlying29 ai az0 az1 az2 rfl (by decide) (.slice va L.length vc) (ay (.slice va L.length vc)) rfl (A4.sl.fr0 (rZ.alloc _)) _ 1 1 _ rfl (by rfl) (Fm.Cells.bO (aE (by simp))) (by simp[Value.oneCell']) (by unfold maxLen;omega) (by omega) ?_;intro v5 w5 own5 hs5 hf5 ho5 hm5;have HP:=hid (jW (Y:=[.snd 0 [M.eb]]) HZ F4 A4 (rZ.alloc _) rfl (by simp) (by rw[bS,qJ,HSH.out];rfl) hs5 hf5 ho5 hm5);clear hs5 hf5 ho5 hm5))
 rw[HBT] at HP
 have HP:=hid (And.intro HP.1 (And.intro HP.2.1 (HP.2.2 C4 (by decide))))
 clear HFR HA A4 F4 C4 HCW HSH hLl HBT
 go_upto_region 12 with fail
 go_cut [10] from 10 to 10 (λs10 wx=>s10 = .int .i64 0/\w5=wx)
 case first =>
  go_wp2_with fail
  go_meet
  exact⟨rfl,rfl⟩
 obtain⟨rfl,rfl⟩:=hcut
 apply_assumption
 go_cut [7] from 57 to 161 (λs7 wc=>Own wc Z 31 4 s7 (M.dk c.start drop mvs).1.length (flat acs (M.dk c.start drop mvs).1)/\Fr [] w wc/\Holds wc Z 25 #[.int .i64 c.ag,.int .i64 c.start,.int .i64 c.room,.int .i64 c.dD,.int .i64 c.bQ,.int .i64 c.ah,.int .i64 c.bytes,.int .i64 c.log])
 case first =>
  go_wp2_with fail
  go_loopw [7,9,10] (λv i t wr=>∃ j:Nat,t = .int .i64 j/\j<=l/\i = .int .i64 (M.dk c.start drop (mvs.take j)).2/\Own wr Z 31 4 v (M.dk c.start drop (mvs.take j)).1.length (flat acs (M.dk c.start drop (mvs.take j)).1)/\Fr [] w wr/\Holds wr Z 25 #[.int .i64 c.ag,.int .i64 c.start,.int .i64 c.room,.int .i64 c.dD,.int .i64 c.bQ,.int .i64 c.ah,.int .i64 c.bytes,.int .i64 c.log]) (λ_ _ t _=>l - (intOf t).toNat)
  case atStart=>exact⟨0,rfl,Nat.zero_le _,rfl,HP.1,HP.2.1,HP.2.2⟩
  obtain⟨j,rfl,hj,rfl,hA,fr,hCw⟩:=hrel
  clear HP
  rcases Nat.lt_or_ge j l with hjl|hjl
  ·have hjl':(j:Int)<(l:Int):=by omega
   have hj2:(j:Int)<200:=by have:=HX.2;omega
   obtain⟨m,hm⟩:∃ m,mvs[j]? = some m:=⟨_,List.getElem?_eq_getElem (by rw[HX.2];exact hjl)⟩
   obtain⟨b0,o0,ha,hb0,q0,q1,q2⟩:=HX.1 j m hm
   subst ha
   have p0:=fr.cell q0 hb0 (by simp)
   have p1:=fr.cell q1 hb0 (by simp)
   have p2:=fr.cell q2 hb0 (by simp)
   have pl:=Nat.lt_of_lt_of_le hb0 fr.size
   obtain⟨nk,nw,k4,w4,a7,a15,a3,b8,b64⟩:=nums m
   have hwk:=IntWalk.i64_in (m.k:Int) (by omega)
   have sc:M.dk c.start drop (mvs.take (j+1))=M.mvA c.start drop (M.dk c.start drop (mvs.take j)) m:=by rw[List.take_succ,hm];exact M.mg _ _ _ _
   obtain⟨-,-,-,hx4,hx5⟩:=M.oI HO drop (mvs.take j) (by rw[List.length_take];omega)
   rw[List.length_take] at hx4 hx5
   obtain⟨x,hx⟩:∃ x,M.dk c.start drop (mvs.take j)=x:=⟨_,rfl⟩
   rw[hx] at hA sc hx4 hx5
   try simp only[hx]
   have hxA:x.1.length<=209:=by omega
   have hxn:x.2<=200:=by omega
   obtain⟨va,vc,hv⟩:=hA.form
   subst hv
   have HA:=hid hA
   have HFR:=hid fr
   obtain⟨qq,hqq⟩:∃ qq,m.q c.start drop=qq:=⟨_,rfl⟩
   have HRQ:=hid (show M.bF qq=true by rw[<-hqq];exact M.j1 (M.wa HO.s0 drop m))
   have HE0:=hid (show m.w=0->M.dk c.start drop (mvs.take (j+1))=(x.1++[.pck m.k],x.2) from λh=>by rw[sc];simp[M.mvA,h])
   have HE1:=hid (show m.w≠0->x.2+1<60->M.dk c.start drop (mvs.take (j+1))=(x.1++[.snd m.k [qq]],x.2+1) from λh1 h2=>by rw[sc];unfold M.mvA;rw[if_neg h1,if_pos h2,hqq])
   have HE2:=hid (show m.w≠0->¬ x.2+1<60->M.dk c.start drop (mvs.take (j+1))=(x.1,x.2+1) from λh1 h2=>by rw[sc];unfold M.mvA;rw[if_neg h1,if_neg h2])
   have HQ:=hid hqq
   obtain⟨wz,hwz⟩:∃ z,wr.heap.size=z:=⟨_,rfl⟩
   rw[hwz] at pl
   have HCW:=hid hCw
   have k1:=hCw.cell 1
   have kl:=hCw.lt
   rw[hwz] at kl
   simp at k1
   clear hA fr sc hx hx4 hx5 q0 q1 q2 hm hCw hb0 hqq
   go_upto_region 17 with fail
   have fq:Fr [] wr (wr.alloc (.cells #[.int .i64 6,.string ⟨#[]⟩,.string ⟨#[104,111,109,101]⟩,.string ⟨#[97]⟩,.string ⟨#[]⟩,.int .i64 0,.int .i64 0,.slice none 0 0,.int .i64 0,.int .i64 0,.int .i64 0] 37)):=rZ.alloc _
   have T5:=hid (show Tq w (wr.alloc (.cells #[.int .i64 6,.string ⟨#[]⟩,.string ⟨#[104,111,109,101]⟩,.string ⟨#[97]⟩,.string ⟨#[]⟩,.int .i64 0,.int .i64 0,.slice none 0 0,.int .i64 0,.int .i64 0,.int .i64 0] 37)) Z wz c (.slice va x.1.length vc) x.1 #[.int .i64 6,.string ⟨#[]⟩,.string ⟨#[104,111,109,101]⟩,.string ⟨#[97]⟩,.string ⟨#[]⟩,.int .i64 0,.int .i64 0,.slice none 0 0,.int .i64 0,.int .i64 0,.int .i64 0] from ⟨HFR.trans fq,HCW.fr fq (by simp),HA.fr0 fq,aE hwz⟩)
   have p0':=fq.cell p0 (by rw[hwz];exact pl) (by simp)
   have p2':=fq.cell p2 (by rw[hwz];exact pl) (by simp)
   have pl':b0<(wr.alloc (.cells #[.int .i64 6,.string ⟨#[]⟩,.string ⟨#[104,111,109,101]⟩,.string ⟨#[97]⟩,.string ⟨#[]⟩,.int .i64 0,.int .i64 0,.slice none 0 0,.int .i64 0,.int .i64 0,.int .i64 0] 37)).heap.size:=Nat.lt_of_lt_of_le (by rw[hwz];exact pl) fq.size
   have hZw:Z<=wz:=by omega
   have hbz:b0≠wz:=by omega
   clear p0 p1 p2 fq hwz k1 kl pl HA HFR HCW
   generalize wr.alloc (.cells #[.int .i64 6,.string ⟨#[]⟩,.string ⟨#[104,111,109,101]⟩,.string ⟨#[97]⟩,.string ⟨#[]⟩,.int .i64 0,.int .i64 0,.slice none 0 0,.int .i64 0,.int .i64 0,.int .i64 0] 37)=W5 at *
   have k1:=T5.cf.cell 1
   have kl:=T5.cf.lt
   simp[cellsOf] at k1
   have hwZ:w.heap.size<=wz:=by rw[HZ];exact hZw
   go_cut [78] from 72 to 78 (λs78 wx=>s78 = .int .u64 m.w/\W5=wx)
   case first =>
    go_wp2_with fail
    go_meet
    exact⟨rfl,rfl⟩
   obtain⟨rfl,rfl⟩:=hcut
   apply_assumption
   go_cut [7] from 78 to 149 (λs7 wc=>m.w≠0/\s7 = .slice va x.1.length vc/\∃ vo,Td w wc Z wz c (.slice va x.1.length vc) x.1 qq vo)
   case first =>
    rcases (by omega:m.w=0∨m.w=1∨m.w=2∨m.w=3) with hw|hw|hw|hw
    ·have HE:=hid (HE0 hw)
     clear w4 a7 a15 a3 b8 b64 p2' k1
     go_upto_region 14 with(at_builtin;(refine af rfl (.tmp 81) (.tmp 84) 29 rfl aI _ 40 underlying29 ai az0 az1 az2 rfl (by decide) (.slice va x.1.length vc) (ay (.slice va x.1.length vc)) rfl (T5.ac.sl.fr0 (rZ.alloc _)) _ 1 1 _ rfl (by rfl) (Fm.Cells.bO (aE (by simp))) (by simp[Value.oneCell']) (by unfold maxLen;omega) (by omega) ?_;intro v6 w6 own6 hs6 hf6 ho6 hm6;have HP:=hid (jW (Y:=[.pck m.k]) HZ T5.fr T5.ac (rZ.alloc _) rfl (by simp) (by rw[bS];rfl) hs6 hf6 ho6 hm6);clear hs6 hf6 ho6 hm6))
     go_wp2_with fail
     go_roundw
     case rel=>exact⟨j+1,by go_num,by omega,by rw[HE],by rw[HE];exact HP.1,HP.2.1,HP.2.2 T5.cf (by decide)⟩
     simp[intOf];omega
    focus
     go_upto_region 23 with(go_at_call 7;refine uu (Ce _ (m.n % 8) (by omega) (by omega)) λw6 f6=>?_;have T6:=hid (T5.fr0 f6);have HR6:=hid T6.rq;have g2:=f6.cell p2' pl' (by simp);have gl:=Nat.lt_of_lt_of_le pl' f6.size;have r0:=HR6.cell 0;have r1:=HR6.cell 1;have r2:=HR6.cell 2;have r3:=HR6.cell 3;have r4:=HR6.cell 4;have r5:=HR6.cell 5;have r6:=HR6.cell 6;have r7:=HR6.cell 7;have r8:=HR6.cell 8;have r9:=HR6.cell 9;have r10:=HR6.cell 10;have rl:=HR6.lt;have rz:=HR6.frozen;simp at r0 r1 r2 r3 r4 r5 r6 r7 r8 r9 r10;have z0:=rz 0;have z1:=rz 1;have z2:=rz 2;have z3:=rz 3;have z4:=rz 4;have z5:=rz 5;have z6:=rz 6;have z7:=rz 7;have z8:=rz 8;have z9:=rz 9;have z10:=rz 10)
     obtain⟨W7,hW7⟩:∃ W,W=pQ w6 wz (.int .i64 7) (.string ⟨#[]⟩) (.string ⟨#[104,111,109,101]⟩) (.string ⟨#[]⟩) (.string ⟨#[]⟩) (.int .i64 0) (.int .i64 0) (.slice (some ⟨w6.heap.size,0,none⟩) 2 2) (.int .i64 0) (.int .i64 0) (.int .i64 0):=⟨_,rfl⟩
     have T7:=T6.put hwZ (.int .i64 7) (.string ⟨#[]⟩) (.string ⟨#[104,111,109,101]⟩) (.string ⟨#[]⟩) (.string ⟨#[]⟩) (.int .i64 0) (.int .i64 0) (.slice (some ⟨w6.heap.size,0,none⟩) 2 2) (.int .i64 0) (.int .i64 0) (.int .i64 0)
     have f7:=pP w6 wz (.int .i64 7) (.string ⟨#[]⟩) (.string ⟨#[104,111,109,101]⟩) (.string ⟨#[]⟩) (.string ⟨#[]⟩) (.int .i64 0) (.int .i64 0) (.slice (some ⟨w6.heap.size,0,none⟩) 2 2) (.int .i64 0) (.int .i64 0) (.int .i64 0)
     have hs7:W7.heap.size=w6.heap.size:=by rw[hW7];exact xJ _ _ _ _ _ _ _ _ _ _ _ _ _
     rw[<-hW7] at T7 f7
     simp only[pQ] at hW7
     rw[<-hW7]
     have g7:=f7.cell g2 gl (by simpa using hbz)
     have gl7:=Nat.lt_of_lt_of_le gl f7.size
     rw[<-hs7] at T7
     try simp only[<-hs7]
     have fa:Fr [] W7 (W7.alloc (.cells #[.bool false,.string ⟨#[97]⟩,.string (M.eN (m.n % 8).toNat),.int .i64 0,.int .i64 0,.bool false,.string ⟨#[98]⟩,.string (M.eN (m.n % 8).toNat),.int .i64 0,.int .i64 0] 43)):=rZ.alloc _
     have D8:=hid (show Td w (W7.alloc (.cells #[.bool false,.string ⟨#[97]⟩,.string (M.eN (m.n % 8).toNat),.int .i64 0,.int .i64 0,.bool false,.string ⟨#[98]⟩,.string (M.eN (m.n % 8).toNat),.int .i64 0,.int .i64 0] 43)) Z wz c (.slice va x.1.length vc) x.1 (M.jE (m.n % 8).toNat) (.slice (some ⟨W7.heap.size,0,none⟩) 2 2) from ⟨by rw[Ag];exact T7.fr0 fa,.inr ⟨W7.heap.size,2,Nat.zero_le _,rfl,by rw[AO];exact Row.new W7 #[.bool false,.string ⟨#[97]⟩,.string (M.eN (m.n % 8).toNat),.int .i64 0,.int .i64 0,.bool false,.string ⟨#[98]⟩,.string (M.eN (m.n % 8).toNat),.int .i64 0,.int .i64 0] rfl (show 2<=maxLen by decide)⟩,λh=>absurd rfl h⟩)
     have g8:=fa.cell g7 gl7 (by simp)
     have gl8:=Nat.lt_of_lt_of_le gl7 fa.size
     have HQ8:=hid (T7.fr0 fa)
     clear hW7 f7 hs7 g7 gl7 fa T7 g2 gl r0 r1 r2 r3 r4 r5 r6 r7 r8 r9 r10 rl rz z0 z1 z2 z3 z4 z5 z6 z7 z8 z9 z10 HR6 f6
     generalize W7.alloc (.cells #[.bool false,.string ⟨#[97]⟩,.string (M.eN (m.n % 8).toNat),.int .i64 0,.int .i64 0,.bool false,.string ⟨#[98]⟩,.string (M.eN (m.n % 8).toNat),.int .i64 0,.int .i64 0] 43)=V8 at *
     have r7:=HQ8.rq.cell 7
     have z7:=HQ8.rq.frozen 7
     have rl:=HQ8.rq.lt
     simp at r7
     cases drop
     focus
      go_wp2_with fail
      have HTD:=hid (show ∃ vo,Td w V8 Z wz c (.slice va x.1.length vc) x.1 qq vo from ⟨_,by rw[show qq=M.jE (m.n % 8).toNat by rw[<-HQ];simp[M.Move.q,hw]];exact D8⟩)
      clear r7 z7 rl D8 HQ8 g8 gl8
      go_meet
      exact⟨by omega,rfl,HTD⟩
     by_cases hb8:m.n / 8 % 2=1
     focus
      rw[if_pos hb8] at b8
      go_wp2_with fail
      have HTD:=hid (show ∃ vo,Td w ((V8.setCell ⟨wz,7,none⟩ (.slice (some ⟨V8.heap.size,0,none⟩) 2 2)).alloc (.cells #[.bool true,.string ⟨#[97]⟩,.string ⟨#[]⟩,.int .i64 0,.int .i64 0,.bool true,.string ⟨#[98]⟩,.string ⟨#[]⟩,.int .i64 0,.int .i64 0] 43)) Z wz c (.slice va x.1.length vc) x.1 qq vo from ⟨.slice (some ⟨V8.heap.size,0,none⟩) 2 2,by
       rw[show qq=M.s6 by rw[<-HQ];simp[M.Move.q,hw,hb8]]
       refine⟨by rw[Ah];simpa using (HQ8.set hwZ 7 (.slice (some ⟨V8.heap.size,0,none⟩) 2 2)).fr0 ((Fr.refl [] _).alloc (.cells #[.bool true,.string ⟨#[97]⟩,.string ⟨#[]⟩,.int .i64 0,.int .i64 0,.bool true,.string ⟨#[98]⟩,.string ⟨#[]⟩,.int .i64 0,.int .i64 0] 43)),.inr ⟨V8.heap.size,2,Nat.zero_le _,rfl,?_⟩,λh=>absurd rfl h⟩
       rw[AP]
       have:=Row.new (n:=2) (sz:=5) (e:=43) (V8.setCell ⟨wz,7,none⟩ (.slice (some ⟨V8.heap.size,0,none⟩) 2 2)) #[.bool true,.string ⟨#[97]⟩,.string ⟨#[]⟩,.int .i64 0,.int .i64 0,.bool true,.string ⟨#[98]⟩,.string ⟨#[]⟩,.int .i64 0,.int .i64 0] rfl (by decide)
       exact(show Row _ _ 5 V8.heap.size 2 2 _ by simpa using this)⟩)
      clear r7 z7 rl D8 HQ8 g8 gl8
      go_meet
      exact⟨by omega,rfl,HTD⟩
     rw[if_neg hb8] at b8
     go_wp2_with fail
     have HTD:=hid (show ∃ vo,Td w V8 Z wz c (.slice va x.1.length vc) x.1 qq vo from ⟨_,by rw[show qq=M.jE (m.n % 8).toNat by rw[<-HQ];simp[M.Move.q,hw,hb8]];exact D8⟩)
     clear r7 z7 rl D8 HQ8 g8 gl8
     go_meet
     exact⟨by omega,rfl,HTD⟩
    focus
     have HR5:=hid T5.rq
     obtain⟨r0,r1,r2,r3,r4,r5,r6,r7,r8,r9,r10⟩:=HR5.dW
     have rl:=HR5.lt
     have rz:=HR5.frozen
     simp at r0 r1 r2 r3 r4 r5 r6 r7 r8 r9 r10
     have z0:=rz 0
     have z1:=rz 1
     have z2:=rz 2
     have z3:=rz 3
     have z4:=rz 4
     have z5:=rz 5
     have z6:=rz 6
     have z7:=rz 7
     have z8:=rz 8
     have z9:=rz 9
     have z10:=rz 10
     have hm1:=IntWalk.i64_in (1+m.n / 16 % 4) (by omega)
     clear rz
     go_upto_region 26 with fail
     go_region
     obtain⟨W7,hW7⟩:∃ W,W=pQ W5 wz (.int .i64 8) (.string ⟨#[]⟩) (.string ⟨#[104,111,109,101]⟩) (.string ⟨#[]⟩) (.string ⟨#[]⟩) (.int .i64 0) (.int .i64 0) (.slice none 0 0) (.int .i64 (m.n % 16)) (.int .i64 (1+m.n / 16 % 4)) (.int .i64 0):=⟨_,rfl⟩
     have T7:=T5.put hwZ (.int .i64 8) (.string ⟨#[]⟩) (.string ⟨#[104,111,109,101]⟩) (.string ⟨#[]⟩) (.string ⟨#[]⟩) (.int .i64 0) (.int .i64 0) (.slice none 0 0) (.int .i64 (m.n % 16)) (.int .i64 (1+m.n / 16 % 4)) (.int .i64 0)
     have f7:=pP W5 wz (.int .i64 8) (.string ⟨#[]⟩) (.string ⟨#[104,111,109,101]⟩) (.string ⟨#[]⟩) (.string ⟨#[]⟩) (.int .i64 0) (.int .i64 0) (.slice none 0 0) (.int .i64 (m.n % 16)) (.int .i64 (1+m.n / 16 % 4)) (.int .i64 0)
     rw[<-hW7] at T7 f7
     simp only[pQ] at hW7
     rw[<-hW7]
     have g7:=f7.cell p2' pl' (by simpa using hbz)
     have gl7:=Nat.lt_of_lt_of_le pl' f7.size
     have fd:Fr [] W7 W7.drew:=rZ.drew
     have T8:=hid (T7.fr0 fd)
     have g8:=fd.cell g7 gl7 (by simp)
     have gl8:=Nat.lt_of_lt_of_le gl7 fd.size
     clear hW7 f7 g7 gl7 fd T7 r0 r1 r2 r3 r4 r5 r6 r7 r8 r9 r10 rl z0 z1 z2 z3 z4 z5 z6 z7 z8 z9 z10 HR5 p0' p2' pl' k1 kl
     generalize W7.drew=V8 at *
     have r8:=T8.rq.cell 8
     have z8:=T8.rq.frozen 8
     have rl:=T8.rq.lt
     have k1:=T8.cf.cell 1
     have kl:=T8.cf.lt
     simp[cellsOf] at r8 k1
     by_cases hb6:m.n / 64 % 2=1
     focus
      rw[if_pos hb6] at b64
      by_cases hst:c.start<1099511627776
      focus
       have hs0:=HO.s0
       have hm2:=IntWalk.i64_in (m.n % 16+c.start) (by omega)
       go_wp2_with fail
       have HTD:=hid (show ∃ vo,Td w (V8.setCell ⟨wz,8,none⟩ (.int .i64 (m.n % 16+c.start))) Z wz c (.slice va x.1.length vc) x.1 qq vo from ⟨.slice none 0 0,by
        rw[show qq=M.gA (m.n % 16+c.start) (1+m.n / 16 % 4) by rw[<-HQ];simp[M.Move.q,hw,hst,hb6]]
        exact⟨by rw[lA];simpa using T8.set hwZ 8 (.int .i64 (m.n % 16+c.start)),Own.nil _ _ _ _,λ_=>rfl⟩⟩)
       clear T8 g8 gl8 r8 z8 rl k1 kl hs0 hm2
       go_meet
       exact⟨by omega,rfl,HTD⟩
      go_wp2_with fail
      have HTD:=hid (show ∃ vo,Td w V8 Z wz c (.slice va x.1.length vc) x.1 qq vo from ⟨.slice none 0 0,by
       rw[show qq=M.gA (m.n % 16) (1+m.n / 16 % 4) by rw[<-HQ];unfold M.Move.q;rw[if_neg (show ¬ m.w=1 by omega),if_pos hw,if_neg (show ¬ (m.n / 64 % 2=1/\c.start<1099511627776) by omega),Int.add_zero]]
       exact⟨by rw[lA];exact T8,Own.nil _ _ _ _,λ_=>rfl⟩⟩)
      clear T8 g8 gl8 r8 z8 rl k1 kl
      go_meet
      exact⟨by omega,rfl,HTD⟩
     rw[if_neg hb6] at b64
     go_wp2_with fail
     have HTD:=hid (show ∃ vo,Td w V8 Z wz c (.slice va x.1.length vc) x.1 qq vo from ⟨.slice none 0 0,by
      rw[show qq=M.gA (m.n % 16) (1+m.n / 16 % 4) by rw[<-HQ];simp[M.Move.q,hw,hb6]]
      exact⟨by rw[lA];exact T8,Own.nil _ _ _ _,λ_=>rfl⟩⟩)
     clear T8 g8 gl8 r8 z8 rl k1 kl
     go_meet
     exact⟨by omega,rfl,HTD⟩
    go_wp2_with fail
    have HTD:=hid (show ∃ vo,Td w W5 Z wz c (.slice va x.1.length vc) x.1 qq vo from ⟨.slice none 0 0,by
     rw[show qq=M.xz by rw[<-HQ];simp[M.Move.q,hw]]
     exact⟨by rw[CQ];exact T5,Own.nil _ _ _ _,λ_=>rfl⟩⟩)
    go_meet
    exact⟨by omega,rfl,HTD⟩
   obtain⟨hw0,rfl,vo,hTD⟩:=hcut
   have HW0:=hid hw0
   have HTD:=hid hTD
   apply_assumption
   clear hTD hw0 nk nw k4 w4 a7 a15 a3 b8 b64 hwk p0' p2' pl' k1 kl T5 hbz
   have hx60:=IntWalk.i64_in ((x.2:Int)+1) (by omega)
   go_upto_region 30 with fail
   by_cases h60:(x.2:Int)+1<60
   focus
    have HE:=hid (HE1.out HW0.out (by omega))
    have HRQ2:=HTD.tq.rq
    obtain⟨u0,u1,u2,u3,u4,u5,u6,u7,u8,u9,u10⟩:=HRQ2.dW
    have ul:=HRQ2.lt
    simp[Ev.rqc] at u0 u1 u2 u3 u4 u5 u6 u7 u8 u9 u10
    have HFM:=hid (lO wc 0 qq vo HRQ HTD.ops HTD.nil)
    simp only[Ev.rqc] at HFM
    clear HRQ2
    go_wp2_with fail
    refine uu HFM λw8 f8=>?_
    have T8:=hid (HTD.tq.fr0 f8)
    obtain⟨sh,hsh⟩:∃ s,En.bytesOf (En.bU qq)=s:=⟨_,rfl⟩
    have HSH:=hid hsh
    try simp only[hsh]
    clear f8 hsh u0 u1 u2 u3 u4 u5 u6 u7 u8 u9 u10 ul HFM
    go_upto_region 14 with(at_builtin;(refine af rfl (.tmp 154) (.tmp 159) 29 rfl aI _ 40 underlying29 ai az0 az1 az2 rfl (by decide) (.slice va x.1.length vc) (ay (.slice va x.1.length vc)) rfl (T8.ac.sl.fr0 (rZ.alloc _)) _ 1 1 _ rfl (by rfl) (Fm.Cells.bO (aE (by simp))) (by simp[Value.oneCell']) (by unfold maxLen;omega) (by omega) ?_;intro v9 w9 own9 hs9 hf9 ho9 hm9;have HP:=hid (jW (Y:=[.snd m.k [qq]]) HZ T8.fr T8.ac (rZ.alloc _) rfl (by simp) (by rw[bS,qJ,HSH.out]) hs9 hf9 ho9 hm9);clear hs9 hf9 ho9 hm9))
    go_wp2_with fail
    go_roundw
    case rel=>exact⟨j+1,by go_num,by omega,by rw[HE];go_num,by rw[HE];exact HP.1,HP.2.1,HP.2.2 T8.cf (by decide)⟩
    simp[intOf];omega
   have HE:=hid (HE2.out HW0.out (by omega))
   go_wp2_with fail
   go_roundw
   case rel=>exact⟨j+1,by go_num,by omega,by rw[HE];go_num,by rw[HE];exact HTD.tq.ac,HTD.tq.fr,HTD.tq.cf⟩
   simp[intOf];omega
  obtain rfl:l=j:=by omega
  have hmv:mvs.take l=mvs:=by rw[<-HX.2];exact List.take_length
  rw[hmv] at hA
  go_wp2_with fail
  go_meet
  exact⟨hA,fr,hCw⟩
 obtain⟨hA,fr,hCw⟩:=hcut
 apply_assumption
 exact rest_any w _ c HO Z mvs drop _ hlen HG fr hA hCw
end Tp
