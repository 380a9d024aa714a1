/- Texts REncB, REncC, REncD, REncE. -/
import Derived.Test.YtjmkkcckfbnmeaaGreatDoorM18
import Derived.Test.YtjmkkcckfbnmeaaGreatDoorM33
import Derived.Test.YtjmkkcckfbnmeaaGreatDoorM34
import Derived.Test.YtjmkkcckfbnmeaaGreatDoorM36
import Derived.Test.YtjmkkcckfbnmeaaGreatDoorM51
import Derived.Deep.Cut
import Derived.Deep.RegionHeld3
set_option maxRecDepth 100000
set_option maxHeartbeats 8000000
set_option linter.all false
open Go.Lib (hid)
namespace Go.Proofs.YtjmkkcckfbnmeaaGreatDoor.Pr
open Go.RowKit Fm Pk Rq
theorem enc1 (w:World)(T:ByteArray)(hT:T.size≤247) 
  (hk:∀ W,Calls Tryz.prog 53 #[.agg (rqv 1 T em em em 0 0 (.slice none 0 0) 0 0 0).toArray] W fun e w'=>e = .returned (.int .i64 0)∧Fr [] W w') :
  Calls Tryz.prog 26 #[.agg (rqv 1 T em em em 0 0 (.slice none 0 0) 0 0 0).toArray] w fun e w'=>∃ v,e = .returned (.tuple #[v,.int .i64 0])∧BIn w' v (txt T)∧Fr [] w w':=by
 have HK:=hid hk
 obtain⟨g,hg⟩:∃ g,w.heap.size=g:=⟨_,rfl⟩
 obtain⟨wb,hwb⟩:∃ wb,wb=w.alloc (.cells #[.int .i64 1,.string T,.string em,.string em,.string em,.int .i64 0,.int .i64 0,.slice none 0 0,.int .i64 0,.int .i64 0,.int .i64 0] 41):=⟨_,rfl⟩
 have fb:Fr [] w wb:=by rw[hwb];exact(Fr.refl _ _).alloc _
 have HB:=hid (show Holds wb g 41 #[.int .i64 1,.string T,.string em,.string em,.string em,.int .i64 0,.int .i64 0,.slice none 0 0,.int .i64 0,.int .i64 0,.int .i64 0] by rw[hwb,←hg];exact Holds.new _ _ _)
 have HC:=hid (fun W (f:Fr [] wb W)=>(show g<W.heap.size∧W.cell? ⟨g,0,none⟩=some (.int .i64 1)∧W.cell? ⟨g,1,none⟩=some (.string T)∧W.cell? ⟨g,2,none⟩=some (.string em)∧W.cell? ⟨g,3,none⟩=some (.string em)∧W.cell? ⟨g,4,none⟩=some (.string em)∧W.cell? ⟨g,5,none⟩=some (.int .i64 0)∧W.cell? ⟨g,6,none⟩=some (.int .i64 0)∧W.cell? ⟨g,7,none⟩=some (.slice none 0 0)∧W.cell? ⟨g,8,none⟩=some (.int .i64 0)∧W.cell? ⟨g,9,none⟩=some (.int .i64 0)∧W.cell? ⟨g,10,none⟩=some (.int .i64 0) from by
  have H:=HB.out.fr f (by simp)
  exact⟨H.lt,H.cell 0,H.cell 1,H.cell 2,H.cell 3,H.cell 4,H.cell 5,H.cell 6,H.cell 7,H.cell 8,H.cell 9,H.cell 10⟩))
 clear hk
 go_enter Tryz.func26,Tryz.ntmps26
 go_wp2_with fail
 rw[←hwb]
 refine(HK.out _).mono ?_
 rintro e w0 ⟨rfl,f0⟩
 have F0:=hid (fb.trans f0)
 have G0:=hid f0
 obtain⟨hgl,c0,c1,c2,c3,c4,c5,c6,c7,c8,c9,c10⟩:=HC.out w0 f0
 clear hwb fb f0
 try simp only[hg]
 go_wp2_with fail
 refine(text_any w0 _ [] T (BIn.nil _) (by simp) hT).mono ?_
 rintro e w1 ⟨v1,rfl,o1,f1⟩
 go_wp2_with fail
 go_ret2
 exact⟨_,rfl,by simpa using o1.bin,F0.out.trans f1⟩
theorem enc2 (w:World)(H:ByteArray)(hH:H.size≤247) 
  (hk:∀ W,Calls Tryz.prog 53 #[.agg (rqv 2 em H em em 0 0 (.slice none 0 0) 0 0 0).toArray] W fun e w'=>e = .returned (.int .i64 0)∧Fr [] W w') :
  Calls Tryz.prog 26 #[.agg (rqv 2 em H em em 0 0 (.slice none 0 0) 0 0 0).toArray] w fun e w'=>∃ v,e = .returned (.tuple #[v,.int .i64 0])∧BIn w' v (txt H)∧Fr [] w w':=by
 have HK:=hid hk
 obtain⟨g,hg⟩:∃ g,w.heap.size=g:=⟨_,rfl⟩
 obtain⟨wb,hwb⟩:∃ wb,wb=w.alloc (.cells #[.int .i64 2,.string em,.string H,.string em,.string em,.int .i64 0,.int .i64 0,.slice none 0 0,.int .i64 0,.int .i64 0,.int .i64 0] 41):=⟨_,rfl⟩
 have fb:Fr [] w wb:=by rw[hwb];exact(Fr.refl _ _).alloc _
 have HB:=hid (show Holds wb g 41 #[.int .i64 2,.string em,.string H,.string em,.string em,.int .i64 0,.int .i64 0,.slice none 0 0,.int .i64 0,.int .i64 0,.int .i64 0] by rw[hwb,←hg];exact Holds.new _ _ _)
 have HC:=hid (fun W (f:Fr [] wb W)=>(show g<W.heap.size∧W.cell? ⟨g,0,none⟩=some (.int .i64 2)∧W.cell? ⟨g,1,none⟩=some (.string em)∧W.cell? ⟨g,2,none⟩=some (.string H)∧W.cell? ⟨g,3,none⟩=some (.string em)∧W.cell? ⟨g,4,none⟩=some (.string em)∧W.cell? ⟨g,5,none⟩=some (.int .i64 0)∧W.cell? ⟨g,6,none⟩=some (.int .i64 0)∧W.cell? ⟨g,7,none⟩=some (.slice none 0 0)∧W.cell? ⟨g,8,none⟩=some (.int .i64 0)∧W.cell? ⟨g,9,none⟩=some (.int .i64 0)∧W.cell? ⟨g,10,none⟩=some (.int .i64 0) from by
  have H:=HB.out.fr f (by simp)
  exact⟨H.lt,H.cell 0,H.cell 1,H.cell 2,H.cell 3,H.cell 4,H.cell 5,H.cell 6,H.cell 7,H.cell 8,H.cell 9,H.cell 10⟩))
 clear hk
 go_enter Tryz.func26,Tryz.ntmps26
 go_wp2_with fail
 rw[←hwb]
 refine(HK.out _).mono ?_
 rintro e w0 ⟨rfl,f0⟩
 have F0:=hid (fb.trans f0)
 have G0:=hid f0
 obtain⟨hgl,c0,c1,c2,c3,c4,c5,c6,c7,c8,c9,c10⟩:=HC.out w0 f0
 clear hwb fb f0
 try simp only[hg]
 go_wp2_with fail
 refine(text_any w0 _ [] H (BIn.nil _) (by simp) hH).mono ?_
 rintro e w1 ⟨v1,rfl,o1,f1⟩
 go_wp2_with fail
 go_ret2
 exact⟨_,rfl,by simpa using o1.bin,F0.out.trans f1⟩
theorem enc3 (w:World)(H:ByteArray)(hH:H.size≤247) 
  (hk:∀ W,Calls Tryz.prog 53 #[.agg (rqv 3 em H em em 0 0 (.slice none 0 0) 0 0 0).toArray] W fun e w'=>e = .returned (.int .i64 0)∧Fr [] W w') :
  Calls Tryz.prog 26 #[.agg (rqv 3 em H em em 0 0 (.slice none 0 0) 0 0 0).toArray] w fun e w'=>∃ v,e = .returned (.tuple #[v,.int .i64 0])∧BIn w' v (txt H)∧Fr [] w w':=by
 have HK:=hid hk
 obtain⟨g,hg⟩:∃ g,w.heap.size=g:=⟨_,rfl⟩
 obtain⟨wb,hwb⟩:∃ wb,wb=w.alloc (.cells #[.int .i64 3,.string em,.string H,.string em,.string em,.int .i64 0,.int .i64 0,.slice none 0 0,.int .i64 0,.int .i64 0,.int .i64 0] 41):=⟨_,rfl⟩
 have fb:Fr [] w wb:=by rw[hwb];exact(Fr.refl _ _).alloc _
 have HB:=hid (show Holds wb g 41 #[.int .i64 3,.string em,.string H,.string em,.string em,.int .i64 0,.int .i64 0,.slice none 0 0,.int .i64 0,.int .i64 0,.int .i64 0] by rw[hwb,←hg];exact Holds.new _ _ _)
 have HC:=hid (fun W (f:Fr [] wb W)=>(show g<W.heap.size∧W.cell? ⟨g,0,none⟩=some (.int .i64 3)∧W.cell? ⟨g,1,none⟩=some (.string em)∧W.cell? ⟨g,2,none⟩=some (.string H)∧W.cell? ⟨g,3,none⟩=some (.string em)∧W.cell? ⟨g,4,none⟩=some (.string em)∧W.cell? ⟨g,5,none⟩=some (.int .i64 0)∧W.cell? ⟨g,6,none⟩=some (.int .i64 0)∧W.cell? ⟨g,7,none⟩=some (.slice none 0 0)∧W.cell? ⟨g,8,none⟩=some (.int .i64 0)∧W.cell? ⟨g,9,none⟩=some (.int .i64 0)∧W.cell? ⟨g,10,none⟩=some (.int .i64 0) from by
  have H:=HB.out.fr f (by simp)
  exact⟨H.lt,H.cell 0,H.cell 1,H.cell 2,H.cell 3,H.cell 4,H.cell 5,H.cell 6,H.cell 7,H.cell 8,H.cell 9,H.cell 10⟩))
 clear hk
 go_enter Tryz.func26,Tryz.ntmps26
 go_wp2_with fail
 rw[←hwb]
 refine(HK.out _).mono ?_
 rintro e w0 ⟨rfl,f0⟩
 have F0:=hid (fb.trans f0)
 have G0:=hid f0
 obtain⟨hgl,c0,c1,c2,c3,c4,c5,c6,c7,c8,c9,c10⟩:=HC.out w0 f0
 clear hwb fb f0
 try simp only[hg]
 go_wp2_with fail
 refine(text_any w0 _ [] H (BIn.nil _) (by simp) hH).mono ?_
 rintro e w1 ⟨v1,rfl,o1,f1⟩
 go_wp2_with fail
 go_ret2
 exact⟨_,rfl,by simpa using o1.bin,F0.out.trans f1⟩
theorem enc4 (w:World)(H u c:ByteArray)(ck cv:Int)(hH:H.size≤247)(hu:u.size≤247)(hc:c.size≤247)(ck0:0≤ck)(ck1:ck≤247)(cv0:0≤cv)(cv1:cv≤247)
  (hk:∀ W,Calls Tryz.prog 53 #[.agg (rqv 4 em H u c ck cv (.slice none 0 0) 0 0 0).toArray] W fun e w'=>e = .returned (.int .i64 0)∧Fr [] W w') :
  Calls Tryz.prog 26 #[.agg (rqv 4 em H u c ck cv (.slice none 0 0) 0 0 0).toArray] w fun e w'=>∃ v,e = .returned (.tuple #[v,.int .i64 0])∧BIn w' v (txt H++txt u++txt c++En.condB ck cv)∧Fr [] w w':=by
 have HK:=hid hk
 obtain⟨g,hg⟩:∃ g,w.heap.size=g:=⟨_,rfl⟩
 obtain⟨wb,hwb⟩:∃ wb,wb=w.alloc (.cells #[.int .i64 4,.string em,.string H,.string u,.string c,.int .i64 ck,.int .i64 cv,.slice none 0 0,.int .i64 0,.int .i64 0,.int .i64 0] 41):=⟨_,rfl⟩
 have fb:Fr [] w wb:=by rw[hwb];exact(Fr.refl _ _).alloc _
 have HB:=hid (show Holds wb g 41 #[.int .i64 4,.string em,.string H,.string u,.string c,.int .i64 ck,.int .i64 cv,.slice none 0 0,.int .i64 0,.int .i64 0,.int .i64 0] by rw[hwb,←hg];exact Holds.new _ _ _)
 have HC:=hid (fun W (f:Fr [] wb W)=>(show g<W.heap.size∧W.cell? ⟨g,0,none⟩=some (.int .i64 4)∧W.cell? ⟨g,1,none⟩=some (.string em)∧W.cell? ⟨g,2,none⟩=some (.string H)∧W.cell? ⟨g,3,none⟩=some (.string u)∧W.cell? ⟨g,4,none⟩=some (.string c)∧W.cell? ⟨g,5,none⟩=some (.int .i64 ck)∧W.cell? ⟨g,6,none⟩=some (.int .i64 cv)∧W.cell? ⟨g,7,none⟩=some (.slice none 0 0)∧W.cell? ⟨g,8,none⟩=some (.int .i64 0)∧W.cell? ⟨g,9,none⟩=some (.int .i64 0)∧W.cell? ⟨g,10,none⟩=some (.int .i64 0) from by
  have H:=HB.out.fr f (by simp)
  exact⟨H.lt,H.cell 0,H.cell 1,H.cell 2,H.cell 3,H.cell 4,H.cell 5,H.cell 6,H.cell 7,H.cell 8,H.cell 9,H.cell 10⟩))
 clear hk
 go_enter Tryz.func26,Tryz.ntmps26
 go_wp2_with fail
 rw[←hwb]
 refine(HK.out _).mono ?_
 rintro e w0 ⟨rfl,f0⟩
 have F0:=hid (fb.trans f0)
 have G0:=hid f0
 obtain⟨hgl,c0,c1,c2,c3,c4,c5,c6,c7,c8,c9,c10⟩:=HC.out w0 f0
 clear hwb fb f0
 try simp only[hg]
 go_upto_region 12 with fail
 have HS:=hid (fun W (f:Fr [] w0 W)=>(show W.cell? ⟨g,2,none⟩=some (.string H)∧W.cell? ⟨g,3,none⟩=some (.string u)∧W.cell? ⟨g,4,none⟩=some (.string c)∧W.cell? ⟨g,5,none⟩=some (.int .i64 ck)∧W.cell? ⟨g,6,none⟩=some (.int .i64 cv) from by
  obtain⟨_,q0,q1,q2,q3,q4,q5,q6,q7,q8,q9,q10⟩:=HC.out W (G0.out.trans f)
  exact⟨q2,q3,q4,q5,q6⟩))
 have hS:=HS.out w0 (Fr.refl _ _)
 go_region_held3 (fun w'=>w'.cell? ⟨g,2,none⟩=some (.string H)∧w'.cell? ⟨g,3,none⟩=some (.string u)∧w'.cell? ⟨g,4,none⟩=some (.string c)∧w'.cell? ⟨g,5,none⟩=some (.int .i64 ck)∧w'.cell? ⟨g,6,none⟩=some (.int .i64 cv)) (first|go_keep|exact hS|(simpa[go_sem] using hS))
  (first
   | (go_at_call 55;refine(cond_any _ _ _ ck cv (o3.bin.fr (by first|exact(Fr.refl _ _)|exact(Fr.refl _ _).drewN _|exact(Fr.refl _ _).drew)) (by simp[txt];omega) ck0 ck1 cv0 cv1).mono ?_;rintro e w4 ⟨v4,rfl,o4,f4'⟩;have f4:Fr [] w3 w4:=(by first|exact f4'|exact((Fr.refl _ _).drewN _).trans f4'|exact((Fr.refl _ _).drew).trans f4');have X4:Fr [] w0 w4:=X3.trans f4;have hS:=HS.out w4 X4)
   | (go_at_call 54;refine(text_any _ _ _ c (o2.bin.fr (by first|exact(Fr.refl _ _)|exact(Fr.refl _ _).drewN _|exact(Fr.refl _ _).drew)) (by simp[txt];try omega) hc).mono ?_;rintro e w3 ⟨v3,rfl,o3,f3'⟩;have f3:Fr [] w2 w3:=(by first|exact f3'|exact((Fr.refl _ _).drewN _).trans f3'|exact((Fr.refl _ _).drew).trans f3');have X3:Fr [] w0 w3:=X2.trans f3;have hS:=HS.out w3 X3)
   | (go_at_call 54;refine(text_any _ _ _ u (o1.bin.fr (by first|exact(Fr.refl _ _)|exact(Fr.refl _ _).drewN _|exact(Fr.refl _ _).drew)) (by simp[txt];try omega) hu).mono ?_;rintro e w2 ⟨v2,rfl,o2,f2'⟩;have f2:Fr [] w1 w2:=(by first|exact f2'|exact((Fr.refl _ _).drewN _).trans f2'|exact((Fr.refl _ _).drew).trans f2');have X2:Fr [] w0 w2:=X1.trans f2;have hS:=HS.out w2 X2)
   | (go_at_call 54;refine(text_any _ _ [] H (BIn.nil _) (by simp[txt];try omega) hH).mono ?_;rintro e w1 ⟨v1,rfl,o1,f1'⟩;have f1:Fr [] w0 w1:=(by first|exact f1'|exact((Fr.refl _ _).drewN _).trans f1'|exact((Fr.refl _ _).drew).trans f1');have X1:Fr [] w0 w1:=f1;have hS:=HS.out w1 X1))
 all_goals
  go_wp2_with fail
  go_ret2
  exact⟨_,rfl,by simpa using o4.bin,F0.out.trans X4⟩
theorem enc5 (w:World)(H u:ByteArray)(ck cv:Int)(hH:H.size≤247)(hu:u.size≤247)(ck0:0≤ck)(ck1:ck≤247)(cv0:0≤cv)(cv1:cv≤247)
  (hk:∀ W,Calls Tryz.prog 53 #[.agg (rqv 5 em H u em ck cv (.slice none 0 0) 0 0 0).toArray] W fun e w'=>e = .returned (.int .i64 0)∧Fr [] W w') :
  Calls Tryz.prog 26 #[.agg (rqv 5 em H u em ck cv (.slice none 0 0) 0 0 0).toArray] w fun e w'=>∃ v,e = .returned (.tuple #[v,.int .i64 0])∧BIn w' v (txt H++txt u++En.condB ck cv)∧Fr [] w w':=by
 have HK:=hid hk
 obtain⟨g,hg⟩:∃ g,w.heap.size=g:=⟨_,rfl⟩
 obtain⟨wb,hwb⟩:∃ wb,wb=w.alloc (.cells #[.int .i64 5,.string em,.string H,.string u,.string em,.int .i64 ck,.int .i64 cv,.slice none 0 0,.int .i64 0,.int .i64 0,.int .i64 0] 41):=⟨_,rfl⟩
 have fb:Fr [] w wb:=by rw[hwb];exact(Fr.refl _ _).alloc _
 have HB:=hid (show Holds wb g 41 #[.int .i64 5,.string em,.string H,.string u,.string em,.int .i64 ck,.int .i64 cv,.slice none 0 0,.int .i64 0,.int .i64 0,.int .i64 0] by rw[hwb,←hg];exact Holds.new _ _ _)
 have HC:=hid (fun W (f:Fr [] wb W)=>(show g<W.heap.size∧W.cell? ⟨g,0,none⟩=some (.int .i64 5)∧W.cell? ⟨g,1,none⟩=some (.string em)∧W.cell? ⟨g,2,none⟩=some (.string H)∧W.cell? ⟨g,3,none⟩=some (.string u)∧W.cell? ⟨g,4,none⟩=some (.string em)∧W.cell? ⟨g,5,none⟩=some (.int .i64 ck)∧W.cell? ⟨g,6,none⟩=some (.int .i64 cv)∧W.cell? ⟨g,7,none⟩=some (.slice none 0 0)∧W.cell? ⟨g,8,none⟩=some (.int .i64 0)∧W.cell? ⟨g,9,none⟩=some (.int .i64 0)∧W.cell? ⟨g,10,none⟩=some (.int .i64 0) from by
  have H:=HB.out.fr f (by simp)
  exact⟨H.lt,H.cell 0,H.cell 1,H.cell 2,H.cell 3,H.cell 4,H.cell 5,H.cell 6,H.cell 7,H.cell 8,H.cell 9,H.cell 10⟩))
 clear hk
 go_enter Tryz.func26,Tryz.ntmps26
 go_wp2_with fail
 rw[←hwb]
 refine(HK.out _).mono ?_
 rintro e w0 ⟨rfl,f0⟩
 have F0:=hid (fb.trans f0)
 have G0:=hid f0
 obtain⟨hgl,c0,c1,c2,c3,c4,c5,c6,c7,c8,c9,c10⟩:=HC.out w0 f0
 clear hwb fb f0
 try simp only[hg]
 go_upto_region 14 with fail
 have HS:=hid (fun W (f:Fr [] w0 W)=>(show W.cell? ⟨g,2,none⟩=some (.string H)∧W.cell? ⟨g,3,none⟩=some (.string u)∧W.cell? ⟨g,5,none⟩=some (.int .i64 ck)∧W.cell? ⟨g,6,none⟩=some (.int .i64 cv) from by
  obtain⟨_,q0,q1,q2,q3,q4,q5,q6,q7,q8,q9,q10⟩:=HC.out W (G0.out.trans f)
  exact⟨q2,q3,q5,q6⟩))
 have hS:=HS.out w0 (Fr.refl _ _)
 go_region_held3 (fun w'=>w'.cell? ⟨g,2,none⟩=some (.string H)∧w'.cell? ⟨g,3,none⟩=some (.string u)∧w'.cell? ⟨g,5,none⟩=some (.int .i64 ck)∧w'.cell? ⟨g,6,none⟩=some (.int .i64 cv)) (first|go_keep|exact hS|(simpa[go_sem] using hS))
  (first
   | (go_at_call 55;refine(cond_any _ _ _ ck cv (o2.bin.fr (by first|exact(Fr.refl _ _)|exact(Fr.refl _ _).drewN _|exact(Fr.refl _ _).drew)) (by simp[txt];omega) ck0 ck1 cv0 cv1).mono ?_;rintro e w3 ⟨v3,rfl,o3,f3'⟩;have f3:Fr [] w2 w3:=(by first|exact f3'|exact((Fr.refl _ _).drewN _).trans f3'|exact((Fr.refl _ _).drew).trans f3');have X3:Fr [] w0 w3:=X2.trans f3;have hS:=HS.out w3 X3)
   | (go_at_call 54;refine(text_any _ _ _ u (o1.bin.fr (by first|exact(Fr.refl _ _)|exact(Fr.refl _ _).drewN _|exact(Fr.refl _ _).drew)) (by simp[txt];try omega) hu).mono ?_;rintro e w2 ⟨v2,rfl,o2,f2'⟩;have f2:Fr [] w1 w2:=(by first|exact f2'|exact((Fr.refl _ _).drewN _).trans f2'|exact((Fr.refl _ _).drew).trans f2');have X2:Fr [] w0 w2:=X1.trans f2;have hS:=HS.out w2 X2)
   | (go_at_call 54;refine(text_any _ _ [] H (BIn.nil _) (by simp[txt];try omega) hH).mono ?_;rintro e w1 ⟨v1,rfl,o1,f1'⟩;have f1:Fr [] w0 w1:=(by first|exact f1'|exact((Fr.refl _ _).drewN _).trans f1'|exact((Fr.refl _ _).drew).trans f1');have X1:Fr [] w0 w1:=f1;have hS:=HS.out w1 X1))
 all_goals
  go_wp2_with fail
  go_ret2
  exact⟨_,rfl,by simpa using o3.bin,F0.out.trans X3⟩
theorem enc6 (w:World)(H u:ByteArray)(hH:H.size≤247)(hu:u.size≤247) 
  (hk:∀ W,Calls Tryz.prog 53 #[.agg (rqv 6 em H u em 0 0 (.slice none 0 0) 0 0 0).toArray] W fun e w'=>e = .returned (.int .i64 0)∧Fr [] W w') :
  Calls Tryz.prog 26 #[.agg (rqv 6 em H u em 0 0 (.slice none 0 0) 0 0 0).toArray] w fun e w'=>∃ v,e = .returned (.tuple #[v,.int .i64 0])∧BIn w' v (txt H++txt u)∧Fr [] w w':=by
 have HK:=hid hk
 obtain⟨g,hg⟩:∃ g,w.heap.size=g:=⟨_,rfl⟩
 obtain⟨wb,hwb⟩:∃ wb,wb=w.alloc (.cells #[.int .i64 6,.string em,.string H,.string u,.string em,.int .i64 0,.int .i64 0,.slice none 0 0,.int .i64 0,.int .i64 0,.int .i64 0] 41):=⟨_,rfl⟩
 have fb:Fr [] w wb:=by rw[hwb];exact(Fr.refl _ _).alloc _
 have HB:=hid (show Holds wb g 41 #[.int .i64 6,.string em,.string H,.string u,.string em,.int .i64 0,.int .i64 0,.slice none 0 0,.int .i64 0,.int .i64 0,.int .i64 0] by rw[hwb,←hg];exact Holds.new _ _ _)
 have HC:=hid (fun W (f:Fr [] wb W)=>(show g<W.heap.size∧W.cell? ⟨g,0,none⟩=some (.int .i64 6)∧W.cell? ⟨g,1,none⟩=some (.string em)∧W.cell? ⟨g,2,none⟩=some (.string H)∧W.cell? ⟨g,3,none⟩=some (.string u)∧W.cell? ⟨g,4,none⟩=some (.string em)∧W.cell? ⟨g,5,none⟩=some (.int .i64 0)∧W.cell? ⟨g,6,none⟩=some (.int .i64 0)∧W.cell? ⟨g,7,none⟩=some (.slice none 0 0)∧W.cell? ⟨g,8,none⟩=some (.int .i64 0)∧W.cell? ⟨g,9,none⟩=some (.int .i64 0)∧W.cell? ⟨g,10,none⟩=some (.int .i64 0) from by
  have H:=HB.out.fr f (by simp)
  exact⟨H.lt,H.cell 0,H.cell 1,H.cell 2,H.cell 3,H.cell 4,H.cell 5,H.cell 6,H.cell 7,H.cell 8,H.cell 9,H.cell 10⟩))
 clear hk
 go_enter Tryz.func26,Tryz.ntmps26
 go_wp2_with fail
 rw[←hwb]
 refine(HK.out _).mono ?_
 rintro e w0 ⟨rfl,f0⟩
 have F0:=hid (fb.trans f0)
 have G0:=hid f0
 obtain⟨hgl,c0,c1,c2,c3,c4,c5,c6,c7,c8,c9,c10⟩:=HC.out w0 f0
 clear hwb fb f0
 try simp only[hg]
 go_upto_region 16 with fail
 have HS:=hid (fun W (f:Fr [] w0 W)=>(show W.cell? ⟨g,2,none⟩=some (.string H)∧W.cell? ⟨g,3,none⟩=some (.string u) from by
  obtain⟨_,q0,q1,q2,q3,q4,q5,q6,q7,q8,q9,q10⟩:=HC.out W (G0.out.trans f)
  exact⟨q2,q3⟩))
 have hS:=HS.out w0 (Fr.refl _ _)
 go_region_held3 (fun w'=>w'.cell? ⟨g,2,none⟩=some (.string H)∧w'.cell? ⟨g,3,none⟩=some (.string u)) (first|go_keep|exact hS|(simpa[go_sem] using hS))
  (first
   | (go_at_call 54;refine(text_any _ _ _ u (o1.bin.fr (by first|exact(Fr.refl _ _)|exact(Fr.refl _ _).drewN _|exact(Fr.refl _ _).drew)) (by simp[txt];try omega) hu).mono ?_;rintro e w2 ⟨v2,rfl,o2,f2'⟩;have f2:Fr [] w1 w2:=(by first|exact f2'|exact((Fr.refl _ _).drewN _).trans f2'|exact((Fr.refl _ _).drew).trans f2');have X2:Fr [] w0 w2:=X1.trans f2;have hS:=HS.out w2 X2)
   | (go_at_call 54;refine(text_any _ _ [] H (BIn.nil _) (by simp[txt];try omega) hH).mono ?_;rintro e w1 ⟨v1,rfl,o1,f1'⟩;have f1:Fr [] w0 w1:=(by first|exact f1'|exact((Fr.refl _ _).drewN _).trans f1'|exact((Fr.refl _ _).drew).trans f1');have X1:Fr [] w0 w1:=f1;have hS:=HS.out w1 X1))
 all_goals
  go_wp2_with fail
  go_ret2
  exact⟨_,rfl,by simpa using o2.bin,F0.out.trans X2⟩
theorem enc8 (w:World)(H:ByteArray)(tk ms:Int)(hH:H.size≤247)(tk0:0≤tk)(tk1:tk≤247)(ms0:0≤ms)(ms1:ms≤247)
  (hk:∀ W,Calls Tryz.prog 53 #[.agg (rqv 8 em H em em 0 0 (.slice none 0 0) tk ms 0).toArray] W fun e w'=>e = .returned (.int .i64 0)∧Fr [] W w') :
  Calls Tryz.prog 26 #[.agg (rqv 8 em H em em 0 0 (.slice none 0 0) tk ms 0).toArray] w fun e w'=>∃ v,e = .returned (.tuple #[v,.int .i64 0])∧BIn w' v (txt H++[nb tk]++[nb ms])∧Fr [] w w':=by
 have HK:=hid hk
 obtain⟨g,hg⟩:∃ g,w.heap.size=g:=⟨_,rfl⟩
 obtain⟨wb,hwb⟩:∃ wb,wb=w.alloc (.cells #[.int .i64 8,.string em,.string H,.string em,.string em,.int .i64 0,.int .i64 0,.slice none 0 0,.int .i64 tk,.int .i64 ms,.int .i64 0] 41):=⟨_,rfl⟩
 have fb:Fr [] w wb:=by rw[hwb];exact(Fr.refl _ _).alloc _
 have HB:=hid (show Holds wb g 41 #[.int .i64 8,.string em,.string H,.string em,.string em,.int .i64 0,.int .i64 0,.slice none 0 0,.int .i64 tk,.int .i64 ms,.int .i64 0] by rw[hwb,←hg];exact Holds.new _ _ _)
 have HC:=hid (fun W (f:Fr [] wb W)=>(show g<W.heap.size∧W.cell? ⟨g,0,none⟩=some (.int .i64 8)∧W.cell? ⟨g,1,none⟩=some (.string em)∧W.cell? ⟨g,2,none⟩=some (.string H)∧W.cell? ⟨g,3,none⟩=some (.string em)∧W.cell? ⟨g,4,none⟩=some (.string em)∧W.cell? ⟨g,5,none⟩=some (.int .i64 0)∧W.cell? ⟨g,6,none⟩=some (.int .i64 0)∧W.cell? ⟨g,7,none⟩=some (.slice none 0 0)∧W.cell? ⟨g,8,none⟩=some (.int .i64 tk)∧W.cell? ⟨g,9,none⟩=some (.int .i64 ms)∧W.cell? ⟨g,10,none⟩=some (.int .i64 0) from by
  have H:=HB.out.fr f (by simp)
  exact⟨H.lt,H.cell 0,H.cell 1,H.cell 2,H.cell 3,H.cell 4,H.cell 5,H.cell 6,H.cell 7,H.cell 8,H.cell 9,H.cell 10⟩))
 clear hk
 go_enter Tryz.func26,Tryz.ntmps26
 go_wp2_with fail
 rw[←hwb]
 refine(HK.out _).mono ?_
 rintro e w0 ⟨rfl,f0⟩
 have F0:=hid (fb.trans f0)
 have G0:=hid f0
 obtain⟨hgl,c0,c1,c2,c3,c4,c5,c6,c7,c8,c9,c10⟩:=HC.out w0 f0
 clear hwb fb f0
 try simp only[hg]
 go_upto_region 28 with fail
 have HS:=hid (fun W (f:Fr [] w0 W)=>(show W.cell? ⟨g,2,none⟩=some (.string H)∧W.cell? ⟨g,8,none⟩=some (.int .i64 tk)∧W.cell? ⟨g,9,none⟩=some (.int .i64 ms) from by
  obtain⟨_,q0,q1,q2,q3,q4,q5,q6,q7,q8,q9,q10⟩:=HC.out W (G0.out.trans f)
  exact⟨q2,q8,q9⟩))
 have hS:=HS.out w0 (Fr.refl _ _)
 go_region_held3 (fun w'=>w'.cell? ⟨g,2,none⟩=some (.string H)∧w'.cell? ⟨g,8,none⟩=some (.int .i64 tk)∧w'.cell? ⟨g,9,none⟩=some (.int .i64 ms)) (first|go_keep|exact hS|(simpa[go_sem] using hS))
  (first
   | (go_at_call 56;refine(num_any _ _ _ ms (o2.bin.fr (by first|exact(Fr.refl _ _)|exact(Fr.refl _ _).drewN _|exact(Fr.refl _ _).drew)) (by simp[txt];omega) ms0 ms1).mono ?_;rintro e w3 ⟨v3,rfl,o3,f3'⟩;have f3:Fr [] w2 w3:=(by first|exact f3'|exact((Fr.refl _ _).drewN _).trans f3'|exact((Fr.refl _ _).drew).trans f3');have X3:Fr [] w0 w3:=X2.trans f3;have hS:=HS.out w3 X3)
   | (go_at_call 56;refine(num_any _ _ _ tk (o1.bin.fr (by first|exact(Fr.refl _ _)|exact(Fr.refl _ _).drewN _|exact(Fr.refl _ _).drew)) (by simp[txt];omega) tk0 tk1).mono ?_;rintro e w2 ⟨v2,rfl,o2,f2'⟩;have f2:Fr [] w1 w2:=(by first|exact f2'|exact((Fr.refl _ _).drewN _).trans f2'|exact((Fr.refl _ _).drew).trans f2');have X2:Fr [] w0 w2:=X1.trans f2;have hS:=HS.out w2 X2)
   | (go_at_call 54;refine(text_any _ _ [] H (BIn.nil _) (by simp[txt];try omega) hH).mono ?_;rintro e w1 ⟨v1,rfl,o1,f1'⟩;have f1:Fr [] w0 w1:=(by first|exact f1'|exact((Fr.refl _ _).drewN _).trans f1'|exact((Fr.refl _ _).drew).trans f1');have X1:Fr [] w0 w1:=f1;have hS:=HS.out w1 X1))
 all_goals
  go_wp2_with fail
  go_ret2
  exact⟨_,rfl,by simpa using o3.bin,F0.out.trans X3⟩
theorem enc9 (w:World)(H:ByteArray)(tk tc:Int)(hH:H.size≤247)(tk0:0≤tk)(tk1:tk≤247)(tc0:0≤tc)(tc1:tc≤247)
  (hk:∀ W,Calls Tryz.prog 53 #[.agg (rqv 9 em H em em 0 0 (.slice none 0 0) tk 0 tc).toArray] W fun e w'=>e = .returned (.int .i64 0)∧Fr [] W w') :
  Calls Tryz.prog 26 #[.agg (rqv 9 em H em em 0 0 (.slice none 0 0) tk 0 tc).toArray] w fun e w'=>∃ v,e = .returned (.tuple #[v,.int .i64 0])∧BIn w' v (txt H++[nb tk]++[nb tc])∧Fr [] w w':=by
 have HK:=hid hk
 obtain⟨g,hg⟩:∃ g,w.heap.size=g:=⟨_,rfl⟩
 obtain⟨wb,hwb⟩:∃ wb,wb=w.alloc (.cells #[.int .i64 9,.string em,.string H,.string em,.string em,.int .i64 0,.int .i64 0,.slice none 0 0,.int .i64 tk,.int .i64 0,.int .i64 tc] 41):=⟨_,rfl⟩
 have fb:Fr [] w wb:=by rw[hwb];exact(Fr.refl _ _).alloc _
 have HB:=hid (show Holds wb g 41 #[.int .i64 9,.string em,.string H,.string em,.string em,.int .i64 0,.int .i64 0,.slice none 0 0,.int .i64 tk,.int .i64 0,.int .i64 tc] by rw[hwb,←hg];exact Holds.new _ _ _)
 have HC:=hid (fun W (f:Fr [] wb W)=>(show g<W.heap.size∧W.cell? ⟨g,0,none⟩=some (.int .i64 9)∧W.cell? ⟨g,1,none⟩=some (.string em)∧W.cell? ⟨g,2,none⟩=some (.string H)∧W.cell? ⟨g,3,none⟩=some (.string em)∧W.cell? ⟨g,4,none⟩=some (.string em)∧W.cell? ⟨g,5,none⟩=some (.int .i64 0)∧W.cell? ⟨g,6,none⟩=some (.int .i64 0)∧W.cell? ⟨g,7,none⟩=some (.slice none 0 0)∧W.cell? ⟨g,8,none⟩=some (.int .i64 tk)∧W.cell? ⟨g,9,none⟩=some (.int .i64 0)∧W.cell? ⟨g,10,none⟩=some (.int .i64 tc) from by
  have H:=HB.out.fr f (by simp)
  exact⟨H.lt,H.cell 0,H.cell 1,H.cell 2,H.cell 3,H.cell 4,H.cell 5,H.cell 6,H.cell 7,H.cell 8,H.cell 9,H.cell 10⟩))
 clear hk
 go_enter Tryz.func26,Tryz.ntmps26
 go_wp2_with fail
 rw[←hwb]
 refine(HK.out _).mono ?_
 rintro e w0 ⟨rfl,f0⟩
 have F0:=hid (fb.trans f0)
 have G0:=hid f0
 obtain⟨hgl,c0,c1,c2,c3,c4,c5,c6,c7,c8,c9,c10⟩:=HC.out w0 f0
 clear hwb fb f0
 try simp only[hg]
 go_upto_region 30 with fail
 have HS:=hid (fun W (f:Fr [] w0 W)=>(show W.cell? ⟨g,2,none⟩=some (.string H)∧W.cell? ⟨g,8,none⟩=some (.int .i64 tk)∧W.cell? ⟨g,10,none⟩=some (.int .i64 tc) from by
  obtain⟨_,q0,q1,q2,q3,q4,q5,q6,q7,q8,q9,q10⟩:=HC.out W (G0.out.trans f)
  exact⟨q2,q8,q10⟩))
 have hS:=HS.out w0 (Fr.refl _ _)
 go_region_held3 (fun w'=>w'.cell? ⟨g,2,none⟩=some (.string H)∧w'.cell? ⟨g,8,none⟩=some (.int .i64 tk)∧w'.cell? ⟨g,10,none⟩=some (.int .i64 tc)) (first|go_keep|exact hS|(simpa[go_sem] using hS))
  (first
   | (go_at_call 56;refine(num_any _ _ _ tc (o2.bin.fr (by first|exact(Fr.refl _ _)|exact(Fr.refl _ _).drewN _|exact(Fr.refl _ _).drew)) (by simp[txt];omega) tc0 tc1).mono ?_;rintro e w3 ⟨v3,rfl,o3,f3'⟩;have f3:Fr [] w2 w3:=(by first|exact f3'|exact((Fr.refl _ _).drewN _).trans f3'|exact((Fr.refl _ _).drew).trans f3');have X3:Fr [] w0 w3:=X2.trans f3;have hS:=HS.out w3 X3)
   | (go_at_call 56;refine(num_any _ _ _ tk (o1.bin.fr (by first|exact(Fr.refl _ _)|exact(Fr.refl _ _).drewN _|exact(Fr.refl _ _).drew)) (by simp[txt];omega) tk0 tk1).mono ?_;rintro e w2 ⟨v2,rfl,o2,f2'⟩;have f2:Fr [] w1 w2:=(by first|exact f2'|exact((Fr.refl _ _).drewN _).trans f2'|exact((Fr.refl _ _).drew).trans f2');have X2:Fr [] w0 w2:=X1.trans f2;have hS:=HS.out w2 X2)
   | (go_at_call 54;refine(text_any _ _ [] H (BIn.nil _) (by simp[txt];try omega) hH).mono ?_;rintro e w1 ⟨v1,rfl,o1,f1'⟩;have f1:Fr [] w0 w1:=(by first|exact f1'|exact((Fr.refl _ _).drewN _).trans f1'|exact((Fr.refl _ _).drew).trans f1');have X1:Fr [] w0 w1:=f1;have hS:=HS.out w1 X1))
 all_goals
  go_wp2_with fail
  go_ret2
  exact⟨_,rfl,by simpa using o3.bin,F0.out.trans X3⟩
theorem enc10 (w:World)  
  (hk:∀ W,Calls Tryz.prog 53 #[.agg (rqv 10 em em em em 0 0 (.slice none 0 0) 0 0 0).toArray] W fun e w'=>e = .returned (.int .i64 0)∧Fr [] W w') :
  Calls Tryz.prog 26 #[.agg (rqv 10 em em em em 0 0 (.slice none 0 0) 0 0 0).toArray] w fun e w'=>∃ v,e = .returned (.tuple #[v,.int .i64 0])∧BIn w' v ([])∧Fr [] w w':=by
 have HK:=hid hk
 obtain⟨g,hg⟩:∃ g,w.heap.size=g:=⟨_,rfl⟩
 obtain⟨wb,hwb⟩:∃ wb,wb=w.alloc (.cells #[.int .i64 10,.string em,.string em,.string em,.string em,.int .i64 0,.int .i64 0,.slice none 0 0,.int .i64 0,.int .i64 0,.int .i64 0] 41):=⟨_,rfl⟩
 have fb:Fr [] w wb:=by rw[hwb];exact(Fr.refl _ _).alloc _
 have HB:=hid (show Holds wb g 41 #[.int .i64 10,.string em,.string em,.string em,.string em,.int .i64 0,.int .i64 0,.slice none 0 0,.int .i64 0,.int .i64 0,.int .i64 0] by rw[hwb,←hg];exact Holds.new _ _ _)
 have HC:=hid (fun W (f:Fr [] wb W)=>(show g<W.heap.size∧W.cell? ⟨g,0,none⟩=some (.int .i64 10)∧W.cell? ⟨g,1,none⟩=some (.string em)∧W.cell? ⟨g,2,none⟩=some (.string em)∧W.cell? ⟨g,3,none⟩=some (.string em)∧W.cell? ⟨g,4,none⟩=some (.string em)∧W.cell? ⟨g,5,none⟩=some (.int .i64 0)∧W.cell? ⟨g,6,none⟩=some (.int .i64 0)∧W.cell? ⟨g,7,none⟩=some (.slice none 0 0)∧W.cell? ⟨g,8,none⟩=some (.int .i64 0)∧W.cell? ⟨g,9,none⟩=some (.int .i64 0)∧W.cell? ⟨g,10,none⟩=some (.int .i64 0) from by
  have H:=HB.out.fr f (by simp)
  exact⟨H.lt,H.cell 0,H.cell 1,H.cell 2,H.cell 3,H.cell 4,H.cell 5,H.cell 6,H.cell 7,H.cell 8,H.cell 9,H.cell 10⟩))
 clear hk
 go_enter Tryz.func26,Tryz.ntmps26
 go_wp2_with fail
 rw[←hwb]
 refine(HK.out _).mono ?_
 rintro e w0 ⟨rfl,f0⟩
 have F0:=hid (fb.trans f0)
 have G0:=hid f0
 obtain⟨hgl,c0,c1,c2,c3,c4,c5,c6,c7,c8,c9,c10⟩:=HC.out w0 f0
 clear hwb fb f0
 try simp only[hg]
 go_wp2_with fail
 go_ret2
 exact⟨_,rfl,BIn.nil _,F0.out⟩
end Go.Proofs.YtjmkkcckfbnmeaaGreatDoor.Pr
namespace Go.Proofs.YtjmkkcckfbnmeaaGreatDoor.Pr
open Go.RowKit Fm Pk Rq
theorem check_batch (w:World)(B n cap:Nat)(a:Option Addr)(l:List M.Op)(ho:Ops w B a n cap l)(hn:n=l.length)(h1:1≤n)(h8:n≤8)(hop:∀ o,o∈l→OpOk o) :
  Calls Tryz.prog 53 #[.agg (rqv 7 em M.home em em 0 0 (.slice a n cap) 0 0 0).toArray] w fun e w'=>e = .returned (.int .i64 0)∧Fr [] w w':=by
 obtain⟨g,hg⟩:∃ g,w.heap.size=g:=⟨_,rfl⟩
 obtain⟨W,hW⟩:∃ W,W=w.alloc (.cells #[.int .i64 7,.string em,.string M.home,.string em,.string em,.int .i64 0,.int .i64 0,.slice a n cap,.int .i64 0,.int .i64 0,.int .i64 0] 41):=⟨_,rfl⟩
 have fW:Fr [] w W:=by rw[hW];exact(Fr.refl _ _).alloc _
 have HB:=hid (show Holds W g 41 #[.int .i64 7,.string em,.string M.home,.string em,.string em,.int .i64 0,.int .i64 0,.slice a n cap,.int .i64 0,.int .i64 0,.int .i64 0] by rw[hW,←hg];exact Holds.new _ _ _)
 have HO:=hid (show Ops W B a n cap l from Own.fr0 ho fW)
 have HP:=hid hop
 have HN:=hid hn
 have FW:=hid fW
 have hn1:(1:Int)≤(n:Int):=by omega
 have hn8:(n:Int)≤8:=by omega
 have HC:=hid (fun W' (f:Fr [] W W')=>(show g<W'.heap.size∧W'.cell? ⟨g,0,none⟩=some (.int .i64 7)∧W'.cell? ⟨g,2,none⟩=some (.string M.home)∧W'.cell? ⟨g,7,none⟩=some (.slice a n cap)∧W'.cell? ⟨g,8,none⟩=some (.int .i64 0)∧W'.cell? ⟨g,9,none⟩=some (.int .i64 0)∧W'.cell? ⟨g,10,none⟩=some (.int .i64 0) from by
  have H:=HB.out.fr f (by simp)
  exact⟨H.lt,H.cell 0,H.cell 2,H.cell 7,H.cell 8,H.cell 9,H.cell 10⟩))
 clear ho hop hn fW
 go_enter Tryz.func53,Tryz.ntmps53
 go_wp2_with (fail)
 rw[←hW]
 try simp only[hg]
 clear hW
 go_loopw [10] (fun i wr=>∃ k:Nat,i = .int .i64 k∧k≤n∧Fr [] W wr) (fun i _=>n - (intOf i).toNat)
 case atStart=>exact⟨0,rfl,Nat.zero_le _,Fr.refl _ _⟩
 case round =>
  obtain⟨k,rfl,hk,fr⟩:=hrel
  obtain⟨hgl,c0,c2,c7,c8,c9,c10⟩:=HC.out wr fr
  by_cases hlt:k<n
  ·have hll:k<l.length:=by have:=HN.out;omega
   have hx:l[k]? = some l[k]:=List.getElem?_eq_getElem hll
   obtain⟨x,hx'⟩:∃ x,l[k]=x:=⟨_,rfl⟩
   rw[hx'] at hx
   have hcard:=(HP.out x (List.mem_of_getElem? hx)).card
   obtain⟨gq,rfl,hql,z0,z1,z2,z3,z4⟩:=op_cells (HO.out.fr0 fr) HN.out hx
   have F:=hid fr
   clear hx hx' fr
   have hk1:(k:Int)<(n:Int):=by omega
   cases hd:x.del with
   | true =>
    rw[hd] at hcard z0
    simp only[if_true] at hcard
    rw[hcard] at z2
    go_wp2_with (fail)
    go_roundw
    case rel=>exact⟨k+1,by go_num,by omega,F.out⟩
    case measure=>simp[intOf];omega
   | false =>
    rw[hd] at z0
    clear hcard
    go_wp2_with (fail)
    go_roundw
    case rel=>exact⟨k+1,by go_num,by omega,F.out⟩
    case measure=>simp[intOf];omega
  ·have hk1:¬ (k:Int)<(n:Int):=by omega
   have F:=hid fr
   clear fr
   go_wp2_with (fail)
   refine(Id.rname_low _ _ home_low).mono ?_
   rintro e w' ⟨rfl,rfl⟩
   go_wp2_with (fail)
   clear c0 c2 c7 c8 c9 c10
   go_loopw [11] (fun i wr=>∃ k:Nat,i = .int .i64 k∧k≤n∧Fr [] W wr) (fun i _=>n - (intOf i).toNat)
   case atStart=>exact⟨0,rfl,Nat.zero_le _,F.out⟩
   case round =>
    clear F
    obtain⟨k,rfl,hk,fr⟩:=hrel
    obtain⟨hgl,c0,c2,c7,c8,c9,c10⟩:=HC.out wr fr
    by_cases hlt:k<n
    ·have hll:k<l.length:=by have:=HN.out;omega
     have hx:l[k]? = some l[k]:=List.getElem?_eq_getElem hll
     obtain⟨x,hx'⟩:∃ x,l[k]=x:=⟨_,rfl⟩
     rw[hx'] at hx
     have HU:=hid (HP.out x (List.mem_of_getElem? hx)).uid
     obtain⟨gq,rfl,hql,z0,z1,z2,z3,z4⟩:=op_cells (HO.out.fr0 fr) HN.out hx
     have F:=hid fr
     clear hx hx' fr
     have hk1:(k:Int)<(n:Int):=by omega
     go_wp2_with (fail)
     refine(Id.ruid_low _ _ HU.out).mono ?_
     rintro e w' ⟨rfl,rfl⟩
     go_wp2_with (fail)
     go_roundw
     case rel=>exact⟨k+1,by go_num,by omega,F.out⟩
     case measure=>simp[intOf];omega
    ·have hk1:¬ (k:Int)<(n:Int):=by omega
     have F:=hid fr
     clear fr
     go_wp2_with (fail)
     clear c0 c2 c7 c8 c9 c10
     go_loopw [12] (fun i wr=>∃ k:Nat,i = .int .i64 k∧k≤n∧Fr [] W wr) (fun i _=>n - (intOf i).toNat)
     case atStart=>exact⟨0,rfl,Nat.zero_le _,F.out⟩
     case round =>
      clear F
      obtain⟨k,rfl,hk,fr⟩:=hrel
      obtain⟨hgl,c0,c2,c7,c8,c9,c10⟩:=HC.out wr fr
      by_cases hlt:k<n
      ·have hll:k<l.length:=by have:=HN.out;omega
       have hx:l[k]? = some l[k]:=List.getElem?_eq_getElem hll
       obtain⟨x,hx'⟩:∃ x,l[k]=x:=⟨_,rfl⟩
       rw[hx'] at hx
       have okx:=HP.out x (List.mem_of_getElem? hx)
       obtain⟨gq,rfl,hql,z0,z1,z2,z3,z4⟩:=op_cells (HO.out.fr0 fr) HN.out hx
       have hcard:=okx.card
       have HCD:=hid (show Et.condOk x.ck x.cv=true from okx.cond)
       have F:=hid fr
       have b3:=hid (Holds.new wr 49 (Lp.cs x).toArray)
       clear hx hx' fr okx
       have hk1:(k:Int)<(n:Int):=by omega
       cases hd:x.del with
       | true =>
        rw[hd] at z0
        clear hcard
        go_wp2_with (fail)
        refine(Et.rmay_any _ _ _).mono ?_
        rintro e w3 ⟨rfl,f3⟩
        rw[HCD.out]
        go_wp2_with (fail)
        go_roundw
        case rel=>exact⟨k+1,by go_num,by omega,(F.out.trans ((Fr.refl _ _).alloc _)).trans f3⟩
        case measure=>simp[intOf];omega
       | false =>
        rw[hd] at hcard z0
        simp only[Bool.false_eq_true,if_false] at hcard
        have HCA:=hid hcard
        clear hcard
        go_wp2_with (fail)
        refine(Rf.is_any _ _ HCA.out).mono ?_
        rintro e w2 ⟨rfl,f2⟩
        have f2':Fr [] (wr.alloc (.cells (Lp.cs x).toArray 49)) w2:=by
         simp only[Lp.cs,hd]
         exact f2
        have b4:=b3.out.fr f2' (by simp)
        have e3:=b4.cell 3
        have e4:=b4.cell 4
        simp[Lp.cs] at e3 e4
        clear z0 z1 z2 z3 z4 b4 c0 c2 c7 c8 c9 c10
        go_wp2_with (fail)
        refine(Et.rmay_any _ _ _).mono ?_
        rintro e w3 ⟨rfl,f3⟩
        rw[HCD.out]
        go_wp2_with (fail)
        go_roundw
        case rel=>exact⟨k+1,by go_num,by omega,((F.out.trans ((Fr.refl _ _).alloc _)).trans f2).trans f3⟩
        case measure=>simp[intOf];omega
      ·have hk1:¬ (k:Int)<(n:Int):=by omega
       have F:=hid fr
       clear fr
       go_wp2_with (fail)
       go_ret
       exact⟨rfl,FW.out.trans F.out⟩
end Go.Proofs.YtjmkkcckfbnmeaaGreatDoor.Pr
namespace Go.Proofs.YtjmkkcckfbnmeaaGreatDoor.Pr
open Go.RowKit Fm Pk Rq
theorem opB_cons (o:M.Op):En.opB o=[nb (En.bit o.del)]++txt o.uid++(if o.del then [] else txt o.card)++En.condB o.ck o.cv:=by simp[En.opB]
theorem enc7 (w:World)(B n cap:Nat)(a:Option Addr)(l:List M.Op)(H:ByteArray)(ho:Ops w B a n cap l)(hn:n=l.length)(h1:1≤n)(h8:n≤8)(hop:∀ o,o∈l→OpOk o)(hH:H.size≤247)
  (hk:∀ W,Fr [] w W→Calls Tryz.prog 53 #[.agg (rqv 7 em H em em 0 0 (.slice a n cap) 0 0 0).toArray] W fun e w'=>e = .returned (.int .i64 0)∧Fr [] W w') :
  Calls Tryz.prog 26 #[.agg (rqv 7 em H em em 0 0 (.slice a n cap) 0 0 0).toArray] w fun e w'=>∃ v,e = .returned (.tuple #[v,.int .i64 0])∧BIn w' v (txt H++[nb n]++l.flatMap En.opB)∧Fr [] w w':=by
 obtain⟨g,hg⟩:∃ g,w.heap.size=g:=⟨_,rfl⟩
 obtain⟨wb,hwb⟩:∃ wb,wb=w.alloc (.cells #[.int .i64 7,.string em,.string H,.string em,.string em,.int .i64 0,.int .i64 0,.slice a n cap,.int .i64 0,.int .i64 0,.int .i64 0] 41):=⟨_,rfl⟩
 have fb:Fr [] w wb:=by rw[hwb];exact(Fr.refl _ _).alloc _
 have HK:=hid (hk wb fb)
 have HB:=hid (show Holds wb g 41 #[.int .i64 7,.string em,.string H,.string em,.string em,.int .i64 0,.int .i64 0,.slice a n cap,.int .i64 0,.int .i64 0,.int .i64 0] by rw[hwb,←hg];exact Holds.new _ _ _)
 have HO:=hid (show Ops wb B a n cap l from Own.fr0 ho fb)
 have HP:=hid hop
 have HN:=hid hn
 have hn1:(1:Int)≤(n:Int):=by omega
 have hn8:(n:Int)≤8:=by omega
 have HC:=hid (fun W (f:Fr [] wb W)=>(show g<W.heap.size∧W.cell? ⟨g,0,none⟩=some (.int .i64 7)∧W.cell? ⟨g,2,none⟩=some (.string H)∧W.cell? ⟨g,7,none⟩=some (.slice a n cap) from by
  have H:=HB.out.fr f (by simp)
  exact⟨H.lt,H.cell 0,H.cell 2,H.cell 7⟩))
 clear hk ho hop hn
 go_enter Tryz.func26,Tryz.ntmps26
 go_wp2_with fail
 rw[←hwb]
 refine HK.out.mono ?_
 rintro e w0 ⟨rfl,f0⟩
 have F0:=hid (fb.trans f0)
 have G0:=hid f0
 obtain⟨hgl,c0,c2,c7⟩:=HC.out w0 f0
 clear hwb fb f0
 try simp only[hg]
 go_upto_region 18 with fail
 have HS:=hid (fun W (f:Fr [] w0 W)=>(show W.cell? ⟨g,2,none⟩=some (.string H)∧W.cell? ⟨g,7,none⟩=some (.slice a n cap) from by
  obtain⟨_,_,q2,q7⟩:=HC.out W (G0.out.trans f)
  exact⟨q2,q7⟩))
 have hS:=HS.out w0 (Fr.refl _ _)
 go_region_held3 (fun w'=>w'.cell? ⟨g,2,none⟩=some (.string H)∧w'.cell? ⟨g,7,none⟩=some (.slice a n cap)) (first|go_keep|exact hS|(simpa[go_sem] using hS))
  (first
   | (go_at_call 56;refine(num_any _ _ _ n (o1.bin.fr (by first|exact(Fr.refl _ _)|exact(Fr.refl _ _).drewN _|exact(Fr.refl _ _).drew)) (by simp[txt];omega) (by omega) (by omega)).mono ?_;rintro e w2 ⟨v2,rfl,o2,f2'⟩;have f2:Fr [] w1 w2:=(by first|exact f2'|exact((Fr.refl _ _).drewN _).trans f2'|exact((Fr.refl _ _).drew).trans f2');have X2:Fr [] w0 w2:=f1.trans f2;have hS:=HS.out w2 X2)
   | (go_at_call 54;refine(text_any _ _ [] H (BIn.nil _) (by simp) hH).mono ?_;rintro e w1 ⟨v1,rfl,o1,f1'⟩;have f1:Fr [] w0 w1:=(by first|exact f1'|exact((Fr.refl _ _).drewN _).trans f1'|exact((Fr.refl _ _).drew).trans f1');have hS:=HS.out w1 f1))
 all_goals
  have HO2:=hid (And.intro (show BIn w2 v2 (txt H++[nb n]++(l.take 0).flatMap En.opB) by simpa using o2.bin) X2)
  clear hS o1 o2 f1 f2 X2 c0 c2 c7
  try clear f1'
  try clear f2'
  obtain⟨hgl2,d0,d2,d7⟩:=HC.out w2 (G0.out.trans HO2.out.2)
  go_wp2_with fail
  clear d0 d2 d7 hgl2
  go_loopw [5,6] (fun b i wr=>∃ k:Nat,i = .int .i64 k∧k≤n∧BIn wr b (txt H++[nb n]++(l.take k).flatMap En.opB)∧Fr [] w0 wr) (fun _ i _=>n - (intOf i).toNat)
  case atStart=>exact⟨0,rfl,Nat.zero_le _,HO2.out.1,HO2.out.2⟩
  case round =>
   clear HO2
   obtain⟨k,rfl,hk,hb,fr⟩:=hrel
   obtain⟨hgl,c0,c2,c7⟩:=HC.out wr (G0.out.trans fr)
   by_cases hlt:k<n
   ·have hll:k<l.length:=by have:=HN.out;omega
    have hx:l[k]? = some l[k]:=List.getElem?_eq_getElem hll
    obtain⟨x,hx'⟩:∃ x,l[k]=x:=⟨_,rfl⟩
    rw[hx'] at hx
    have okx:=HP.out x (List.mem_of_getElem? hx)
    have HD:=hid (show (l.take (k+1)).flatMap En.opB=(l.take k).flatMap En.opB++En.opB x by rw[List.take_succ,hx];simp)
    obtain⟨gq,rfl,hql,z0,z1,z2,z3,z4⟩:=op_cells (HO.out.fr0 (G0.out.trans fr)) HN.out hx
    obtain⟨hu1,hu2⟩:=low_size okx.uid
    obtain⟨hc0,hc1,hc2⟩:=cond_range okx.cond okx.cv
    have hcv:=okx.cv
    have hcd:=okx.card
    have hlen:(txt H++[nb n]++(l.take k).flatMap En.opB).length≤1000:=by
     have h1:=ops_size (l:=l.take k) fun o ho=>HP.out o (List.mem_of_mem_take ho)
     simp only[List.length_take] at h1
     have ht:(txt H).length=H.size+1:=by simp[txt]
     rw[List.length_append,List.length_append,ht]
     simp only[List.length_cons,List.length_nil]
     omega
    obtain⟨L,hL⟩:∃ L,txt H++[nb n]++(l.take k).flatMap En.opB=L:=⟨_,rfl⟩
    rw[hL] at hb hlen
    have HL:=hid hL
    have HBn:=hid hb
    have F:=hid fr
    obtain⟨N,hN⟩:∃ N,wr.heap.size=N:=⟨_,rfl⟩
    clear hx hx' fr okx hL hb
    have hk1:(k:Int)<(n:Int):=by omega
    cases hd:x.del
    ·rw[hd] at hcd z0
     simp only[Bool.false_eq_true,if_false] at hcd
     obtain⟨hcz1,hcz2⟩:=card3_size hcd
     go_upto_region 23 with fail
     obtain⟨W2,hW2⟩:∃ W2,W2=wr.alloc (.cells #[.bool false,.string x.uid,.string x.card,.int .i64 x.ck,.int .i64 x.cv] 49):=⟨_,rfl⟩
     have fo:Fr [] wr W2:=by rw[hW2];exact(Fr.refl _ _).alloc _
     have BO:=hid (show Holds W2 N 49 #[.bool false,.string x.uid,.string x.card,.int .i64 x.ck,.int .i64 x.cv] by rw[hW2,←hN];exact Holds.new _ _ _)
     rw[←hW2]
     try simp only[hN]
     have FO:=hid fo
     have HCo:=hid (fun W (f:Fr [] W2 W)=>(show N<W.heap.size∧W.cell? ⟨N,0,none⟩=some (.bool false)∧W.cell? ⟨N,1,none⟩=some (.string x.uid)∧W.cell? ⟨N,2,none⟩=some (.string x.card)∧W.cell? ⟨N,3,none⟩=some (.int .i64 x.ck)∧W.cell? ⟨N,4,none⟩=some (.int .i64 x.cv) from by
      have H:=BO.out.fr f (by simp)
      exact⟨H.lt,H.cell 0,H.cell 1,H.cell 2,H.cell 3,H.cell 4⟩))
     clear hW2 fo z0 z1 z2 z3 z4 c0 c2 c7
     obtain⟨hNl,y0,y1,y2,y3,y4⟩:=HCo.out W2 (Fr.refl _ _)
     have hS:=And.intro y0 y1
     go_region_held3 (fun w'=>w'.cell? ⟨N,0,none⟩=some (.bool false)∧w'.cell? ⟨N,1,none⟩=some (.string x.uid)) (first|go_keep|exact hS|(simpa[go_sem] using hS))
      (first
       | (go_at_call 54;refine(text_any _ _ _ x.uid (o3.bin.fr (by first|exact(Fr.refl _ _)|exact(Fr.refl _ _).drewN _|exact(Fr.refl _ _).drew)) (by simp;omega) (by omega)).mono ?_;rintro e w4 ⟨v4,rfl,o4,f4'⟩;have f4:Fr [] w3 w4:=(by first|exact f4'|exact((Fr.refl _ _).drewN _).trans f4'|exact((Fr.refl _ _).drew).trans f4');have X4:Fr [] W2 w4:=f3.trans f4;have hS:=(have H:=HCo.out w4 X4;And.intro H.2.1 H.2.2.1))
       | (go_at_call 56;refine(num_any _ _ L (En.bit false) (HBn.out.fr (FO.out.trans (by first|exact(Fr.refl _ _)|exact(Fr.refl _ _).drewN _|exact(Fr.refl _ _).drew))) (by omega) (by decide) (by decide)).mono ?_;rintro e w3 ⟨v3,rfl,o3,f3'⟩;have f3:Fr [] W2 w3:=(by first|exact f3'|exact((Fr.refl _ _).drewN _).trans f3'|exact((Fr.refl _ _).drew).trans f3');have hS:=(have H:=HCo.out w3 f3;And.intro H.2.1 H.2.2.1))
       | (go_at_call 57;refine(bit_any _ false).mono ?_;rintro e w' ⟨rfl,rfl⟩))
     all_goals
      clear hS y0 y1 y2 y3 y4
      obtain⟨hNl4,q0,q1,q2,q3,q4⟩:=HCo.out w4 X4
      have HX:=hid (And.intro o4 X4)
      clear o3 o4 f3 f4 X4
      try clear f3'
      try clear f4'
      go_wp2_with fail
      refine(text_any _ _ _ x.card HX.out.1.bin (by simp[txt];omega) (by omega)).mono ?_
      rintro e w5 ⟨v5,rfl,o5,f5⟩
      obtain⟨hNl5,r0,r1,r2,r3,r4⟩:=HCo.out w5 (HX.out.2.trans f5)
      have HX5:=hid (And.intro o5 f5)
      clear o5 f5 q0 q1 q2 q3 q4
      go_wp2_with fail
      refine(cond_any _ _ _ x.ck x.cv HX5.out.1.bin (by simp[txt];omega) hc0 hc1 hc2 hcv).mono ?_
      rintro e w6 ⟨v6,rfl,o6,f6⟩
      have HX6:=hid (And.intro o6 f6)
      clear o6 f6 r0 r1 r2 r3 r4
      go_wp2_with fail
      go_roundw
      case rel =>
       refine⟨k+1,by go_num,by omega,?_,F.out.trans (((FO.out.trans HX.out.2).trans HX5.out.2).trans HX6.out.2)⟩
       have:=HX6.out.1.bin
       rw[HD.out,←List.append_assoc,HL.out,opB_cons,hd]
       simpa using this
      case measure=>simp[intOf];omega
    ·rw[hd] at hcd z0
     simp only[if_true] at hcd
     clear hcd
     go_upto_region 23 with fail
     obtain⟨W2,hW2⟩:∃ W2,W2=wr.alloc (.cells #[.bool true,.string x.uid,.string x.card,.int .i64 x.ck,.int .i64 x.cv] 49):=⟨_,rfl⟩
     have fo:Fr [] wr W2:=by rw[hW2];exact(Fr.refl _ _).alloc _
     have BO:=hid (show Holds W2 N 49 #[.bool true,.string x.uid,.string x.card,.int .i64 x.ck,.int .i64 x.cv] by rw[hW2,←hN];exact Holds.new _ _ _)
     rw[←hW2]
     try simp only[hN]
     have FO:=hid fo
     have HCo:=hid (fun W (f:Fr [] W2 W)=>(show N<W.heap.size∧W.cell? ⟨N,0,none⟩=some (.bool true)∧W.cell? ⟨N,1,none⟩=some (.string x.uid)∧W.cell? ⟨N,2,none⟩=some (.string x.card)∧W.cell? ⟨N,3,none⟩=some (.int .i64 x.ck)∧W.cell? ⟨N,4,none⟩=some (.int .i64 x.cv) from by
      have H:=BO.out.fr f (by simp)
      exact⟨H.lt,H.cell 0,H.cell 1,H.cell 2,H.cell 3,H.cell 4⟩))
     clear hW2 fo z0 z1 z2 z3 z4 c0 c2 c7
     obtain⟨hNl,y0,y1,y2,y3,y4⟩:=HCo.out W2 (Fr.refl _ _)
     have hS:=And.intro y0 y1
     go_region_held3 (fun w'=>w'.cell? ⟨N,0,none⟩=some (.bool true)∧w'.cell? ⟨N,1,none⟩=some (.string x.uid)) (first|go_keep|exact hS|(simpa[go_sem] using hS))
      (first
       | (go_at_call 54;refine(text_any _ _ _ x.uid (o3.bin.fr (by first|exact(Fr.refl _ _)|exact(Fr.refl _ _).drewN _|exact(Fr.refl _ _).drew)) (by simp;omega) (by omega)).mono ?_;rintro e w4 ⟨v4,rfl,o4,f4'⟩;have f4:Fr [] w3 w4:=(by first|exact f4'|exact((Fr.refl _ _).drewN _).trans f4'|exact((Fr.refl _ _).drew).trans f4');have X4:Fr [] W2 w4:=f3.trans f4;have hS:=(have H:=HCo.out w4 X4;And.intro H.2.1 H.2.2.1))
       | (go_at_call 56;refine(num_any _ _ L (En.bit true) (HBn.out.fr (FO.out.trans (by first|exact(Fr.refl _ _)|exact(Fr.refl _ _).drewN _|exact(Fr.refl _ _).drew))) (by omega) (by decide) (by decide)).mono ?_;rintro e w3 ⟨v3,rfl,o3,f3'⟩;have f3:Fr [] W2 w3:=(by first|exact f3'|exact((Fr.refl _ _).drewN _).trans f3'|exact((Fr.refl _ _).drew).trans f3');have hS:=(have H:=HCo.out w3 f3;And.intro H.2.1 H.2.2.1))
       | (go_at_call 57;refine(bit_any _ true).mono ?_;rintro e w' ⟨rfl,rfl⟩))
     all_goals
      clear hS y0 y1 y2 y3 y4
      obtain⟨hNl4,q0,q1,q2,q3,q4⟩:=HCo.out w4 X4
      have HX:=hid (And.intro o4 X4)
      clear o3 o4 f3 f4 X4
      try clear f3'
      try clear f4'
      go_wp2_with fail
      refine(cond_any _ _ _ x.ck x.cv HX.out.1.bin (by simp[txt];omega) hc0 hc1 hc2 hcv).mono ?_
      rintro e w5 ⟨v5,rfl,o5,f5⟩
      have HX5:=hid (And.intro o5 f5)
      clear o5 f5 q0 q1 q2 q3 q4
      go_wp2_with fail
      go_roundw
      case rel =>
       refine⟨k+1,by go_num,by omega,?_,F.out.trans ((FO.out.trans HX.out.2).trans HX5.out.2)⟩
       have:=HX5.out.1.bin
       rw[HD.out,←List.append_assoc,HL.out,opB_cons,hd]
       simpa using this
      case measure=>simp[intOf];omega
   ·have hk1:¬ (k:Int)<(n:Int):=by omega
    have hkl:k=l.length:=by have:=HN.out;omega
    have HH:=hid (And.intro hb (And.intro fr hkl))
    clear hb fr hkl
    go_wp2_with fail
    go_ret2
    refine⟨_,rfl,?_,F0.out.trans HH.out.2.1⟩
    have:=HH.out.1
    rw[HH.out.2.2,List.take_length] at this
    simpa using this
end Go.Proofs.YtjmkkcckfbnmeaaGreatDoor.Pr
namespace Go.Proofs.YtjmkkcckfbnmeaaGreatDoor.Pr
open Go.RowKit Fm Pk Rq
theorem size16 {s:ByteArray}(h:M.lowS s=true):s.size≤247:=by have:=low_size h;omega
theorem size3 {s:ByteArray}(h:M.card3 s=true):s.size≤247:=by have:=card3_size h;omega
theorem rencode_any (w:World)(B:Nat)(q:M.Req)(vo:Value)(hq:M.reqOk q=true)(ho:Ev.OpsAt w B vo q.ops)(hv:q.kind≠7→vo = .slice none 0 0) :
  Calls Tryz.prog 26 #[.agg (Ev.rqc q vo).toArray] w fun e w'=>∃ v,e = .returned (.tuple #[v,.int .i64 0])∧BIn w' v (En.reqB q)∧Fr [] w w':=by
 unfold M.reqOk at hq
 split at hq
 ·have e:=of_decide_eq_true hq
  subst e
  obtain rfl:=hv (by decide)
  refine (enc1 w (M.bs "ann") (by decide +kernel) (fun W => check_hello W)).mono ?_
  rintro e w' ⟨v,h1,h2,h3⟩
  exact⟨v,h1,by simpa[En.reqB] using h2,h3⟩
 split at hq
 ·have e:=of_decide_eq_true hq
  subst e
  obtain rfl:=hv (by decide)
  refine(enc2 w M.home (by decide +kernel) (fun W=>check_create W)).mono ?_
  rintro e w' ⟨v,h1,h2,h3⟩
  exact⟨v,h1,by simpa[En.reqB] using h2,h3⟩
 split at hq
 ·have e:=of_decide_eq_true hq
  subst e
  obtain rfl:=hv (by decide)
  refine(enc3 w M.home (by decide +kernel) (fun W=>check_drop W)).mono ?_
  rintro e w' ⟨v,h1,h2,h3⟩
  exact⟨v,h1,by simpa[En.reqB] using h2,h3⟩
 split at hq
 ·simp only[Bool.and_eq_true,decide_eq_true_eq] at hq
  obtain⟨e,ho'⟩:=hq
  have o:=op_ok ho'
  have o1:=o.uid
  have o2:=o.card
  have o3:=o.cond
  have o4:=o.cv
  simp only[Bool.false_eq_true,if_false] at o1 o2 o3 o4
  obtain⟨c0,c1,c2⟩:=cond_range o3 o4
  obtain rfl:=hv (by omega)
  clear o ho' ho hv
  generalize q.uid=a1 at *
  generalize q.card=a2 at *
  generalize q.ck=a3 at *
  generalize q.cv=a4 at *
  subst e
  refine(enc4 w M.home a1 a2 a3 a4 (by decide +kernel) (size16 o1) (size3 o2) c0 c1 c2 o4 (fun W=>check_put W a1 a2 a3 a4 o1 o2 o3)).mono ?_
  rintro e w' ⟨v,h1,h2,h3⟩
  exact⟨v,h1,by simpa[En.reqB] using h2,h3⟩
 split at hq
 ·simp only[Bool.and_eq_true,decide_eq_true_eq] at hq
  obtain⟨e,ho'⟩:=hq
  have o:=op_ok ho'
  have o1:=o.uid
  have o3:=o.cond
  have o4:=o.cv
  simp only[] at o1 o3 o4
  obtain⟨c0,c1,c2⟩:=cond_range o3 o4
  obtain rfl:=hv (by omega)
  clear o ho' ho hv
  generalize q.uid=a1 at *
  generalize q.ck=a3 at *
  generalize q.cv=a4 at *
  subst e
  refine(enc5 w M.home a1 a3 a4 (by decide +kernel) (size16 o1) c0 c1 c2 o4 (fun W=>check_del W a1 a3 a4 o1 o3)).mono ?_
  rintro e w' ⟨v,h1,h2,h3⟩
  exact⟨v,h1,by simpa[En.reqB] using h2,h3⟩
 split at hq
 ·simp only[Bool.and_eq_true,decide_eq_true_eq] at hq
  obtain⟨e,hu⟩:=hq
  obtain rfl:=hv (by omega)
  clear ho hv
  generalize q.uid=a1 at *
  subst e
  refine(enc6 w M.home a1 (by decide +kernel) (size16 hu) (fun W=>check_get W a1 hu)).mono ?_
  rintro e w' ⟨v,h1,h2,h3⟩
  exact⟨v,h1,by simpa[En.reqB] using h2,h3⟩
 split at hq
 ·simp only[Bool.and_eq_true,decide_eq_true_eq,List.all_eq_true] at hq
  obtain⟨⟨e,h1,h2⟩,ho2⟩:=hq
  have ho':∀ o,o∈q.ops→OpOk o:=fun o hm=>op_ok (ho2 o hm)
  clear ho2 hv
  generalize q.ops=a1 at *
  subst e
  obtain⟨va,vc,rfl⟩:=Own.form ho
  refine(enc7 w B a1.length vc va a1 M.home ho rfl h1 h2 ho' (by decide +kernel) (fun W f=>check_batch W B a1.length vc va a1 (Own.fr0 ho f) rfl h1 h2 ho')).mono ?_
  rintro e w' ⟨v,h1,h2,h3⟩
  exact⟨v,h1,by simpa[En.reqB] using h2,h3⟩
 split at hq
 ·simp only[Bool.and_eq_true,decide_eq_true_eq] at hq
  obtain⟨e,h1,h2,h3,h4⟩:=hq
  obtain rfl:=hv (by omega)
  clear ho hv
  generalize q.token=a1 at *
  generalize q.most=a2 at *
  subst e
  refine(enc8 w M.home a1 a2 (by decide +kernel) h1 h2 (by omega) h4 (fun W=>check_delta W a1 a2 h1 h3 h4)).mono ?_
  rintro e w' ⟨v,h1,h2,h3⟩
  exact⟨v,h1,by simpa[En.reqB] using h2,h3⟩
 split at hq
 ·simp only[Bool.and_eq_true,decide_eq_true_eq] at hq
  obtain⟨e,h1,h2,h3,h4⟩:=hq
  obtain rfl:=hv (by omega)
  clear ho hv
  generalize q.token=a1 at *
  generalize q.ticks=a2 at *
  subst e
  refine(enc9 w M.home a1 a2 (by decide +kernel) h1 h2 h3 h4 (fun W=>check_wait W a1 a2 h1 h3 h4)).mono ?_
  rintro e w' ⟨v,h1,h2,h3⟩
  exact⟨v,h1,by simpa[En.reqB] using h2,h3⟩
 ·have e:=of_decide_eq_true hq
  subst e
  obtain rfl:=hv (by decide)
  refine(enc10 w (fun W=>check_list W)).mono ?_
  rintro e w' ⟨v,h1,h2,h3⟩
  exact⟨v,h1,by simpa[En.reqB] using h2,h3⟩
theorem conv_bin {W:World}{v:Value}{l:List UInt8}(h:BIn W v l):(convert 90 9 v).run Tryz.prog W = .ok (.string (En.bytesOf l)) W:=by
 obtain⟨a,n,c,rfl,hn,hb⟩:=h
 rcases Nat.eq_zero_or_pos l.length with h0|h0
 ·obtain rfl:=List.eq_nil_of_length_eq_zero h0
  simp at hn
  subst hn
  cases a with
  | none=>simp[convert,Conv.bytesToString,go_sem,En.bytesOf];rfl
  | some p=>simp[convert,Conv.bytesToString,go_sem,En.bytesOf];rfl
 ·obtain⟨b,off,rfl,hlt,hc⟩:=hb h0
  exact conv_body W b off n c (En.bytesOf l) (by rw[En.bytesOf_size,hn]) (fun k x hx=>hc k x (by rw[En.bytesOf_list] at hx;exact hx))
theorem putCells_eq' (k:Int)(s:ByteArray)(h0:0≤k)(h1:k≤255)(hs:s.size≤20000):putCells [] k s=bc (En.putL k s):=En.putCells_eq k s h0 h1 hs
theorem req_kind {q:M.Req}(h:M.reqOk q=true):1≤q.kind∧q.kind≤10:=sh_kind (sh_of h).1
theorem reqB_len {q:M.Req}(h:M.reqOk q=true):(En.reqB q).length≤700:=by
 unfold M.reqOk at h
 split at h
 ·have e:=of_decide_eq_true h
  rw[e];decide +kernel
 split at h
 ·have e:=of_decide_eq_true h
  rw[e];decide +kernel
 split at h
 ·have e:=of_decide_eq_true h
  rw[e];decide +kernel
 have hh:M.home.size=4:=by decide +kernel
 split at h
 ·rename_i h1 h2 h3 h4
  simp only[Bool.and_eq_true,decide_eq_true_eq] at h
  obtain⟨e,ho⟩:=h
  have o:=op_ok ho
  have s1:=low_size o.uid
  have s2:=card3_size (show M.card3 q.card=true by simpa using o.card)
  have hc:q.col=M.home:=by rw[e]
  simp[En.reqB,h4,txt,En.condB,hc]
  simp at s1 s2
  omega
 split at h
 ·rename_i h1 h2 h3 h4 h5
  simp only[Bool.and_eq_true,decide_eq_true_eq] at h
  obtain⟨e,ho⟩:=h
  have o:=op_ok ho
  have s1:=low_size o.uid
  have hc:q.col=M.home:=by rw[e]
  simp[En.reqB,h5,txt,En.condB,hc]
  simp at s1
  omega
 split at h
 ·rename_i h1 h2 h3 h4 h5 h6
  simp only[Bool.and_eq_true,decide_eq_true_eq] at h
  obtain⟨e,hu⟩:=h
  have s1:=low_size hu
  have hc:q.col=M.home:=by rw[e]
  simp[En.reqB,h6,txt,hc]
  omega
 split at h
 ·rename_i h1 h2 h3 h4 h5 h6 h7
  simp only[Bool.and_eq_true,decide_eq_true_eq,List.all_eq_true] at h
  obtain⟨⟨e,_,h8⟩,ho2⟩:=h
  have s1:=ops_size (l:=q.ops) fun o hm=>op_ok (ho2 o hm)
  have hc:q.col=M.home:=by rw[e]
  have ht:(txt M.home).length=5:=by decide +kernel
  simp only[En.reqB,h7,hc]
  simp only[Int.reduceEq,if_false,if_true,or_self]
  rw[List.length_append,ht,List.length_cons]
  omega
 split at h
 ·rename_i h1 h2 h3 h4 h5 h6 h7 h8
  simp only[Bool.and_eq_true,decide_eq_true_eq] at h
  have hc:q.col=M.home:=by rw[h.1]
  simp[En.reqB,h8,txt,hc]
  omega
 split at h
 ·rename_i h1 h2 h3 h4 h5 h6 h7 h8 h9
  simp only[Bool.and_eq_true,decide_eq_true_eq] at h
  have hc:q.col=M.home:=by rw[h.1]
  simp[En.reqB,h9,txt,hc]
  omega
 ·have e:=of_decide_eq_true h
  rw[e];decide +kernel
theorem frame_any (w:World)(B:Nat)(q:M.Req)(vo:Value)(hq:M.reqOk q=true)(ho:Ev.OpsAt w B vo q.ops)(hv:q.kind≠7→vo = .slice none 0 0) :
  Calls Tryz.prog 9 #[.agg (Ev.rqc q vo).toArray] w fun e w'=>e = .returned (.string (En.bytesOf (En.reqF q)))∧Fr [] w w':=by
 obtain⟨hk0,hk1⟩:=req_kind hq
 have hlen:=reqB_len hq
 obtain⟨g,hg⟩:∃ g,w.heap.size=g:=⟨_,rfl⟩
 obtain⟨wb,hwb⟩:∃ wb,wb=w.alloc (.cells (Ev.rqc q vo).toArray 41):=⟨_,rfl⟩
 have fb:Fr [] w wb:=by rw[hwb];exact(Fr.refl _ _).alloc _
 have HB:=hid (show Holds wb g 41 (Ev.rqc q vo).toArray by rw[hwb,←hg];exact Holds.new _ _ _)
 have HE:=hid (rencode_any wb B q vo hq (Own.fr0 ho fb) hv)
 have hkq:En.reqF q=En.putL q.kind (En.bytesOf (En.reqB q)):=rfl
 have HQ:=hid hkq
 obtain⟨k,hk⟩:∃ k,q.kind=k:=⟨_,rfl⟩
 have HK:=hid hk
 simp only[Ev.rqc] at hwb HE ⊢
 clear ho hv hq hkq hk
 go_enter Tryz.func9,Tryz.ntmps9
 go_wp2_with fail
 rw[←hwb]
 refine HE.out.mono ?_
 rintro e w1 ⟨v,rfl,hb,f1⟩
 have b1:=HB.out.fr f1 (by simp)
 have c0:=b1.cell 0
 have hgl:=b1.lt
 simp[Ev.rqc] at c0
 have hcv:∀ j,(convert 90 9 v).run Tryz.prog (w1.drewN j) = .ok (.string (En.bytesOf (En.reqB q))) (w1.drewN j):=fun j=>conv_bin (hb.fr ((Fr.refl _ _).drewN j))
 have hcv0:(convert 90 9 v).run Tryz.prog w1 = .ok (.string (En.bytesOf (En.reqB q))) w1:=conv_bin hb
 have HP:=hid (fun W=>rput_ok W none 0 0 [] (fun h=>by simp at h) rfl (by omega) q.kind (En.bytesOf (En.reqB q)) (by omega) (by omega) (by rw[En.bytesOf_size];omega))
 simp only[Nat.zero_add] at HP
 have F1:=hid (fb.trans f1)
 have HL:=hid hlen
 clear hb b1 hwb fb f1
 try simp only[hg]
 go_wp2_with fail
 refine(HP.out _).mono ?_
 rintro e w2 ⟨g2,c2,rfl,hg2,r2,f2⟩
 rw[putCells_eq' q.kind (En.bytesOf (En.reqB q)) (by omega) (by omega) (by rw[En.bytesOf_size];have:=HL.out;omega)] at r2
 have hfin:(convert 90 9 (.slice (some ⟨g2,0,none⟩) ((En.bytesOf (En.reqB q)).size+6) c2)).run Tryz.prog w2 = .ok (.string (En.bytesOf (En.reqF q))) w2:=conv_bin ⟨_,_,_,rfl,by rw[HQ.out,En.putL_length],row_bytes (by rw[HQ.out];exact r2)⟩
 clear hcv hcv0 c0
 go_wp2_with fail
 go_ret
 exact⟨rfl,F1.out.trans f2⟩
end Go.Proofs.YtjmkkcckfbnmeaaGreatDoor.Pr
