/- Walks. -/
import Derived.Test.YtocppjcocnckmaaGreatDoorM23
import Derived.Test.YtocppjcocnckmaaGreatDoorM39
import Derived.Deep.Cut
import Derived.Deep.RegionHeld3
set_option maxRecDepth 100000
set_option maxHeartbeats 8000000
set_option linter.all false
open Go.Lib (hid)
namespace Go.Proofs.YtocppjcocnckmaaGreatDoor
open Go.Proofs.Tryz
namespace Pr
open Go.RowKit Fm Pk Rq
theorem sP (w : World)  : Calls prog 29 #[.agg (rqv 1 (M.bs "ann") em em em 0 0 (.slice none 0 0) 0 0 0).toArray] w λe w' => e = .returned (.int .i64 0) /\ Fr [] w w' := by
 have b0 : Holds (w.alloc (.cells (rqv 1 (M.bs "ann") em em em 0 0 (.slice none 0 0) 0 0 0).toArray 37)) w.heap.size 37 (rqv 1 (M.bs "ann") em em em 0 0 (.slice none 0 0) 0 0 0).toArray := Holds.new _ _ _
 have f0 : Fr [] w (w.alloc (.cells (rqv 1 (M.bs "ann") em em em 0 0 (.slice none 0 0) 0 0 0).toArray 37)) := rZ.alloc _
 have b1:=hid b0
 have F1:=hid f0
 clear b0 f0
 go_enter func29,ntmps29
 go_wp2_with fail
 refine wp_loop_rounds 1 ?_
 rw[rounds_succ]
 go_wp2_with (first
  | (go_at_call 60;refine(Id.fI _ _ (by first|exact jj|exact gm)).mono ?_;rintro e w' ⟨rfl,rfl⟩)
  | (go_at_call 61;refine(Id.gO _ _ (by assumption)).mono ?_;rintro e w' ⟨rfl,rfl⟩))
 refine wp_loop_rounds 1 ?_
 rw[rounds_succ]
 go_wp2_with (first
  | (go_at_call 62;refine uu (Rf.cz _ _ (by assumption)) λw2 f2=>?_;have b1:=hid (b1.fr f2 (by simp));have F1:=hid (F1.trans f2);have c5:=b1.cell 5;have c6:=b1.cell 6;have c7:=b1.cell 7;have c8:=b1.cell 8;have c9:=b1.cell 9;have c10:=b1.cell 10;simp at c5 c6 c7 c8 c9 c10)
  | (go_at_call 63;refine uu (Et.gd _ _ _) λw3 f3=>?_;have hcd:=(show Et.aY _ _=true from by assumption);rw[hcd];have b1:=hid (b1.fr f3 (by simp));have F1:=hid (F1.trans f3);have d7:=b1.cell 7;have d8:=b1.cell 8;have d9:=b1.cell 9;have d10:=b1.cell 10;simp at d7 d8 d9 d10))
 refine wp_loop_rounds 1 ?_
 rw[rounds_succ]
 go_wp2_with fail
 go_ret
 exact⟨rfl,F1⟩
theorem qB (w:World)  : cA 29 #[.agg (rqv 2 em M.home em em 0 0 (.slice none 0 0) 0 0 0).toArray] w (.int .i64 0):=by
 have b0:Holds (w.alloc (.cells (rqv 2 em M.home em em 0 0 (.slice none 0 0) 0 0 0).toArray 37)) w.heap.size 37 (rqv 2 em M.home em em 0 0 (.slice none 0 0) 0 0 0).toArray:=Holds.new _ _ _
 have f0:Fr [] w (w.alloc (.cells (rqv 2 em M.home em em 0 0 (.slice none 0 0) 0 0 0).toArray 37)):=rZ.alloc _
 have b1:=hid b0
 have F1:=hid f0
 clear b0 f0
 go_enter func29,ntmps29
 go_wp2_with fail
 refine wp_loop_rounds 1 ?_
 rw[rounds_succ]
 go_wp2_with (first
  | (go_at_call 60;refine(Id.fI _ _ (by first|exact jj|exact gm)).mono ?_;rintro e w' ⟨rfl,rfl⟩)
  | (go_at_call 61;refine(Id.gO _ _ (by assumption)).mono ?_;rintro e w' ⟨rfl,rfl⟩))
 refine wp_loop_rounds 1 ?_
 rw[rounds_succ]
 go_wp2_with (first
  | (go_at_call 62;refine uu (Rf.cz _ _ (by assumption)) λw2 f2=>?_;have b1:=hid (b1.fr f2 (by simp));have F1:=hid (F1.trans f2);have c5:=b1.cell 5;have c6:=b1.cell 6;have c7:=b1.cell 7;have c8:=b1.cell 8;have c9:=b1.cell 9;have c10:=b1.cell 10;simp at c5 c6 c7 c8 c9 c10)
  | (go_at_call 63;refine uu (Et.gd _ _ _) λw3 f3=>?_;have hcd:=(show Et.aY _ _=true from by assumption);rw[hcd];have b1:=hid (b1.fr f3 (by simp));have F1:=hid (F1.trans f3);have d7:=b1.cell 7;have d8:=b1.cell 8;have d9:=b1.cell 9;have d10:=b1.cell 10;simp at d7 d8 d9 d10))
 refine wp_loop_rounds 1 ?_
 rw[rounds_succ]
 go_wp2_with fail
 go_ret
 exact⟨rfl,F1⟩
open Go.RowKit Fm Pk Rq
theorem yU (w:World)(u c:ByteArray)(ck cv:Int)(hu:M.gB u=true)(hc:j6 c)(hk:M.aY ck cv=true):cA 29 #[.agg (rqv 4 em M.home u c ck cv (.slice none 0 0) 0 0 0).toArray] w (.int .i64 0):=by
 have b0:Holds (w.alloc (.cells (rqv 4 em M.home u c ck cv (.slice none 0 0) 0 0 0).toArray 37)) w.heap.size 37 (rqv 4 em M.home u c ck cv (.slice none 0 0) 0 0 0).toArray:=Holds.new _ _ _
 have f0:Fr [] w (w.alloc (.cells (rqv 4 em M.home u c ck cv (.slice none 0 0) 0 0 0).toArray 37)):=rZ.alloc _
 have b1:=hid b0
 have F1:=hid f0
 clear b0 f0
 go_enter func29,ntmps29
 go_wp2_with fail
 refine wp_loop_rounds 1 ?_
 rw[rounds_succ]
 go_wp2_with (first
  | (go_at_call 60;refine(Id.fI _ _ (by first|exact jj|exact gm)).mono ?_;rintro e w' ⟨rfl,rfl⟩)
  | (go_at_call 61;refine(Id.gO _ _ (by assumption)).mono ?_;rintro e w' ⟨rfl,rfl⟩))
 refine wp_loop_rounds 1 ?_
 rw[rounds_succ]
 go_wp2_with (first
  | (go_at_call 62;refine uu (Rf.cz _ _ (by assumption)) λw2 f2=>?_;have b1:=hid (b1.fr f2 (by simp));have F1:=hid (F1.trans f2);have c5:=b1.cell 5;have c6:=b1.cell 6;have c7:=b1.cell 7;have c8:=b1.cell 8;have c9:=b1.cell 9;have c10:=b1.cell 10;simp at c5 c6 c7 c8 c9 c10)
  | (go_at_call 63;refine uu (Et.gd _ _ _) λw3 f3=>?_;have hcd:=(show Et.aY _ _=true from by assumption);rw[hcd];have b1:=hid (b1.fr f3 (by simp));have F1:=hid (F1.trans f3);have d7:=b1.cell 7;have d8:=b1.cell 8;have d9:=b1.cell 9;have d10:=b1.cell 10;simp at d7 d8 d9 d10))
 refine wp_loop_rounds 1 ?_
 rw[rounds_succ]
 go_wp2_with fail
 go_ret
 exact⟨rfl,F1⟩
theorem yV (w:World)(u:ByteArray)(hu:M.gB u=true):cA 29 #[.agg (rqv 6 em M.home u em 0 0 (.slice none 0 0) 0 0 0).toArray] w (.int .i64 0):=by
 have b0:Holds (w.alloc (.cells (rqv 6 em M.home u em 0 0 (.slice none 0 0) 0 0 0).toArray 37)) w.heap.size 37 (rqv 6 em M.home u em 0 0 (.slice none 0 0) 0 0 0).toArray:=Holds.new _ _ _
 have f0:Fr [] w (w.alloc (.cells (rqv 6 em M.home u em 0 0 (.slice none 0 0) 0 0 0).toArray 37)):=rZ.alloc _
 have b1:=hid b0
 have F1:=hid f0
 clear b0 f0
 go_enter func29,ntmps29
 go_wp2_with fail
 refine wp_loop_rounds 1 ?_
 rw[rounds_succ]
 go_wp2_with (first
  | (go_at_call 60;refine(Id.fI _ _ (by first|exact jj|exact gm)).mono ?_;rintro e w' ⟨rfl,rfl⟩)
  | (go_at_call 61;refine(Id.gO _ _ (by assumption)).mono ?_;rintro e w' ⟨rfl,rfl⟩))
 refine wp_loop_rounds 1 ?_
 rw[rounds_succ]
 go_wp2_with (first
  | (go_at_call 62;refine uu (Rf.cz _ _ (by assumption)) λw2 f2=>?_;have b1:=hid (b1.fr f2 (by simp));have F1:=hid (F1.trans f2);have c5:=b1.cell 5;have c6:=b1.cell 6;have c7:=b1.cell 7;have c8:=b1.cell 8;have c9:=b1.cell 9;have c10:=b1.cell 10;simp at c5 c6 c7 c8 c9 c10)
  | (go_at_call 63;refine uu (Et.gd _ _ _) λw3 f3=>?_;have hcd:=(show Et.aY _ _=true from by assumption);rw[hcd];have b1:=hid (b1.fr f3 (by simp));have F1:=hid (F1.trans f3);have d7:=b1.cell 7;have d8:=b1.cell 8;have d9:=b1.cell 9;have d10:=b1.cell 10;simp at d7 d8 d9 d10))
 refine wp_loop_rounds 1 ?_
 rw[rounds_succ]
 go_wp2_with fail
 go_ret
 exact⟨rfl,F1⟩
open Go.RowKit Fm Pk Rq
theorem sR (w:World)(tk ms:Int)(h1:0<=tk)(h3:1<=ms)(h4:ms<=247):cA 29 #[.agg (rqv 8 em M.home em em 0 0 (.slice none 0 0) tk ms 0).toArray] w (.int .i64 0):=by
 have b0:Holds (w.alloc (.cells (rqv 8 em M.home em em 0 0 (.slice none 0 0) tk ms 0).toArray 37)) w.heap.size 37 (rqv 8 em M.home em em 0 0 (.slice none 0 0) tk ms 0).toArray:=Holds.new _ _ _
 have f0:Fr [] w (w.alloc (.cells (rqv 8 em M.home em em 0 0 (.slice none 0 0) tk ms 0).toArray 37)):=rZ.alloc _
 have b1:=hid b0
 have F1:=hid f0
 clear b0 f0
 go_enter func29,ntmps29
 go_wp2_with fail
 refine wp_loop_rounds 1 ?_
 rw[rounds_succ]
 go_wp2_with (first
  | (go_at_call 60;refine(Id.fI _ _ (by first|exact jj|exact gm)).mono ?_;rintro e w' ⟨rfl,rfl⟩)
  | (go_at_call 61;refine(Id.gO _ _ (by assumption)).mono ?_;rintro e w' ⟨rfl,rfl⟩))
 refine wp_loop_rounds 1 ?_
 rw[rounds_succ]
 go_wp2_with (first
  | (go_at_call 62;refine uu (Rf.cz _ _ (by assumption)) λw2 f2=>?_;have b1:=hid (b1.fr f2 (by simp));have F1:=hid (F1.trans f2);have c5:=b1.cell 5;have c6:=b1.cell 6;have c7:=b1.cell 7;have c8:=b1.cell 8;have c9:=b1.cell 9;have c10:=b1.cell 10;simp at c5 c6 c7 c8 c9 c10)
  | (go_at_call 63;refine uu (Et.gd _ _ _) λw3 f3=>?_;have hcd:=(show Et.aY _ _=true from by assumption);rw[hcd];have b1:=hid (b1.fr f3 (by simp));have F1:=hid (F1.trans f3);have d7:=b1.cell 7;have d8:=b1.cell 8;have d9:=b1.cell 9;have d10:=b1.cell 10;simp at d7 d8 d9 d10))
 refine wp_loop_rounds 1 ?_
 rw[rounds_succ]
 go_wp2_with fail
 go_ret
 exact⟨rfl,F1⟩
theorem vm (w:World)(tk tc:Int)(h1:0<=tk)(h3:0<=tc)(h4:tc<=247):cA 29 #[.agg (rqv 9 em M.home em em 0 0 (.slice none 0 0) tk 0 tc).toArray] w (.int .i64 0):=by
 have b0:Holds (w.alloc (.cells (rqv 9 em M.home em em 0 0 (.slice none 0 0) tk 0 tc).toArray 37)) w.heap.size 37 (rqv 9 em M.home em em 0 0 (.slice none 0 0) tk 0 tc).toArray:=Holds.new _ _ _
 have f0:Fr [] w (w.alloc (.cells (rqv 9 em M.home em em 0 0 (.slice none 0 0) tk 0 tc).toArray 37)):=rZ.alloc _
 have b1:=hid b0
 have F1:=hid f0
 clear b0 f0
 go_enter func29,ntmps29
 go_wp2_with fail
 refine wp_loop_rounds 1 ?_
 rw[rounds_succ]
 go_wp2_with (first
  | (go_at_call 60;refine(Id.fI _ _ (by first|exact jj|exact gm)).mono ?_;rintro e w' ⟨rfl,rfl⟩)
  | (go_at_call 61;refine(Id.gO _ _ (by assumption)).mono ?_;rintro e w' ⟨rfl,rfl⟩))
 refine wp_loop_rounds 1 ?_
 rw[rounds_succ]
 go_wp2_with (first
  | (go_at_call 62;refine uu (Rf.cz _ _ (by assumption)) λw2 f2=>?_;have b1:=hid (b1.fr f2 (by simp));have F1:=hid (F1.trans f2);have c5:=b1.cell 5;have c6:=b1.cell 6;have c7:=b1.cell 7;have c8:=b1.cell 8;have c9:=b1.cell 9;have c10:=b1.cell 10;simp at c5 c6 c7 c8 c9 c10)
  | (go_at_call 63;refine uu (Et.gd _ _ _) λw3 f3=>?_;have hcd:=(show Et.aY _ _=true from by assumption);rw[hcd];have b1:=hid (b1.fr f3 (by simp));have F1:=hid (F1.trans f3);have d7:=b1.cell 7;have d8:=b1.cell 8;have d9:=b1.cell 9;have d10:=b1.cell 10;simp at d7 d8 d9 d10))
 refine wp_loop_rounds 1 ?_
 rw[rounds_succ]
 go_wp2_with fail
 go_ret
 exact⟨rfl,F1⟩
open Go.RowKit Fm Pk Rq
theorem GC (w:World)(T:ByteArray)(hT:T.size<=247) 
  (hk:∀ W,Calls prog 29 #[.agg (rqv 1 T em em em 0 0 (.slice none 0 0) 0 0 0).toArray] W λe w'=>e = .returned (.int .i64 0)/\Fr [] W w') :
  Calls prog 14 #[.agg (rqv 1 T em em em 0 0 (.slice none 0 0) 0 0 0).toArray] w λe w'=>∃ v,e = .returned (.tuple #[v,.int .i64 0])/\BIn w' v (txt T)/\Fr [] w w':=by
 have HK:=hid hk
 obtain⟨g,hg⟩:∃ g,w.heap.size=g:=⟨_,rfl⟩
 obtain⟨wb,hwb⟩:∃ wb,wb=w.alloc (.cells #[.int .i64 1,.string T,.string em,.string em,.string em,.int .i64 0,.int .i64 0,.slice none 0 0,.int .i64 0,.int .i64 0,.int .i64 0] 37):=⟨_,rfl⟩
 have fb:Fr [] w wb:=by rw[hwb];exact rZ.alloc _
 have HB:=hid (show Holds wb g 37 #[.int .i64 1,.string T,.string em,.string em,.string em,.int .i64 0,.int .i64 0,.slice none 0 0,.int .i64 0,.int .i64 0,.int .i64 0] by rw[hwb,<-hg];exact Holds.new _ _ _)
 have HC:=hid (λW (f:Fr [] wb W)=>(show g<W.heap.size/\W.cell? ⟨g,0,none⟩=some (.int .i64 1)/\W.cell? ⟨g,1,none⟩=some (.string T)/\W.cell? ⟨g,2,none⟩=some (.string em)/\W.cell? ⟨g,3,none⟩=some (.string em)/\W.cell? ⟨g,4,none⟩=some (.string em)/\W.cell? ⟨g,5,none⟩=some (.int .i64 0)/\W.cell? ⟨g,6,none⟩=some (.int .i64 0)/\W.cell? ⟨g,7,none⟩=some (.slice none 0 0)/\W.cell? ⟨g,8,none⟩=some (.int .i64 0)/\W.cell? ⟨g,9,none⟩=some (.int .i64 0)/\W.cell? ⟨g,10,none⟩=some (.int .i64 0) from by
  have H:=HB.fr f (by simp)
  exact⟨H.lt,H.cell 0,H.cell 1,H.cell 2,H.cell 3,H.cell 4,H.cell 5,H.cell 6,H.cell 7,H.cell 8,H.cell 9,H.cell 10⟩))
 clear hk
 go_enter func14,ntmps14
 go_wp2_with fail
 rw[<-hwb]
 refine uu (HK _) λw0 f0=>?_
 have F0:=hid (fb.trans f0)
 have G0:=hid f0
 obtain⟨hgl,c0,c1,c2,c3,c4,c5,c6,c7,c8,c9,c10⟩:=HC.out w0 f0
 clear hwb fb f0
 try simp only[hg]
 go_wp2_with fail
 refine(aN w0 _ [] T (BIn.nil _) (by simp) hT).mono ?_
 rintro e w1 ⟨v1,rfl,o1,f1⟩
 go_wp2_with fail
 go_ret2
 exact⟨_,rfl,by simpa using o1.bin,F0.trans f1⟩
theorem GB (w:World)(H:ByteArray)(hH:H.size<=247) 
  (hk:∀ W,Calls prog 29 #[.agg (rqv 2 em H em em 0 0 (.slice none 0 0) 0 0 0).toArray] W λe w'=>e = .returned (.int .i64 0)/\Fr [] W w') :
  Calls prog 14 #[.agg (rqv 2 em H em em 0 0 (.slice none 0 0) 0 0 0).toArray] w λe w'=>∃ v,e = .returned (.tuple #[v,.int .i64 0])/\BIn w' v (txt H)/\Fr [] w w':=by
 have HK:=hid hk
 obtain⟨g,hg⟩:∃ g,w.heap.size=g:=⟨_,rfl⟩
 obtain⟨wb,hwb⟩:∃ wb,wb=w.alloc (.cells #[.int .i64 2,.string em,.string H,.string em,.string em,.int .i64 0,.int .i64 0,.slice none 0 0,.int .i64 0,.int .i64 0,.int .i64 0] 37):=⟨_,rfl⟩
 have fb:Fr [] w wb:=by rw[hwb];exact rZ.alloc _
 have HB:=hid (show Holds wb g 37 #[.int .i64 2,.string em,.string H,.string em,.string em,.int .i64 0,.int .i64 0,.slice none 0 0,.int .i64 0,.int .i64 0,.int .i64 0] by rw[hwb,<-hg];exact Holds.new _ _ _)
 have HC:=hid (λW (f:Fr [] wb W)=>(show g<W.heap.size/\W.cell? ⟨g,0,none⟩=some (.int .i64 2)/\W.cell? ⟨g,1,none⟩=some (.string em)/\W.cell? ⟨g,2,none⟩=some (.string H)/\W.cell? ⟨g,3,none⟩=some (.string em)/\W.cell? ⟨g,4,none⟩=some (.string em)/\W.cell? ⟨g,5,none⟩=some (.int .i64 0)/\W.cell? ⟨g,6,none⟩=some (.int .i64 0)/\W.cell? ⟨g,7,none⟩=some (.slice none 0 0)/\W.cell? ⟨g,8,none⟩=some (.int .i64 0)/\W.cell? ⟨g,9,none⟩=some (.int .i64 0)/\W.cell? ⟨g,10,none⟩=some (.int .i64 0) from by
  have H:=HB.fr f (by simp)
  exact⟨H.lt,H.cell 0,H.cell 1,H.cell 2,H.cell 3,H.cell 4,H.cell 5,H.cell 6,H.cell 7,H.cell 8,H.cell 9,H.cell 10⟩))
 clear hk
 go_enter func14,ntmps14
 go_wp2_with fail
 rw[<-hwb]
 refine uu (HK _) λw0 f0=>?_
 have F0:=hid (fb.trans f0)
 have G0:=hid f0
 obtain⟨hgl,c0,c1,c2,c3,c4,c5,c6,c7,c8,c9,c10⟩:=HC.out w0 f0
 clear hwb fb f0
 try simp only[hg]
 go_wp2_with fail
 refine(aN w0 _ [] H (BIn.nil _) (by simp) hH).mono ?_
 rintro e w1 ⟨v1,rfl,o1,f1⟩
 go_wp2_with fail
 go_ret2
 exact⟨_,rfl,by simpa using o1.bin,F0.trans f1⟩
theorem GA (w:World)(H u c:ByteArray)(ck cv:Int)(hH:H.size<=247)(hu:u.size<=247)(hc:c.size<=247)(ck0:0<=ck)(ck1:ck<=247)(cv0:0<=cv)(cv1:cv<=247)
  (hk:∀ W,Calls prog 29 #[.agg (rqv 4 em H u c ck cv (.slice none 0 0) 0 0 0).toArray] W λe w'=>e = .returned (.int .i64 0)/\Fr [] W w') :
  Calls prog 14 #[.agg (rqv 4 em H u c ck cv (.slice none 0 0) 0 0 0).toArray] w λe w'=>∃ v,e = .returned (.tuple #[v,.int .i64 0])/\BIn w' v (txt H++txt u++txt c++En.iM ck cv)/\Fr [] w w':=by
 have HK:=hid hk
 obtain⟨g,hg⟩:∃ g,w.heap.size=g:=⟨_,rfl⟩
 obtain⟨wb,hwb⟩:∃ wb,wb=w.alloc (.cells #[.int .i64 4,.string em,.string H,.string u,.string c,.int .i64 ck,.int .i64 cv,.slice none 0 0,.int .i64 0,.int .i64 0,.int .i64 0] 37):=⟨_,rfl⟩
 have fb:Fr [] w wb:=by rw[hwb];exact rZ.alloc _
 have HB:=hid (show Holds wb g 37 #[.int .i64 4,.string em,.string H,.string u,.string c,.int .i64 ck,.int .i64 cv,.slice none 0 0,.int .i64 0,.int .i64 0,.int .i64 0] by rw[hwb,<-hg];exact Holds.new _ _ _)
 have HC:=hid (λW (f:Fr [] wb W)=>(show g<W.heap.size/\W.cell? ⟨g,0,none⟩=some (.int .i64 4)/\W.cell? ⟨g,1,none⟩=some (.string em)/\W.cell? ⟨g,2,none⟩=some (.string H)/\W.cell? ⟨g,3,none⟩=some (.string u)/\W.cell? ⟨g,4,none⟩=some (.string c)/\W.cell? ⟨g,5,none⟩=some (.int .i64 ck)/\W.cell? ⟨g,6,none⟩=some (.int .i64 cv)/\W.cell? ⟨g,7,none⟩=some (.slice none 0 0)/\W.cell? ⟨g,8,none⟩=some (.int .i64 0)/\W.cell? ⟨g,9,none⟩=some (.int .i64 0)/\W.cell? ⟨g,10,none⟩=some (.int .i64 0) from by
  have H:=HB.fr f (by simp)
  exact⟨H.lt,H.cell 0,H.cell 1,H.cell 2,H.cell 3,H.cell 4,H.cell 5,H.cell 6,H.cell 7,H.cell 8,H.cell 9,H.cell 10⟩))
 clear hk
 go_enter func14,ntmps14
 go_wp2_with fail
 rw[<-hwb]
 refine uu (HK _) λw0 f0=>?_
 have F0:=hid (fb.trans f0)
 have G0:=hid f0
 obtain⟨hgl,c0,c1,c2,c3,c4,c5,c6,c7,c8,c9,c10⟩:=HC.out w0 f0
 clear hwb fb f0
 try simp only[hg]
 go_upto_region 12 with fail
 have HS:=hid (λW (f:Fr [] w0 W)=>(show W.cell? ⟨g,2,none⟩=some (.string H)/\W.cell? ⟨g,3,none⟩=some (.string u)/\W.cell? ⟨g,4,none⟩=some (.string c)/\W.cell? ⟨g,5,none⟩=some (.int .i64 ck)/\W.cell? ⟨g,6,none⟩=some (.int .i64 cv) from by
  obtain⟨_,q0,q1,q2,q3,q4,q5,q6,q7,q8,q9,q10⟩:=HC.out W (G0.trans f)
  exact⟨q2,q3,q4,q5,q6⟩))
 have hS:=HS.out w0 rZ
 go_region_held3 (λw'=>w'.cell? ⟨g,2,none⟩=some (.string H)/\w'.cell? ⟨g,3,none⟩=some (.string u)/\w'.cell? ⟨g,4,none⟩=some (.string c)/\w'.cell? ⟨g,5,none⟩=some (.int .i64 ck)/\w'.cell? ⟨g,6,none⟩=some (.int .i64 cv)) (first|go_keep|exact hS|(simpa[go_sem] using hS))
  (first
   | (go_at_call 31;refine(iL _ _ _ ck cv (o3.bin.fr (by first|exact rZ|exact rZ.drewN _|exact rZ.drew)) (by simp[txt];omega) ck0 ck1 cv0 cv1).mono ?_;rintro e w4 ⟨v4,rfl,o4,f4'⟩;have f4:Fr [] w3 w4:=(by first|exact f4'|exact(rZ.drewN _).trans f4'|exact(rZ.drew).trans f4');have X4:Fr [] w0 w4:=X3.trans f4;have hS:=HS.out w4 X4)
   | (go_at_call 30;refine(aN _ _ _ c (o2.bin.fr (by first|exact rZ|exact rZ.drewN _|exact rZ.drew)) (by simp[txt];try omega) hc).mono ?_;rintro e w3 ⟨v3,rfl,o3,f3'⟩;have f3:Fr [] w2 w3:=(by first|exact f3'|exact(rZ.drewN _).trans f3'|exact(rZ.drew).trans f3');have X3:Fr [] w0 w3:=X2.trans f3;have hS:=HS.out w3 X3)
   | (go_at_call 30;refine(aN _ _ _ u (o1.bin.fr (by first|exact rZ|exact rZ.drewN _|exact rZ.drew)) (by simp[txt];try omega) hu).mono ?_;rintro e w2 ⟨v2,rfl,o2,f2'⟩;have f2:Fr [] w1 w2:=(by first|exact f2'|exact(rZ.drewN _).trans f2'|exact(rZ.drew).trans f2');have X2:Fr [] w0 w2:=X1.trans f2;have hS:=HS.out w2 X2)
   | (go_at_call 30;refine(aN _ _ [] H (BIn.nil _) (by simp[txt];try omega) hH).mono ?_;rintro e w1 ⟨v1,rfl,o1,f1'⟩;have f1:Fr [] w0 w1:=(by first|exact f1'|exact(rZ.drewN _).trans f1'|exact(rZ.drew).trans f1');have X1:Fr [] w0 w1:=f1;have hS:=HS.out w1 X1))
 all_goals
  go_wp2_with fail
  go_ret2
  exact⟨_,rfl,by simpa using o4.bin,F0.trans X4⟩
theorem Gz (w:World)(H u:ByteArray)(hH:H.size<=247)(hu:u.size<=247) 
  (hk:∀ W,Calls prog 29 #[.agg (rqv 6 em H u em 0 0 (.slice none 0 0) 0 0 0).toArray] W λe w'=>e = .returned (.int .i64 0)/\Fr [] W w') :
  Calls prog 14 #[.agg (rqv 6 em H u em 0 0 (.slice none 0 0) 0 0 0).toArray] w λe w'=>∃ v,e = .returned (.tuple #[v,.int .i64 0])/\BIn w' v (txt H++txt u)/\Fr [] w w':=by
 have HK:=hid hk
 obtain⟨g,hg⟩:∃ g,w.heap.size=g:=⟨_,rfl⟩
 obtain⟨wb,hwb⟩:∃ wb,wb=w.alloc (.cells #[.int .i64 6,.string em,.string H,.string u,.string em,.int .i64 0,.int .i64 0,.slice none 0 0,.int .i64 0,.int .i64 0,.int .i64 0] 37):=⟨_,rfl⟩
 have fb:Fr [] w wb:=by rw[hwb];exact rZ.alloc _
 have HB:=hid (show Holds wb g 37 #[.int .i64 6,.string em,.string H,.string u,.string em,.int .i64 0,.int .i64 0,.slice none 0 0,.int .i64 0,.int .i64 0,.int .i64 0] by rw[hwb,<-hg];exact Holds.new _ _ _)
 have HC:=hid (λW (f:Fr [] wb W)=>(show g<W.heap.size/\W.cell? ⟨g,0,none⟩=some (.int .i64 6)/\W.cell? ⟨g,1,none⟩=some (.string em)/\W.cell? ⟨g,2,none⟩=some (.string H)/\W.cell? ⟨g,3,none⟩=some (.string u)/\W.cell? ⟨g,4,none⟩=some (.string em)/\W.cell? ⟨g,5,none⟩=some (.int .i64 0)/\W.cell? ⟨g,6,none⟩=some (.int .i64 0)/\W.cell? ⟨g,7,none⟩=some (.slice none 0 0)/\W.cell? ⟨g,8,none⟩=some (.int .i64 0)/\W.cell? ⟨g,9,none⟩=some (.int .i64 0)/\W.cell? ⟨g,10,none⟩=some (.int .i64 0) from by
  have H:=HB.fr f (by simp)
  exact⟨H.lt,H.cell 0,H.cell 1,H.cell 2,H.cell 3,H.cell 4,H.cell 5,H.cell 6,H.cell 7,H.cell 8,H.cell 9,H.cell 10⟩))
 clear hk
 go_enter func14,ntmps14
 go_wp2_with fail
 rw[<-hwb]
 refine uu (HK _) λw0 f0=>?_
 have F0:=hid (fb.trans f0)
 have G0:=hid f0
 obtain⟨hgl,c0,c1,c2,c3,c4,c5,c6,c7,c8,c9,c10⟩:=HC.out w0 f0
 clear hwb fb f0
 try simp only[hg]
 go_upto_region 16 with fail
 have HS:=hid (λW (f:Fr [] w0 W)=>(show W.cell? ⟨g,2,none⟩=some (.string H)/\W.cell? ⟨g,3,none⟩=some (.string u) from by
  obtain⟨_,q0,q1,q2,q3,q4,q5,q6,q7,q8,q9,q10⟩:=HC.out W (G0.trans f)
  exact⟨q2,q3⟩))
 have hS:=HS.out w0 rZ
 go_region_held3 (λw'=>w'.cell? ⟨g,2,none⟩=some (.string H)/\w'.cell? ⟨g,3,none⟩=some (.string u)) (first|go_keep|exact hS|(simpa[go_sem] using hS))
  (first
   | (go_at_call 30;refine(aN _ _ _ u (o1.bin.fr (by first|exact rZ|exact rZ.drewN _|exact rZ.drew)) (by simp[txt];try omega) hu).mono ?_;rintro e w2 ⟨v2,rfl,o2,f2'⟩;have f2:Fr [] w1 w2:=(by first|exact f2'|exact(rZ.drewN _).trans f2'|exact(rZ.drew).trans f2');have X2:Fr [] w0 w2:=X1.trans f2;have hS:=HS.out w2 X2)
   | (go_at_call 30;refine(aN _ _ [] H (BIn.nil _) (by simp[txt];try omega) hH).mono ?_;rintro e w1 ⟨v1,rfl,o1,f1'⟩;have f1:Fr [] w0 w1:=(by first|exact f1'|exact(rZ.drewN _).trans f1'|exact(rZ.drew).trans f1');have X1:Fr [] w0 w1:=f1;have hS:=HS.out w1 X1))
 all_goals
  go_wp2_with fail
  go_ret2
  exact⟨_,rfl,by simpa using o2.bin,F0.trans X2⟩
theorem Gx (w:World)(H:ByteArray)(tk ms:Int)(hH:H.size<=247)(tk0:0<=tk)(tk1:tk<=1099511627791)(ms0:0<=ms)(ms1:ms<=247)
  (hk:∀ W,Calls prog 29 #[.agg (rqv 8 em H em em 0 0 (.slice none 0 0) tk ms 0).toArray] W λe w'=>e = .returned (.int .i64 0)/\Fr [] W w') :
  Calls prog 14 #[.agg (rqv 8 em H em em 0 0 (.slice none 0 0) tk ms 0).toArray] w λe w'=>∃ v,e = .returned (.tuple #[v,.int .i64 0])/\BIn w' v (txt H++ed tk++[nb ms])/\Fr [] w w':=by
 have HK:=hid hk
 have hnl:=cH tk
 obtain⟨g,hg⟩:∃ g,w.heap.size=g:=⟨_,rfl⟩
 obtain⟨wb,hwb⟩:∃ wb,wb=w.alloc (.cells #[.int .i64 8,.string em,.string H,.string em,.string em,.int .i64 0,.int .i64 0,.slice none 0 0,.int .i64 tk,.int .i64 ms,.int .i64 0] 37):=⟨_,rfl⟩
 have fb:Fr [] w wb:=by rw[hwb];exact rZ.alloc _
 have HB:=hid (show Holds wb g 37 #[.int .i64 8,.string em,.string H,.string em,.string em,.int .i64 0,.int .i64 0,.slice none 0 0,.int .i64 tk,.int .i64 ms,.int .i64 0] by rw[hwb,<-hg];exact Holds.new _ _ _)
 have HC:=hid (λW (f:Fr [] wb W)=>(show g<W.heap.size/\W.cell? ⟨g,0,none⟩=some (.int .i64 8)/\W.cell? ⟨g,1,none⟩=some (.string em)/\W.cell? ⟨g,2,none⟩=some (.string H)/\W.cell? ⟨g,3,none⟩=some (.string em)/\W.cell? ⟨g,4,none⟩=some (.string em)/\W.cell? ⟨g,5,none⟩=some (.int .i64 0)/\W.cell? ⟨g,6,none⟩=some (.int .i64 0)/\W.cell? ⟨g,7,none⟩=some (.slice none 0 0)/\W.cell? ⟨g,8,none⟩=some (.int .i64 tk)/\W.cell? ⟨g,9,none⟩=some (.int .i64 ms)/\W.cell? ⟨g,10,none⟩=some (.int .i64 0) from by
  have H:=HB.fr f (by simp)
  exact⟨H.lt,H.cell 0,H.cell 1,H.cell 2,H.cell 3,H.cell 4,H.cell 5,H.cell 6,H.cell 7,H.cell 8,H.cell 9,H.cell 10⟩))
 clear hk
 go_enter func14,ntmps14
 go_wp2_with fail
 rw[<-hwb]
 refine uu (HK _) λw0 f0=>?_
 have F0:=hid (fb.trans f0)
 have G0:=hid f0
 obtain⟨hgl,c0,c1,c2,c3,c4,c5,c6,c7,c8,c9,c10⟩:=HC.out w0 f0
 clear hwb fb f0
 try simp only[hg]
 go_upto_region 28 with fail
 have HS:=hid (λW (f:Fr [] w0 W)=>(show W.cell? ⟨g,2,none⟩=some (.string H)/\W.cell? ⟨g,8,none⟩=some (.int .i64 tk)/\W.cell? ⟨g,9,none⟩=some (.int .i64 ms) from by
  obtain⟨_,q0,q1,q2,q3,q4,q5,q6,q7,q8,q9,q10⟩:=HC.out W (G0.trans f)
  exact⟨q2,q8,q9⟩))
 have hS:=HS.out w0 rZ
 go_region_held3 (λw'=>w'.cell? ⟨g,2,none⟩=some (.string H)/\w'.cell? ⟨g,8,none⟩=some (.int .i64 tk)/\w'.cell? ⟨g,9,none⟩=some (.int .i64 ms)) (first|go_keep|exact hS|(simpa[go_sem] using hS))
  (first
   | (go_at_call 32;refine(bP _ _ _ ms (o2.bin.fr (by first|exact rZ|exact rZ.drewN _|exact rZ.drew)) (by simp[txt];omega) ms0 ms1).mono ?_;rintro e w3 ⟨v3,rfl,o3,f3'⟩;have f3:Fr [] w2 w3:=(by first|exact f3'|exact(rZ.drewN _).trans f3'|exact(rZ.drew).trans f3');have X3:Fr [] w0 w3:=X2.trans f3;have hS:=HS.out w3 X3)
   | (go_at_call 32;refine(oK _ _ _ tk (o1.bin.fr (by first|exact rZ|exact rZ.drewN _|exact rZ.drew)) (by simp[txt];omega) tk0 tk1).mono ?_;rintro e w2 ⟨v2,rfl,o2,f2'⟩;have f2:Fr [] w1 w2:=(by first|exact f2'|exact(rZ.drewN _).trans f2'|exact(rZ.drew).trans f2');have X2:Fr [] w0 w2:=X1.trans f2;have hS:=HS.out w2 X2)
   | (go_at_call 30;refine(aN _ _ [] H (BIn.nil _) (by simp[txt];try omega) hH).mono ?_;rintro e w1 ⟨v1,rfl,o1,f1'⟩;have f1:Fr [] w0 w1:=(by first|exact f1'|exact(rZ.drewN _).trans f1'|exact(rZ.drew).trans f1');have X1:Fr [] w0 w1:=f1;have hS:=HS.out w1 X1))
 all_goals
  go_wp2_with fail
  go_ret2
  exact⟨_,rfl,by simpa using o3.bin,F0.trans X3⟩
theorem Gw (w:World)(H:ByteArray)(tk tc:Int)(hH:H.size<=247)(tk0:0<=tk)(tk1:tk<=1099511627791)(tc0:0<=tc)(tc1:tc<=247)
  (hk:∀ W,Calls prog 29 #[.agg (rqv 9 em H em em 0 0 (.slice none 0 0) tk 0 tc).toArray] W λe w'=>e = .returned (.int .i64 0)/\Fr [] W w') :
  Calls prog 14 #[.agg (rqv 9 em H em em 0 0 (.slice none 0 0) tk 0 tc).toArray] w λe w'=>∃ v,e = .returned (.tuple #[v,.int .i64 0])/\BIn w' v (txt H++ed tk++[nb tc])/\Fr [] w w':=by
 have HK:=hid hk
 have hnl:=cH tk
 obtain⟨g,hg⟩:∃ g,w.heap.size=g:=⟨_,rfl⟩
 obtain⟨wb,hwb⟩:∃ wb,wb=w.alloc (.cells #[.int .i64 9,.string em,.string H,.string em,.string em,.int .i64 0,.int .i64 0,.slice none 0 0,.int .i64 tk,.int .i64 0,.int .i64 tc] 37):=⟨_,rfl⟩
 have fb:Fr [] w wb:=by rw[hwb];exact rZ.alloc _
 have HB:=hid (show Holds wb g 37 #[.int .i64 9,.string em,.string H,.string em,.string em,.int .i64 0,.int .i64 0,.slice none 0 0,.int .i64 tk,.int .i64 0,.int .i64 tc] by rw[hwb,<-hg];exact Holds.new _ _ _)
 have HC:=hid (λW (f:Fr [] wb W)=>(show g<W.heap.size/\W.cell? ⟨g,0,none⟩=some (.int .i64 9)/\W.cell? ⟨g,1,none⟩=some (.string em)/\W.cell? ⟨g,2,none⟩=some (.string H)/\W.cell? ⟨g,3,none⟩=some (.string em)/\W.cell? ⟨g,4,none⟩=some (.string em)/\W.cell? ⟨g,5,none⟩=some (.int .i64 0)/\W.cell? ⟨g,6,none⟩=some (.int .i64 0)/\W.cell? ⟨g,7,none⟩=some (.slice none 0 0)/\W.cell? ⟨g,8,none⟩=some (.int .i64 tk)/\W.cell? ⟨g,9,none⟩=some (.int .i64 0)/\W.cell? ⟨g,10,none⟩=some (.int .i64 tc) from by
  have H:=HB.fr f (by simp)
  exact⟨H.lt,H.cell 0,H.cell 1,H.cell 2,H.cell 3,H.cell 4,H.cell 5,H.cell 6,H.cell 7,H.cell 8,H.cell 9,H.cell 10⟩))
 clear hk
 go_enter func14,ntmps14
 go_wp2_with fail
 rw[<-hwb]
 refine uu (HK _) λw0 f0=>?_
 have F0:=hid (fb.trans f0)
 have G0:=hid f0
 obtain⟨hgl,c0,c1,c2,c3,c4,c5,c6,c7,c8,c9,c10⟩:=HC.out w0 f0
 clear hwb fb f0
 try simp only[hg]
 go_upto_region 30 with fail
 have HS:=hid (λW (f:Fr [] w0 W)=>(show W.cell? ⟨g,2,none⟩=some (.string H)/\W.cell? ⟨g,8,none⟩=some (.int .i64 tk)/\W.cell? ⟨g,10,none⟩=some (.int .i64 tc) from by
  obtain⟨_,q0,q1,q2,q3,q4,q5,q6,q7,q8,q9,q10⟩:=HC.out W (G0.trans f)
  exact⟨q2,q8,q10⟩))
 have hS:=HS.out w0 rZ
 go_region_held3 (λw'=>w'.cell? ⟨g,2,none⟩=some (.string H)/\w'.cell? ⟨g,8,none⟩=some (.int .i64 tk)/\w'.cell? ⟨g,10,none⟩=some (.int .i64 tc)) (first|go_keep|exact hS|(simpa[go_sem] using hS))
  (first
   | (go_at_call 32;refine(bP _ _ _ tc (o2.bin.fr (by first|exact rZ|exact rZ.drewN _|exact rZ.drew)) (by simp[txt];omega) tc0 tc1).mono ?_;rintro e w3 ⟨v3,rfl,o3,f3'⟩;have f3:Fr [] w2 w3:=(by first|exact f3'|exact(rZ.drewN _).trans f3'|exact(rZ.drew).trans f3');have X3:Fr [] w0 w3:=X2.trans f3;have hS:=HS.out w3 X3)
   | (go_at_call 32;refine(oK _ _ _ tk (o1.bin.fr (by first|exact rZ|exact rZ.drewN _|exact rZ.drew)) (by simp[txt];omega) tk0 tk1).mono ?_;rintro e w2 ⟨v2,rfl,o2,f2'⟩;have f2:Fr [] w1 w2:=(by first|exact f2'|exact(rZ.drewN _).trans f2'|exact(rZ.drew).trans f2');have X2:Fr [] w0 w2:=X1.trans f2;have hS:=HS.out w2 X2)
   | (go_at_call 30;refine(aN _ _ [] H (BIn.nil _) (by simp[txt];try omega) hH).mono ?_;rintro e w1 ⟨v1,rfl,o1,f1'⟩;have f1:Fr [] w0 w1:=(by first|exact f1'|exact(rZ.drewN _).trans f1'|exact(rZ.drew).trans f1');have X1:Fr [] w0 w1:=f1;have hS:=HS.out w1 X1))
 all_goals
  go_wp2_with fail
  go_ret2
  exact⟨_,rfl,by simpa using o3.bin,F0.trans X3⟩
open Go.RowKit Fm Pk Rq
theorem sS (w:World)(B n cap:Nat)(a:Option Addr)(l:List M.Op)(ho:Ops w B a n cap l)(hn:n=l.length)(h1:1<=n)(h8:n<=8)(hop:∀ o,o∈l->kv o) :
  cA 29 #[.agg (rqv 7 em M.home em em 0 0 (.slice a n cap) 0 0 0).toArray] w (.int .i64 0):=by
 obtain⟨g,hg⟩:∃ g,w.heap.size=g:=⟨_,rfl⟩
 obtain⟨W,hW⟩:∃ W,W=w.alloc (.cells #[.int .i64 7,.string em,.string M.home,.string em,.string em,.int .i64 0,.int .i64 0,.slice a n cap,.int .i64 0,.int .i64 0,.int .i64 0] 37):=⟨_,rfl⟩
 have fW:Fr [] w W:=by rw[hW];exact rZ.alloc _
 have HB:=hid (show Holds W g 37 #[.int .i64 7,.string em,.string M.home,.string em,.string em,.int .i64 0,.int .i64 0,.slice a n cap,.int .i64 0,.int .i64 0,.int .i64 0] by rw[hW,<-hg];exact Holds.new _ _ _)
 have HO:=hid (show Ops W B a n cap l from Own.fr0 ho fW)
 have HP:=hid hop
 have HN:=hid hn
 have FW:=hid fW
 have hn1:(1:Int)<=(n:Int):=by omega
 have hn8:(n:Int)<=8:=by omega
 have HC:=hid (λW' (f:Fr [] W W')=>(show g<W'.heap.size/\W'.cell? ⟨g,0,none⟩=some (.int .i64 7)/\W'.cell? ⟨g,2,none⟩=some (.string M.home)/\W'.cell? ⟨g,7,none⟩=some (.slice a n cap)/\W'.cell? ⟨g,8,none⟩=some (.int .i64 0)/\W'.cell? ⟨g,9,none⟩=some (.int .i64 0)/\W'.cell? ⟨g,10,none⟩=some (.int .i64 0) from by
  have H:=HB.fr f (by simp)
  exact⟨H.lt,H.cell 0,H.cell 2,H.cell 7,H.cell 8,H.cell 9,H.cell 10⟩))
 clear ho hop hn fW
 go_enter func29,ntmps29
 go_wp2_with fail
 rw[<-hW]
 try simp only[hg]
 clear hW
 go_loopw [10] (λi wr=>∃ k:Nat,i = .int .i64 k/\k<=n/\Fr [] W wr) (λi _=>n - (intOf i).toNat)
 case atStart=>exact⟨0,rfl,Nat.zero_le _,rZ⟩
 obtain⟨k,rfl,hk,fr⟩:=hrel
 obtain⟨hgl,c0,c2,c7,c8,c9,c10⟩:=HC.out wr fr
 by_cases hlt:k<n
 ·have hll:k<l.length:=by have:=HN.out;omega
  have hx:l[k]? = some l[k]:=List.getElem?_eq_getElem hll
  obtain⟨x,hx'⟩:∃ x,l[k]=x:=⟨_,rfl⟩
  rw[hx'] at hx
  have hcard:=(HP x (List.mem_of_getElem? hx)).au
  obtain⟨gq,rfl,hql,z0,z1,z2,z3,z4⟩:=gR (HO.fr0 fr) HN hx
  have F:=hid fr
  clear hx hx' fr
  have hk1:(k:Int)<(n:Int):=by omega
  cases hd:x.del with
  | true =>
   rw[hd] at hcard z0
   simp only[if_true] at hcard
   rw[hcard] at z2
   go_wp2_with fail
   go_roundw
   case rel=>exact⟨k+1,by go_num,by omega,F⟩
   simp[intOf];omega
  | false =>
   rw[hd] at z0
   clear hcard
   go_wp2_with fail
   go_roundw
   case rel=>exact⟨k+1,by go_num,by omega,F⟩
   simp[intOf];omega
 have hk1:¬ (k:Int)<(n:Int):=by omega
 have F:=hid fr
 clear fr
 go_wp2_with fail
 refine(Id.fI _ _ gm).mono ?_
 rintro e w' ⟨rfl,rfl⟩
 go_wp2_with fail
 clear c0 c2 c7 c8 c9 c10
 go_loopw [11] (λi wr=>∃ k:Nat,i = .int .i64 k/\k<=n/\Fr [] W wr) (λi _=>n - (intOf i).toNat)
 case atStart=>exact⟨0,rfl,Nat.zero_le _,F⟩
 clear F
 obtain⟨k,rfl,hk,fr⟩:=hrel
 obtain⟨hgl,c0,c2,c7,c8,c9,c10⟩:=HC.out wr fr
 by_cases hlt:k<n
 ·have hll:k<l.length:=by have:=HN.out;omega
  have hx:l[k]? = some l[k]:=List.getElem?_eq_getElem hll
  obtain⟨x,hx'⟩:∃ x,l[k]=x:=⟨_,rfl⟩
  rw[hx'] at hx
  have HU:=hid (HP x (List.mem_of_getElem? hx)).uid
  obtain⟨gq,rfl,hql,z0,z1,z2,z3,z4⟩:=gR (HO.fr0 fr) HN hx
  have F:=hid fr
  clear hx hx' fr
  have hk1:(k:Int)<(n:Int):=by omega
  go_wp2_with fail
  refine(Id.gO _ _ HU).mono ?_
  rintro e w' ⟨rfl,rfl⟩
  go_wp2_with fail
  go_roundw
  case rel=>exact⟨k+1,by go_num,by omega,F⟩
  simp[intOf];omega
 have hk1:¬ (k:Int)<(n:Int):=by omega
 have F:=hid fr
 clear fr
 go_wp2_with fail
 clear c0 c2 c7 c8 c9 c10
 go_loopw [12] (λi wr=>∃ k:Nat,i = .int .i64 k/\k<=n/\Fr [] W wr) (λi _=>n - (intOf i).toNat)
 case atStart=>exact⟨0,rfl,Nat.zero_le _,F⟩
 clear F
 obtain⟨k,rfl,hk,fr⟩:=hrel
 obtain⟨hgl,c0,c2,c7,c8,c9,c10⟩:=HC.out wr fr
 by_cases hlt:k<n
 ·have hll:k<l.length:=by have:=HN.out;omega
  have hx:l[k]? = some l[k]:=List.getElem?_eq_getElem hll
  obtain⟨x,hx'⟩:∃ x,l[k]=x:=⟨_,rfl⟩
  rw[hx'] at hx
  have okx:=HP.out x (List.mem_of_getElem? hx)
  obtain⟨gq,rfl,hql,z0,z1,z2,z3,z4⟩:=gR (HO.fr0 fr) HN hx
  have hcard:=okx.au
  have HCD:=hid (show Et.aY x.ck x.cv=true from okx.cond)
  have F:=hid fr
  have b3:=hid (Holds.new wr 43 (Lp.cs x).toArray)
  clear hx hx' fr okx
  have hk1:(k:Int)<(n:Int):=by omega
  cases hd:x.del with
  | true =>
   rw[hd] at z0
   clear hcard
   go_wp2_with fail
   refine uu (Et.gd _ _ _) λw3 f3=>?_
   rw[HCD]
   go_wp2_with fail
   go_roundw
   case rel=>exact⟨k+1,by go_num,by omega,(F.trans (rZ.alloc _)).trans f3⟩
   simp[intOf];omega
  | false =>
   rw[hd] at hcard z0
   simp only[Bool.false_eq_true,if_false] at hcard
   have HCA:=hid hcard
   clear hcard
   go_wp2_with fail
   refine uu (Rf.cz _ _ HCA) λw2 f2=>?_
   have f2':Fr [] (wr.alloc (.cells (Lp.cs x).toArray 43)) w2:=by
    simp only[Lp.cs,hd]
    exact f2
   have b4:=b3.fr f2' (by simp)
   have e3:=b4.cell 3
   have e4:=b4.cell 4
   simp[Lp.cs] at e3 e4
   clear z0 z1 z2 z3 z4 b4 c0 c2 c7 c8 c9 c10
   go_wp2_with fail
   refine uu (Et.gd _ _ _) λw3 f3=>?_
   rw[HCD]
   go_wp2_with fail
   go_roundw
   case rel=>exact⟨k+1,by go_num,by omega,((F.trans (rZ.alloc _)).trans f2).trans f3⟩
   simp[intOf];omega
 have hk1:¬ (k:Int)<(n:Int):=by omega
 have F:=hid fr
 clear fr
 go_wp2_with fail
 go_ret
 exact⟨rfl,FW.trans F⟩
open Go.RowKit Fm Pk Rq
theorem rQ (o:M.Op):En.opB o=[nb (En.bit o.del)]++txt o.uid++(if o.del then [] else txt o.au)++En.iM o.ck o.cv:=by simp[En.opB]
theorem Gy (w:World)(B n cap:Nat)(a:Option Addr)(l:List M.Op)(H:ByteArray)(ho:Ops w B a n cap l)(hn:n=l.length)(h1:1<=n)(h8:n<=2)(hop:∀ o,o∈l->kv o)(hH:H.size<=247)
  (hk:∀ W,Fr [] w W->Calls prog 29 #[.agg (rqv 7 em H em em 0 0 (.slice a n cap) 0 0 0).toArray] W λe w'=>e = .returned (.int .i64 0)/\Fr [] W w') :
  Calls prog 14 #[.agg (rqv 7 em H em em 0 0 (.slice a n cap) 0 0 0).toArray] w λe w'=>∃ v,e = .returned (.tuple #[v,.int .i64 0])/\BIn w' v (txt H++[nb n]++l.flatMap En.opB)/\Fr [] w w':=by
 obtain⟨g,hg⟩:∃ g,w.heap.size=g:=⟨_,rfl⟩
 obtain⟨wb,hwb⟩:∃ wb,wb=w.alloc (.cells #[.int .i64 7,.string em,.string H,.string em,.string em,.int .i64 0,.int .i64 0,.slice a n cap,.int .i64 0,.int .i64 0,.int .i64 0] 37):=⟨_,rfl⟩
 have fb:Fr [] w wb:=by rw[hwb];exact rZ.alloc _
 have HK:=hid (hk wb fb)
 have HB:=hid (show Holds wb g 37 #[.int .i64 7,.string em,.string H,.string em,.string em,.int .i64 0,.int .i64 0,.slice a n cap,.int .i64 0,.int .i64 0,.int .i64 0] by rw[hwb,<-hg];exact Holds.new _ _ _)
 have HO:=hid (show Ops wb B a n cap l from Own.fr0 ho fb)
 have HP:=hid hop
 have HN:=hid hn
 have hn1:(1:Int)<=(n:Int):=by omega
 have hn8:(n:Int)<=8:=by omega
 have HC:=hid (λW (f:Fr [] wb W)=>(show g<W.heap.size/\W.cell? ⟨g,0,none⟩=some (.int .i64 7)/\W.cell? ⟨g,2,none⟩=some (.string H)/\W.cell? ⟨g,7,none⟩=some (.slice a n cap) from by
  have H:=HB.fr f (by simp)
  exact⟨H.lt,H.cell 0,H.cell 2,H.cell 7⟩))
 clear hk ho hop hn
 go_enter func14,ntmps14
 go_wp2_with fail
 rw[<-hwb]
 refine uu HK λw0 f0=>?_
 have F0:=hid (fb.trans f0)
 have G0:=hid f0
 obtain⟨hgl,c0,c2,c7⟩:=HC.out w0 f0
 clear hwb fb f0
 try simp only[hg]
 go_upto_region 18 with fail
 have HS:=hid (λW (f:Fr [] w0 W)=>(show W.cell? ⟨g,2,none⟩=some (.string H)/\W.cell? ⟨g,7,none⟩=some (.slice a n cap) from by
  obtain⟨_,_,q2,q7⟩:=HC.out W (G0.trans f)
  exact⟨q2,q7⟩))
 have hS:=HS.out w0 rZ
 go_region_held3 (λw'=>w'.cell? ⟨g,2,none⟩=some (.string H)/\w'.cell? ⟨g,7,none⟩=some (.slice a n cap)) (first|go_keep|exact hS|(simpa[go_sem] using hS))
  (first
   | (go_at_call 32;refine(bP _ _ _ n (o1.bin.fr (by first|exact rZ|exact rZ.drewN _|exact rZ.drew)) (by simp[txt];omega) (by omega) (by omega)).mono ?_;rintro e w2 ⟨v2,rfl,o2,f2'⟩;have f2:Fr [] w1 w2:=(by first|exact f2'|exact(rZ.drewN _).trans f2'|exact(rZ.drew).trans f2');have X2:Fr [] w0 w2:=f1.trans f2;have hS:=HS.out w2 X2)
   | (go_at_call 30;refine(aN _ _ [] H (BIn.nil _) (by simp) hH).mono ?_;rintro e w1 ⟨v1,rfl,o1,f1'⟩;have f1:Fr [] w0 w1:=(by first|exact f1'|exact(rZ.drewN _).trans f1'|exact(rZ.drew).trans f1');have hS:=HS.out w1 f1))
 all_goals
  have HO2:=hid (And.intro (show BIn w2 v2 (txt H++[nb n]++(l.take 0).flatMap En.opB) by simpa using o2.bin) X2)
  clear hS o1 o2 f1 f2 X2 c0 c2 c7
  try clear f1'
  try clear f2'
  obtain⟨hgl2,d0,d2,d7⟩:=HC.out w2 (G0.trans HO2.2)
  go_wp2_with fail
  clear d0 d2 d7 hgl2
  go_loopw [5,6] (λb i wr=>∃ k:Nat,i = .int .i64 k/\k<=n/\BIn wr b (txt H++[nb n]++(l.take k).flatMap En.opB)/\Fr [] w0 wr) (λ_ i _=>n - (intOf i).toNat)
  case atStart=>exact⟨0,rfl,Nat.zero_le _,HO2.1,HO2.2⟩
  clear HO2
  obtain⟨k,rfl,hk,hb,fr⟩:=hrel
  obtain⟨hgl,c0,c2,c7⟩:=HC.out wr (G0.trans fr)
  by_cases hlt:k<n
  ·have hll:k<l.length:=by have:=HN.out;omega
   have hx:l[k]? = some l[k]:=List.getElem?_eq_getElem hll
   obtain⟨x,hx'⟩:∃ x,l[k]=x:=⟨_,rfl⟩
   rw[hx'] at hx
   have okx:=HP.out x (List.mem_of_getElem? hx)
   have HD:=hid (show (l.take (k+1)).flatMap En.opB=(l.take k).flatMap En.opB++En.opB x by rw[List.take_succ,hx];simp)
   obtain⟨gq,rfl,hql,z0,z1,z2,z3,z4⟩:=gR (HO.fr0 (G0.trans fr)) HN hx
   obtain⟨hu1,hu2⟩:=dJ okx.uid
   obtain⟨hc0,hc1,hc2⟩:=je okx.cond okx.cv
   have hcv:=okx.cv
   have hcd:=okx.au
   have hlen:(txt H++[nb n]++(l.take k).flatMap En.opB).length<=1000:=by
    have h1:=kG (l:=l.take k) λo ho=>HP o (List.mem_of_mem_take ho)
    simp only[List.length_take] at h1
    have ht:(txt H).length=H.size+1:=by simp[txt]
    rw[List.length_append,List.length_append,ht]
    simp only[List.length_cons,List.length_nil]
    omega
   obtain⟨L,hL⟩:∃ L,txt H++[nb n]++(l.take k).flatMap En.opB=L:=⟨_,rfl⟩
   rw[hL] at hb hlen
   have HL:=hid hL
   have HBn:=hid hb
   have F:=hid fr
   obtain⟨N,hN⟩:∃ N,wr.heap.size=N:=⟨_,rfl⟩
   clear hx hx' fr okx hL hb
   have hk1:(k:Int)<(n:Int):=by omega
   cases hd:x.del
   ·rw[hd] at hcd z0
    simp only[Bool.false_eq_true,if_false] at hcd
    obtain⟨hcz1,hcz2⟩:=dY hcd
    go_upto_region 23 with fail
    obtain⟨W2,hW2⟩:∃ W2,W2=wr.alloc (.cells #[.bool false,.string x.uid,.string x.au,.int .i64 x.ck,.int .i64 x.cv] 43):=⟨_,rfl⟩
    have fo:Fr [] wr W2:=by rw[hW2];exact rZ.alloc _
    have BO:=hid (show Holds W2 N 43 #[.bool false,.string x.uid,.string x.au,.int .i64 x.ck,.int .i64 x.cv] by rw[hW2,<-hN];exact Holds.new _ _ _)
    rw[<-hW2]
    try simp only[hN]
    have FO:=hid fo
    have HCo:=hid (λW (f:Fr [] W2 W)=>(show N<W.heap.size/\W.cell? ⟨N,0,none⟩=some (.bool false)/\W.cell? ⟨N,1,none⟩=some (.string x.uid)/\W.cell? ⟨N,2,none⟩=some (.string x.au)/\W.cell? ⟨N,3,none⟩=some (.int .i64 x.ck)/\W.cell? ⟨N,4,none⟩=some (.int .i64 x.cv) from by
     have H:=BO.fr f (by simp)
     exact⟨H.lt,H.cell 0,H.cell 1,H.cell 2,H.cell 3,H.cell 4⟩))
    clear hW2 fo z0 z1 z2 z3 z4 c0 c2 c7
    obtain⟨hNl,y0,y1,y2,y3,y4⟩:=HCo.out W2 rZ
    have hS:=And.intro y0 y1
    go_region_held3 (λw'=>w'.cell? ⟨N,0,none⟩=some (.bool false)/\w'.cell? ⟨N,1,none⟩=some (.string x.uid)) (first|go_keep|exact hS|(simpa[go_sem] using hS))
     (first
      | (go_at_call 30;refine(aN _ _ _ x.uid (o3.bin.fr (by first|exact rZ|exact rZ.drewN _|exact rZ.drew)) (by simp;omega) (by omega)).mono ?_;rintro e w4 ⟨v4,rfl,o4,f4'⟩;have f4:Fr [] w3 w4:=(by first|exact f4'|exact(rZ.drewN _).trans f4'|exact(rZ.drew).trans f4');have X4:Fr [] W2 w4:=f3.trans f4;have hS:=(have H:=HCo.out w4 X4;And.intro H.2.1 H.2.2.1))
      | (go_at_call 32;refine(bP _ _ L (En.bit false) (HBn.fr (FO.trans (by first|exact rZ|exact rZ.drewN _|exact rZ.drew))) (by omega) (by decide) (by decide)).mono ?_;rintro e w3 ⟨v3,rfl,o3,f3'⟩;have f3:Fr [] W2 w3:=(by first|exact f3'|exact(rZ.drewN _).trans f3'|exact(rZ.drew).trans f3');have hS:=(have H:=HCo.out w3 f3;And.intro H.2.1 H.2.2.1))
      | (go_at_call 33;refine(jU _ false).mono ?_;rintro e w' ⟨rfl,rfl⟩))
    all_goals
     clear hS y0 y1 y2 y3 y4
     obtain⟨hNl4,q0,q1,q2,q3,q4⟩:=HCo.out w4 X4
     have HX:=hid (And.intro o4 X4)
     clear o3 o4 f3 f4 X4
     try clear f3'
     try clear f4'
     go_wp2_with fail
     refine(aN _ _ _ x.au HX.1.bin (by simp[txt];omega) (by omega)).mono ?_
     rintro e w5 ⟨v5,rfl,o5,f5⟩
     obtain⟨hNl5,r0,r1,r2,r3,r4⟩:=HCo.out w5 (HX.2.trans f5)
     have HX5:=hid (And.intro o5 f5)
     clear o5 f5 q0 q1 q2 q3 q4
     go_wp2_with fail
     refine(iL _ _ _ x.ck x.cv HX5.1.bin (by simp[txt];omega) hc0 hc1 hc2 hcv).mono ?_
     rintro e w6 ⟨v6,rfl,o6,f6⟩
     have HX6:=hid (And.intro o6 f6)
     clear o6 f6 r0 r1 r2 r3 r4
     go_wp2_with fail
     go_roundw
     case rel =>
      refine⟨k+1,by go_num,by omega,?_,F.trans (((FO.trans HX.2).trans HX5.2).trans HX6.2)⟩
      have:=HX6.1.bin
      rw[HD,<-List.append_assoc,HL,rQ,hd]
      simpa using this
     simp[intOf];omega
   rw[hd] at hcd z0
   simp only[if_true] at hcd
   clear hcd
   go_upto_region 23 with fail
   obtain⟨W2,hW2⟩:∃ W2,W2=wr.alloc (.cells #[.bool true,.string x.uid,.string x.au,.int .i64 x.ck,.int .i64 x.cv] 43):=⟨_,rfl⟩
   have fo:Fr [] wr W2:=by rw[hW2];exact rZ.alloc _
   have BO:=hid (show Holds W2 N 43 #[.bool true,.string x.uid,.string x.au,.int .i64 x.ck,.int .i64 x.cv] by rw[hW2,<-hN];exact Holds.new _ _ _)
   rw[<-hW2]
   try simp only[hN]
   have FO:=hid fo
   have HCo:=hid (λW (f:Fr [] W2 W)=>(show N<W.heap.size/\W.cell? ⟨N,0,none⟩=some (.bool true)/\W.cell? ⟨N,1,none⟩=some (.string x.uid)/\W.cell? ⟨N,2,none⟩=some (.string x.au)/\W.cell? ⟨N,3,none⟩=some (.int .i64 x.ck)/\W.cell? ⟨N,4,none⟩=some (.int .i64 x.cv) from by
    have H:=BO.fr f (by simp)
    exact⟨H.lt,H.cell 0,H.cell 1,H.cell 2,H.cell 3,H.cell 4⟩))
   clear hW2 fo z0 z1 z2 z3 z4 c0 c2 c7
   obtain⟨hNl,y0,y1,y2,y3,y4⟩:=HCo.out W2 rZ
   have hS:=And.intro y0 y1
   go_region_held3 (λw'=>w'.cell? ⟨N,0,none⟩=some (.bool true)/\w'.cell? ⟨N,1,none⟩=some (.string x.uid)) (first|go_keep|exact hS|(simpa[go_sem] using hS))
    (first
     | (go_at_call 30;refine(aN _ _ _ x.uid (o3.bin.fr (by first|exact rZ|exact rZ.drewN _|exact rZ.drew)) (by simp;omega) (by omega)).mono ?_;rintro e w4 ⟨v4,rfl,o4,f4'⟩;have f4:Fr [] w3 w4:=(by first|exact f4'|exact(rZ.drewN _).trans f4'|exact(rZ.drew).trans f4');have X4:Fr [] W2 w4:=f3.trans f4;have hS:=(have H:=HCo.out w4 X4;And.intro H.2.1 H.2.2.1))
     | (go_at_call 32;refine(bP _ _ L (En.bit true) (HBn.fr (FO.trans (by first|exact rZ|exact rZ.drewN _|exact rZ.drew))) (by omega) (by decide) (by decide)).mono ?_;rintro e w3 ⟨v3,rfl,o3,f3'⟩;have f3:Fr [] W2 w3:=(by first|exact f3'|exact(rZ.drewN _).trans f3'|exact(rZ.drew).trans f3');have hS:=(have H:=HCo.out w3 f3;And.intro H.2.1 H.2.2.1))
     | (go_at_call 33;refine(jU _ true).mono ?_;rintro e w' ⟨rfl,rfl⟩))
   all_goals
    clear hS y0 y1 y2 y3 y4
    obtain⟨hNl4,q0,q1,q2,q3,q4⟩:=HCo.out w4 X4
    have HX:=hid (And.intro o4 X4)
    clear o3 o4 f3 f4 X4
    try clear f3'
    try clear f4'
    go_wp2_with fail
    refine(iL _ _ _ x.ck x.cv HX.1.bin (by simp[txt];omega) hc0 hc1 hc2 hcv).mono ?_
    rintro e w5 ⟨v5,rfl,o5,f5⟩
    have HX5:=hid (And.intro o5 f5)
    clear o5 f5 q0 q1 q2 q3 q4
    go_wp2_with fail
    go_roundw
    case rel =>
     refine⟨k+1,by go_num,by omega,?_,F.trans ((FO.trans HX.2).trans HX5.2)⟩
     have:=HX5.1.bin
     rw[HD,<-List.append_assoc,HL,rQ,hd]
     simpa using this
    simp[intOf];omega
  have hk1:¬ (k:Int)<(n:Int):=by omega
  have hkl:k=l.length:=by have:=HN.out;omega
  have HH:=hid (And.intro hb (And.intro fr hkl))
  clear hb fr hkl
  go_wp2_with fail
  go_ret2
  refine⟨_,rfl,?_,F0.trans HH.2.1⟩
  have:=HH.1
  rw[HH.2.2,List.take_length] at this
  simpa using this
open Go.RowKit Fm Pk Rq
theorem zW {s:ByteArray}(h:M.gB s=true):s.size<=247:=by have:=dJ h;omega
theorem FE {s:ByteArray}(h:j6 s):s.size<=247:=by have:=dY h;omega
theorem rD (w:World)(B:Nat)(q:M.Req)(vo:Value)(hq:M.bF q=true)(ho:Ev.bD w B vo q.ops)(hv:q.kind≠7->vo = .slice none 0 0) :
  Calls prog 14 #[.agg (Ev.rqc q vo).toArray] w λe w'=>∃ v,e = .returned (.tuple #[v,.int .i64 0])/\BIn w' v (En.dm q)/\Fr [] w w':=by
 unfold M.bF at hq
 split at hq
 ·have e:=of_decide_eq_true hq
  subst e
  obtain rfl:=hv (by decide)
  refine (GC w (M.bs "ann") (by decide +kernel) (λW => sP W)).mono ?_
  rintro e w' ⟨v,h1,h2,h3⟩
  exact⟨v,h1,by simpa[En.dm] using h2,h3⟩
 split at hq
 ·have e:=of_decide_eq_true hq
  subst e
  obtain rfl:=hv (by decide)
  refine(GB w M.home (by decide +kernel) (λW=>qB W)).mono ?_
  rintro e w' ⟨v,h1,h2,h3⟩
  exact⟨v,h1,by simpa[En.dm] using h2,h3⟩
 split at hq
 ·simp only[Bool.and_eq_true,decide_eq_true_eq] at hq
  obtain⟨e,ho'⟩:=hq
  have o:=mo ho'
  have o1:=o.uid
  have o2:=o.au
  have o3:=o.cond
  have o4:=o.cv
  simp only[Bool.false_eq_true,if_false] at o1 o2 o3 o4
  obtain⟨c0,c1,c2⟩:=je o3 o4
  obtain rfl:=hv (by omega)
  clear o ho' ho hv
  generalize q.uid=a1 at *
  generalize q.au=a2 at *
  generalize q.ck=a3 at *
  generalize q.cv=a4 at *
  subst e
  refine(GA w M.home a1 a2 a3 a4 (by decide +kernel) (zW o1) (FE o2) c0 c1 c2 o4 (λW=>yU W a1 a2 a3 a4 o1 o2 o3)).mono ?_
  rintro e w' ⟨v,h1,h2,h3⟩
  exact⟨v,h1,by simpa[En.dm] using h2,h3⟩
 split at hq
 ·simp only[Bool.and_eq_true,decide_eq_true_eq] at hq
  obtain⟨e,hu⟩:=hq
  obtain rfl:=hv (by omega)
  clear ho hv
  generalize q.uid=a1 at *
  subst e
  refine(Gz w M.home a1 (by decide +kernel) (zW hu) (λW=>yV W a1 hu)).mono ?_
  rintro e w' ⟨v,h1,h2,h3⟩
  exact⟨v,h1,by simpa[En.dm] using h2,h3⟩
 split at hq
 ·simp only[Bool.and_eq_true,decide_eq_true_eq,List.all_eq_true] at hq
  obtain⟨⟨e,h1,h2⟩,ho2⟩:=hq
  have ho':∀ o,o∈q.ops->kv o:=λo hm=>mo (ho2 o hm)
  clear ho2 hv
  generalize q.ops=a1 at *
  subst e
  obtain⟨va,vc,rfl⟩:=Own.form ho
  refine(Gy w B a1.length vc va a1 M.home ho rfl h1 h2 ho' (by decide +kernel) (λW f=>sS W B a1.length vc va a1 (Own.fr0 ho f) rfl h1 (by omega) ho')).mono ?_
  rintro e w' ⟨v,h1,h2,h3⟩
  exact⟨v,h1,by simpa[En.dm] using h2,h3⟩
 split at hq
 ·simp only[Bool.and_eq_true,decide_eq_true_eq] at hq
  obtain⟨e,h1,h2,h3,h4⟩:=hq
  obtain rfl:=hv (by omega)
  clear ho hv
  generalize q.token=a1 at *
  generalize q.aD=a2 at *
  subst e
  refine(Gx w M.home a1 a2 (by decide +kernel) h1 h2 (by omega) h4 (λW=>sR W a1 a2 h1 h3 h4)).mono ?_
  rintro e w' ⟨v,h1,h2,h3⟩
  exact⟨v,h1,by simpa[En.dm] using h2,h3⟩
 simp only[Bool.and_eq_true,decide_eq_true_eq] at hq
 obtain⟨e,h1,h2,h3,h4⟩:=hq
 obtain rfl:=hv (by omega)
 clear ho hv
 generalize q.token=a1 at *
 generalize q.bj=a2 at *
 subst e
 refine(Gw w M.home a1 a2 (by decide +kernel) h1 (by omega) h3 h4 (λW=>vm W a1 a2 h1 h3 h4)).mono ?_
 rintro e w' ⟨v,h1,h2,h3⟩
 exact⟨v,h1,by simpa[En.dm] using h2,h3⟩
theorem n8 {W:World}{v:Value}{l:List UInt8}(h:BIn W v l):(convert 69 9 v).run prog W = .ok (.string (En.bytesOf l)) W:=by
 obtain⟨a,n,c,rfl,hn,hb⟩:=h
 rcases Nat.eq_zero_or_pos l.length with h0|h0
 ·obtain rfl:=List.eq_nil_of_length_eq_zero h0
  simp at hn
  subst hn
  cases a with
  | none=>simp[convert,Conv.bytesToString,go_sem,En.bytesOf];rfl
  | some p=>simp[convert,Conv.bytesToString,go_sem,En.bytesOf];rfl
 obtain⟨b,off,rfl,hlt,hc⟩:=hb h0
 exact cE W b off n c (En.bytesOf l) (by rw[En.aK,hn]) (λk x hx=>hc k x (by rw[En.cX] at hx;exact hx))
theorem pN (k:Int)(s:ByteArray)(h0:0<=k)(h1:k<=255)(hs:s.size<=20000):putCells [] k s=bc (En.jy k s):=En.mi k s h0 h1 hs
theorem Aq {q:M.Req}(h:M.bF q=true):1<=q.kind/\q.kind<=10:=bd (iy h).1
theorem jx {q:M.Req}(h:M.bF q=true):(En.dm q).length<=240:=by
 unfold M.bF at h
 have hh:M.home.size=4:=by decide +kernel
 split at h
 ·have e:=of_decide_eq_true h
  rw[e];decide +kernel
 split at h
 ·have e:=of_decide_eq_true h
  rw[e];decide +kernel
 split at h
 ·rename_i h1 h2 h4
  simp only[Bool.and_eq_true,decide_eq_true_eq] at h
  obtain⟨e,ho⟩:=h
  have o:=mo ho
  have s1:=dJ o.uid
  have s2:=dY (show j6 q.au by simpa using o.au)
  have hc:q.col=M.home:=by rw[e]
  simp[En.dm,h4,txt,En.iM,hc]
  simp at s1 s2
  omega
 split at h
 ·rename_i h1 h2 h4 h6
  simp only[Bool.and_eq_true,decide_eq_true_eq] at h
  obtain⟨e,hu⟩:=h
  have s1:=dJ hu
  have hc:q.col=M.home:=by rw[e]
  simp[En.dm,h6,txt,hc]
  omega
 split at h
 ·rename_i h1 h2 h4 h6 h7
  simp only[Bool.and_eq_true,decide_eq_true_eq,List.all_eq_true] at h
  obtain⟨⟨e,_,h8⟩,ho2⟩:=h
  have s1:=kG (l:=q.ops) λo hm=>mo (ho2 o hm)
  have hc:q.col=M.home:=by rw[e]
  have ht:(txt M.home).length=5:=by decide +kernel
  simp only[En.dm,h7,hc]
  simp only[Int.reduceEq,if_false,if_true,or_self]
  rw[List.length_append,ht,List.length_cons]
  omega
 split at h
 ·rename_i h1 h2 h4 h6 h7 h8
  simp only[Bool.and_eq_true,decide_eq_true_eq] at h
  have hc:q.col=M.home:=by rw[h.1]
  have hn:=cH q.token
  simp[En.dm,h8,txt,hc]
  omega
 simp only[Bool.and_eq_true,decide_eq_true_eq] at h
 have hc:q.col=M.home:=by rw[h.1]
 have hk:q.kind=9:=by rw[h.1]
 have hn:=cH q.token
 simp[En.dm,hk,txt,hc]
 omega
theorem lO (w:World)(B:Nat)(q:M.Req)(vo:Value)(hq:M.bF q=true)(ho:Ev.bD w B vo q.ops)(hv:q.kind≠7->vo = .slice none 0 0) :
  cA 6 #[.agg (Ev.rqc q vo).toArray] w (.string (En.bytesOf (En.bU q))):=by
 obtain⟨hk0,hk1⟩:=Aq hq
 have hlen:=jx hq
 obtain⟨g,hg⟩:∃ g,w.heap.size=g:=⟨_,rfl⟩
 obtain⟨wb,hwb⟩:∃ wb,wb=w.alloc (.cells (Ev.rqc q vo).toArray 37):=⟨_,rfl⟩
 have fb:Fr [] w wb:=by rw[hwb];exact rZ.alloc _
 have HB:=hid (show Holds wb g 37 (Ev.rqc q vo).toArray by rw[hwb,<-hg];exact Holds.new _ _ _)
 have HE:=hid (rD wb B q vo hq (Own.fr0 ho fb) hv)
 have hkq:En.bU q=En.jy q.kind (En.bytesOf (En.dm q)):=rfl
 have HQ:=hid hkq
 obtain⟨k,hk⟩:∃ k,q.kind=k:=⟨_,rfl⟩
 have HK:=hid hk
 simp only[Ev.rqc] at hwb HE ⊢
 clear ho hv hq hkq hk
 go_enter func6,ntmps6
 go_wp2_with fail
 rw[<-hwb]
 refine HE.mono ?_
 rintro e w1 ⟨v,rfl,hb,f1⟩
 have b1:=HB.fr f1 (by simp)
 have c0:=b1.cell 0
 have hgl:=b1.lt
 simp[Ev.rqc] at c0
 have hcv:∀ j,(convert 69 9 v).run prog (w1.drewN j) = .ok (.string (En.bytesOf (En.dm q))) (w1.drewN j):=λj=>n8 (hb.fr (rZ.drewN j))
 have hcv0:(convert 69 9 v).run prog w1 = .ok (.string (En.bytesOf (En.dm q))) w1:=n8 hb
 have HP:=hid (λW=>CR W none 0 0 [] (λh=>by simp at h) rfl (by omega) q.kind (En.bytesOf (En.dm q)) (by omega) (by omega) (by rw[En.aK];omega))
 simp only[Nat.zero_add] at HP
 have F1:=hid (fb.trans f1)
 have HL:=hid hlen
 clear hb b1 hwb fb f1
 try simp only[hg]
 go_wp2_with fail
 refine(HP _).mono ?_
 rintro e w2 ⟨g2,c2,rfl,hg2,r2,f2⟩
 rw[pN q.kind (En.bytesOf (En.dm q)) (by omega) (by omega) (by rw[En.aK];have:=HL.out;omega)] at r2
 have hfin:(convert 69 9 (.slice (some ⟨g2,0,none⟩) ((En.bytesOf (En.dm q)).size+6) c2)).run prog w2 = .ok (.string (En.bytesOf (En.bU q))) w2:=n8 ⟨_,_,_,rfl,by rw[HQ,En.dS],oJ (by rw[HQ];exact r2)⟩
 clear hcv hcv0 c0
 go_wp2_with fail
 go_ret
 exact⟨rfl,F1.trans f2⟩
end Pr
