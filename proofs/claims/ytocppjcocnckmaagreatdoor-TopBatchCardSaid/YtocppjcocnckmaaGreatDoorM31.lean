/- Walks. -/
import Derived.Test.YtocppjcocnckmaaGreatDoorM27
import Derived.BigRegion
import Derived.RegionTactic
import Derived.BigQuiet
set_option maxRecDepth 100000
set_option maxHeartbeats 8000000
set_option linter.all false
open Go.Lib (hid)
namespace Go.Proofs.YtocppjcocnckmaaGreatDoor
open Go.Proofs.Tryz
namespace So
open Go.RowKit
theorem xZ (w:World)(x y:M.Item)(hv:x.version=y.version)(hs:Lib.compareBytes x.uid.data.toList y.uid.data.toList = -1) :
  Calls prog 249 #[.agg (Ev.ic x).toArray,.agg (Ev.ic y).toArray] w λe w'=>e = .returned (.int .i64 (-1))/\Fr [] w w':=by
 simp only[Ev.ic]
 have f0:Fr [] w ((w.alloc (.cells #[.string x.uid,.int .i64 x.version,.bool x.gone,.string x.au] 59)).alloc (.cells #[.string y.uid,.int .i64 y.version,.bool y.gone,.string y.au] 59)):=(rZ.alloc _).alloc _
 have d1:¬ x.version<y.version:=by omega
 have d2:¬ y.version<x.version:=by omega
 have HS:=hid hs
 clear hs hv
 go_enter func249,ntmps249
 go_wp2_with fail
 refine(gy x.uid y.uid _).mono ?_
 rintro e w' ⟨rfl,rfl⟩
 rw[HS]
 go_wp2_with fail
 go_ret
 exact⟨rfl,f0⟩
theorem DB (w:World)(g c:Nat)(x y:M.Item)(h:Row w 59 4 g 2 c (flat Ev.ic [x,y]))(hv:y.version=x.version)(hs:Lib.compareBytes y.uid.data.toList x.uid.data.toList = -1) :
  Calls prog 315 #[.slice (some ⟨g,0,none⟩) 2 c,.int .i64 0,.int .i64 2,.func (.func 249) #[] #[]] w λe w'=>e = .returned (.tuple #[])/\Row w' 59 4 g 2 c (flat Ev.ic [y,x])/\Fr [g] w w':=by
 have a0:w.cell? ⟨g,0,none⟩=some (.string x.uid):=h.cell rfl
 have a1:w.cell? ⟨g,1,none⟩=some (.int .i64 x.version):=h.cell rfl
 have a2:w.cell? ⟨g,2,none⟩=some (.bool x.gone):=h.cell rfl
 have a3:w.cell? ⟨g,3,none⟩=some (.string x.au):=h.cell rfl
 have a4:w.cell? ⟨g,4,none⟩=some (.string y.uid):=h.cell rfl
 have a5:w.cell? ⟨g,5,none⟩=some (.int .i64 y.version):=h.cell rfl
 have a6:w.cell? ⟨g,6,none⟩=some (.bool y.gone):=h.cell rfl
 have a7:w.cell? ⟨g,7,none⟩=some (.string y.au):=h.cell rfl
 have HO:=hid (λW=>xZ W y x hv hs)
 simp only[Ev.ic] at HO
 have HR:=hid h
 have hcap:=h.le
 clear h hv hs
 go_enter func315,ntmps315
 go_wp2_with fail
 refine wp_loop_rounds 2 ?_
 rw[rounds_succ]
 go_wp2_with fail
 have hwr:IntKind.i64.wrap 0=0:=by decide
 have hwd:(decide ((0:Int)<1))=true:=by decide
 refine wp_loop_rounds 2 ?_
 rw[rounds_succ]
 go_wp2_with fail
 go_still_tail 14,(by kernel_rfl)
 change wpList _ _ _ _ _ w.drew
 go_wp2_with fail
 refine uu (HO _) λw2 f2=>?_
 have hr2:=HR.fr ((Fr.refl [] w).drew.trans f2) (by simp)
 have F2:=hid ((Fr.refl [] w).drew.trans f2)
 have b0:w2.cell? ⟨g,0,none⟩=some (.string x.uid):=hr2.cell rfl
 have b1:w2.cell? ⟨g,1,none⟩=some (.int .i64 x.version):=hr2.cell rfl
 have b2:w2.cell? ⟨g,2,none⟩=some (.bool x.gone):=hr2.cell rfl
 have b3:w2.cell? ⟨g,3,none⟩=some (.string x.au):=hr2.cell rfl
 have b4:w2.cell? ⟨g,4,none⟩=some (.string y.uid):=hr2.cell rfl
 have b5:w2.cell? ⟨g,5,none⟩=some (.int .i64 y.version):=hr2.cell rfl
 have b6:w2.cell? ⟨g,6,none⟩=some (.bool y.gone):=hr2.cell rfl
 have b7:w2.cell? ⟨g,7,none⟩=some (.string y.au):=hr2.cell rfl
 have z0:=hr2.frozen 0
 have z1:=hr2.frozen 1
 have z2:=hr2.frozen 2
 have z3:=hr2.frozen 3
 have z4:=hr2.frozen 4
 have z5:=hr2.frozen 5
 have z6:=hr2.frozen 6
 have z7:=hr2.frozen 7
 have HR2:=hid hr2
 have hgl:=hr2.lt
 clear a0 a1 a2 a3 a4 a5 a6 a7 f2 hr2
 go_wp2_with fail
 go_region
 obtain⟨w3,hw3⟩:∃ W,((((((((w2.setCell ⟨g,4,none⟩ (.string x.uid)).setCell ⟨g,5,none⟩ (.int .i64 x.version)).setCell ⟨g,6,none⟩ (.bool x.gone)).setCell ⟨g,7,none⟩ (.string x.au)).setCell ⟨g,0,none⟩ (.string y.uid)).setCell ⟨g,1,none⟩ (.int .i64 y.version)).setCell ⟨g,2,none⟩ (.bool y.gone)).setCell ⟨g,3,none⟩ (.string y.au)).drew=W:=⟨_,rfl⟩
 have hr3:Row w3 59 4 g 2 c (flat Ev.ic [y,x]):=by
  rw[<-hw3]
  exact((((((((HR2.set 4 _).set 5 _).set 6 _).set 7 _).set 0 _).set 1 _).set 2 _).set 3 _).drew
 have f3:Fr [g] w w3:=by
  rw[<-hw3]
  have hm:g∈[g]:=by simp
  exact(((((((((F2.mono (by simp)).setCell (S:=[g]) (p:=⟨g,4,none⟩) hm _).setCell (p:=⟨g,5,none⟩) hm _).setCell (p:=⟨g,6,none⟩) hm _).setCell (p:=⟨g,7,none⟩) hm _).setCell (p:=⟨g,0,none⟩) hm _).setCell (p:=⟨g,1,none⟩) hm _).setCell (p:=⟨g,2,none⟩) hm _).setCell (p:=⟨g,3,none⟩) hm _).drew
 rw[hw3]
 have HR3:=hid hr3
 have F3:=hid f3
 clear hr3 f3 hw3 b0 b1 b2 b3 b4 b5 b6 b7 z0 z1 z2 z3 z4 z5 z6 z7
 go_wp2_with fail
 rw[rounds_succ]
 have hwe:(decide ((0:Int)<0))=false:=by decide
 go_wp2_with fail
 go_quiet (fail)
 obtain⟨w4,hw4⟩:∃ W,w3.drewN nq=W:=⟨_,rfl⟩
 have hr4:Row w4 59 4 g 2 c (flat Ev.ic [y,x]):=by
  rw[<-hw4]
  exact HR3.drewN _
 have f4:Fr [g] w w4:=by
  rw[<-hw4]
  exact F3.drewN _
 rw[hw4]
 clear hw4 HR3 F3 HR2 F2
 go_wp2_with fail
 rw[rounds_succ]
 go_wp2_with fail
 go_end0
 exact⟨rfl,hr4,f4⟩
theorem Dd (w:World)(g c:Nat)(x y:M.Item)(h:Row w 59 4 g 2 c (flat Ev.ic [x,y]))(hv:y.version=x.version)(hs:Lib.compareBytes y.uid.data.toList x.uid.data.toList = -1)(n:Int) :
  Calls prog 291 #[.slice (some ⟨g,0,none⟩) 2 c,.int .i64 0,.int .i64 2,.int .i64 n,.func (.func 249) #[] #[]] w λe w'=>e = .returned (.tuple #[])/\Row w' 59 4 g 2 c (flat Ev.ic [y,x])/\Fr [g] w w':=by
 have HI:=hid (DB w g c x y h hv hs)
 clear h hv hs
 go_enter func291,ntmps291
 go_wp2
 refine wp_loop_rounds 1 ?_
 rw[rounds_succ]
 go_wp2_with fail
 refine HI.mono ?_
 rintro e w' ⟨rfl,h1,f1⟩
 go_wp2_with fail
 refine bodyPost_ret (results_none rfl _ _ _) rfl ?_
 exact⟨rfl,h1,f1⟩
theorem zU (w:World)(g c:Nat)(x y:M.Item)(h:Row w 59 4 g 2 c (flat Ev.ic [x,y]))(hv:y.version=x.version)(hs:Lib.compareBytes y.uid.data.toList x.uid.data.toList = -1) :
  Calls prog 248 #[.slice (some ⟨g,0,none⟩) 2 c,.func (.func 249) #[] #[]] w λe w'=>e = .returned (.tuple #[])/\Row w' 59 4 g 2 c (flat Ev.ic [y,x])/\Fr [g] w w':=by
 have HI:=hid (λn=>Dd w g c x y h hv hs n)
 clear h hv hs
 go_enter func248,ntmps248
 go_wp2_with fail
 refine(ig 2 w (by omega) (by omega)).mono ?_
 rintro e w' ⟨⟨n,rfl⟩,rfl⟩
 go_wp2_with fail
 refine(HI _).mono ?_
 rintro e w' ⟨rfl,h1,f1⟩
 go_wp2_with fail
 go_end0
 exact⟨rfl,h1,f1⟩
end So
