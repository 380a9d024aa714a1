/- Walks. -/
import Derived.Test.YtocppjcocnckmaaGreatDoorM27
import Derived.Test.YtocppjcocnckmaaGreatDoorM29
set_option maxRecDepth 100000
set_option maxHeartbeats 8000000
set_option linter.all false
open Go.Lib (hid)
namespace Go.Proofs.YtocppjcocnckmaaGreatDoor
open Go.Proofs.Tryz
namespace Fd
open Go.RowKit Fm Ct
def dA (w:World)(B:Nat)(v:Value)(L:List F):Prop:=Own w B 209 3 v L.length (flat fcs L)
theorem dA.fr0 {w w':World}{B:Nat}{v:Value}{L:List F}(h:dA w B v L)(hf:Fr [] w w'):dA w' B v L:=Own.fr0 h hf
theorem dA.form {w:World}{B:Nat}{v:Value}{L:List F}(h:dA w B v L):∃ a c,v = .slice a L.length c:=Own.form h
theorem eG {w:World}{B n:Nat}{a:Option Addr}{c:Nat}{L:List F}(h:dA w B (.slice a n c) L){k:Nat}{x:F}(hx:L[k]? = some x) :
  ∃ g,a=some ⟨g,0,none⟩/\B<=g/\g<w.heap.size/\w.cell? ⟨g,k*3,none⟩=some (.int .i64 x.k)/\w.cell? ⟨g,k*3+1,none⟩=some (.int .i64 x.l)/\w.cell? ⟨g,k*3+2,none⟩=some (.string x.v):=by
 obtain⟨g,c,hg,hv,hr,hgl,hcell⟩:=Own.cell h wq rfl hx
 cases hv
 exact⟨g,rfl,hg,hgl,hcell 0 _ (by omega) rfl,hcell 1 _ (by omega) rfl,hcell 2 _ (by omega) rfl⟩
def mA (L:List F):Prop:=∀ (j:Nat) (x y:F),L[j]? = some x->L[j+1]? = some y->x.k<y.k
theorem o8 (x y:F)(w:World)(h:x.k≠y.k):cA 356 #[.agg (fcs x).toArray,.agg (fcs y).toArray] w (.bool (decide (x.k<y.k))):=by
 obtain⟨xk,xl,xv⟩:=x
 obtain⟨yk,yl,yv⟩:=y
 simp only at h
 have f0:Fr [] w ((w.alloc (.cells #[.int .i64 xk,.int .i64 xl,.string xv] 209)).alloc (.cells #[.int .i64 yk,.int .i64 yl,.string yv] 209)):=(rZ.alloc _).alloc _
 have F0:=hid f0
 have h1:((xk:Int) != (yk:Int))=true:=by
  have:(xk:Int)≠(yk:Int):=by omega
  simpa using this
 have h2:((xk:Int)==(yk:Int))=false:=by
  have:(xk:Int)≠(yk:Int):=by omega
  simpa using this
 have h3:¬ ((xk:Int)=(yk:Int)):=by omega
 have h4:decide ((xk:Int)<(yk:Int))=decide (xk<yk):=by simp
 clear f0 h
 go_enter func356,ntmps356
 go_wp2_with fail
 go_ret
 exact⟨by simp,F0.out⟩
theorem ur (x y:F)(w:World)(h:y.k<x.k):cA 332 #[.agg (fcs x).toArray,.agg (fcs y).toArray] w (.int .i64 1):=by
 have H1:=hid (λW=>o8 x y W (by omega))
 have H2:=hid (λW=>o8 y x W (by omega))
 rw[show decide (x.k<y.k)=false from decide_eq_false (by omega)] at H1
 rw[show decide (y.k<x.k)=true from decide_eq_true h] at H2
 clear h
 obtain⟨xk,xl,xv⟩:=x
 obtain⟨yk,yl,yv⟩:=y
 have b1:=hid (show Holds ((w.alloc (.cells #[.int .i64 xk,.int .i64 xl,.string xv] 209)).alloc (.cells #[.int .i64 yk,.int .i64 yl,.string yv] 209)) w.heap.size 209 #[.int .i64 xk,.int .i64 xl,.string xv] from (Holds.new _ _ _).alloc _)
 have b2:=hid (show Holds ((w.alloc (.cells #[.int .i64 xk,.int .i64 xl,.string xv] 209)).alloc (.cells #[.int .i64 yk,.int .i64 yl,.string yv] 209)) (w.heap.size+1) 209 #[.int .i64 yk,.int .i64 yl,.string yv] from aE (by simp))
 have F0:=hid (show Fr [] w ((w.alloc (.cells #[.int .i64 xk,.int .i64 xl,.string xv] 209)).alloc (.cells #[.int .i64 yk,.int .i64 yl,.string yv] 209)) from (rZ.alloc _).alloc _)
 go_enter func332,ntmps332
 go_wp2_with fail
 refine uu (H1 _) λw2 f2=>?_
 have c1:=b1.fr f2 (by simp)
 have c2:=b2.fr f2 (by simp)
 have q0:=c1.cell 0
 have q1:=c1.cell 1
 have q2:=c1.cell 2
 have d0:=c2.cell 0
 have d1:=c2.cell 1
 have d2:=c2.cell 2
 have l1:=c1.lt
 have l2:=c2.lt
 have F2:=hid (F0.trans f2)
 simp at q0 q1 q2 d0 d1 d2
 clear c1 c2 f2
 go_wp2_with fail
 refine uu (H2 _) λw3 f3=>?_
 go_wp2_with fail
 go_ret
 exact⟨rfl,F2.trans f3⟩
theorem yz (w:World)(B:Nat)(v:Value)(l:List F)(h:dA w B v l)(hc:mA l)(hl:l.length<=12) :
  cA 370 #[v,.int .i64 0,.int .i64 l.length,.func (.func 332) #[] #[]] w (.tuple #[]):=by
 obtain⟨a,c,rfl⟩:=h.form
 have HH:=hid h
 have HC:=hid hc
 clear h hc
 go_enter func370,ntmps370
 go_wp2_with fail
 go_loopw [8] (λi wr=>∃ k:Nat,(k<=l.length∨k=1)/\1<=k/\i = .int .i64 k/\Fr [] w wr) (λi _=>l.length - (intOf i).toNat)
 case atStart=>exact⟨1,.inr rfl,Nat.le_refl _,rfl,rZ⟩
 obtain⟨k,hk,hk0,rfl,fr⟩:=hrel
 by_cases hlt:k<l.length
 ·obtain⟨j,hj⟩:∃ j,k=j+1:=⟨k - 1,by omega⟩
  have hx:l[k]? = some l[k]:=List.getElem?_eq_getElem hlt
  have hy:l[j]? = some l[j]:=List.getElem?_eq_getElem (by omega)
  obtain⟨x,hx'⟩:∃ x,l[k]=x:=⟨_,rfl⟩
  obtain⟨y,hy'⟩:∃ y,l[j]=y:=⟨_,rfl⟩
  rw[hx'] at hx
  rw[hy'] at hy
  have hk1:(k:Int)<(l.length:Int):=by omega
  have hk2:(j:Int)<(l.length:Int):=by omega
  have hkj:(k:Int) - 1=(j:Int):=by omega
  obtain⟨g,rfl,hg,hgl,z0,z1,z2⟩:=eG (HH.fr0 fr) hx
  obtain⟨g',hv',hg',hgl',u0,u1,u2⟩:=eG (HH.fr0 fr) hy
  cases hv'
  have HO:=hid (λW=>ur x y W (HC j y x hy (by rw[<-hj];exact hx)))
  simp only[fcs] at HO
  have hwr:IntKind.i64.wrap (j:Int)=(j:Int):=by
   rw[IntKind.wrap_i64]
   omega
  have hpos:0<k:=by omega
  have hpos2:decide (0<k)=true:=decide_eq_true hpos
  have HJ:=hid hj
  clear hx hy hx' hy' hk hj
  go_wp2_with fail
  refine wp_loop_rounds 1 ?_
  rw[rounds_succ]
  go_wp2_with fail
  go_still_tail 14,(by kernel_rfl)
  change wpList _ _ _ _ _ wr.drew
  go_wp2_with fail
  refine uu (HO _) λw2 f2=>?_
  have f3:Fr [] w w2:=(fr.drew).trans f2
  clear z0 z1 z2 u0 u1 u2
  go_wp2_with fail
  go_roundw
  case rel=>exact⟨k+1,by omega,by omega,by go_num,f3⟩
  simp[intOf];omega
 go_wp2_with fail
 go_end0
 exact⟨rfl,fr⟩
theorem xQ (w:World)(B:Nat)(v:Value)(l:List F)(h:dA w B v l)(hc:mA l)(hl:l.length<=12)(n:Int) :
  cA 355 #[v,.int .i64 0,.int .i64 l.length,.int .i64 n,.func (.func 332) #[] #[]] w (.tuple #[]):=by
 have HI:=hid (yz w B v l h hc hl)
 have hl2:(l.length:Int)<=12:=by omega
 obtain⟨a,c,rfl⟩:=h.form
 clear h hc
 go_enter func355,ntmps355
 go_wp2
 refine wp_loop_rounds 1 ?_
 rw[rounds_succ]
 go_wp2_with fail
 refine uu HI λw' f1=>?_
 go_wp2_with fail
 refine bodyPost_ret (results_none rfl _ _ _) rfl ?_
 exact⟨rfl,f1⟩
theorem tG (w:World)(B:Nat)(v:Value)(l:List F)(h:dA w B v l)(hc:mA l)(hl:l.length<=12) :
  cA 331 #[v,.func (.func 332) #[] #[]] w (.tuple #[]):=by
 have HI:=hid (λn=>xQ w B v l h hc hl n)
 have hl2:(l.length:Int)<=12:=by omega
 obtain⟨a,c,rfl⟩:=h.form
 clear h hc
 go_enter func331,ntmps331
 go_wp2_with fail
 refine(So.ig l.length w (by omega) (by omega)).mono ?_
 rintro e w' ⟨⟨n,rfl⟩,rfl⟩
 go_wp2_with fail
 refine uu (HI _) λw' f1=>?_
 go_wp2_with fail
 go_end0
 exact⟨rfl,f1⟩
end Fd
