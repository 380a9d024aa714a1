/- Walks. -/
import Derived.Test.YtocppjcocnckmaaGreatDoorM13
import Derived.Test.YtocppjcocnckmaaGreatDoorM19
import Derived.StillTailTactics
import Derived.Deep.RegionHeld3
set_option maxRecDepth 100000
set_option maxHeartbeats 8000000
set_option linter.all false
open Go.Lib (hid)
namespace Go.Proofs.YtocppjcocnckmaaGreatDoor
open Go.Proofs.Tryz
namespace So
open Go.RowKit
theorem yo (x:Int)(w:World)(h0:0<=x)(h1:x<=12) :
  Calls prog 286 #[.int .u64 x] w λe w'=>(∃ n:Int,e = .returned (.int .i64 n))/\w=w':=by
 go_enter func286,ntmps286
 go_wp2
 go_ret
 exact⟨⟨_,rfl⟩,rfl⟩
theorem ig (x:Int)(w:World)(h0:0<=x)(h1:x<=12) :
  Calls prog 241 #[.int .u64 x] w λe w'=>(∃ n:Int,e = .returned (.int .i64 n))/\w=w':=by
 go_enter func241,ntmps241
 go_wp2_with fail
 refine(yo x w h0 h1).mono ?_
 rintro e w' ⟨⟨n,rfl⟩,rfl⟩
 go_wp2_with fail
 go_ret
 exact⟨⟨_,rfl⟩,rfl⟩
theorem vB {x y:M.Item}(h:M.before y x=true):y.version<x.version∨(y.version=x.version/\Lib.compareBytes x.uid.data.toList y.uid.data.toList=1):=by
 simp only[M.before,Bool.or_eq_true,Bool.and_eq_true,decide_eq_true_eq,M.lt] at h
 rcases h with h|⟨h1,h2⟩
 ·exact .inl h
 refine .inr ⟨h1,?_⟩
 rcases jQ x.uid.data.toList y.uid.data.toList with⟨_,h3⟩|⟨_,h3⟩|⟨h3,_⟩
 ·exact absurd (iH h2 h3) (bG _)
 ·rw[h3] at h2
  exact absurd h2 (bG _)
 exact h3
theorem x9 (w:World)(x y:M.Item)(h:M.before y x=true) :
  Calls prog 249 #[.agg (Ev.ic x).toArray,.agg (Ev.ic y).toArray] w λe w'=>e = .returned (.int .i64 1)/\Fr [] w w':=by
 have hc:=vB h
 simp only[Ev.ic]
 clear h
 have f0:Fr [] w ((w.alloc (.cells #[.string x.uid,.int .i64 x.version,.bool x.gone,.string x.au] 59)).alloc (.cells #[.string y.uid,.int .i64 y.version,.bool y.gone,.string y.au] 59)):=(rZ.alloc _).alloc _
 go_enter func249,ntmps249
 rcases hc with hc|⟨hc,hs⟩
 ·have d1:¬ x.version<y.version:=by omega
  go_wp2_with fail
  go_ret
  exact⟨rfl,f0⟩
 have d1:¬ x.version<y.version:=by omega
 have d2:¬ y.version<x.version:=by omega
 have HS:=hid hs
 clear hs hc
 go_wp2_with fail
 refine(gy x.uid y.uid _).mono ?_
 rintro e w' ⟨rfl,rfl⟩
 rw[HS]
 go_wp2_with fail
 go_ret
 exact⟨rfl,f0⟩
theorem yX {l:List M.Item}(h:M.chain l=true){k:Nat}{x y:M.Item}(hy:l[k]? = some y)(hx:l[k+1]? = some x):M.before y x=true:=by
 induction l generalizing k with
 | nil=>simp at hy
 | cons a l ih =>
  cases l with
  | nil=>simp at hx
  | cons b l =>
   simp only[M.chain,Bool.and_eq_true] at h
   cases k with
   | zero =>
    simp at hy hx
    subst hy hx
    exact h.1
   | succ k=>exact ih h.2 (by simpa using hy) (by simpa using hx)
theorem DC (w:World)(B:Nat)(v:Value)(l:List M.Item)(h:Ev.aV w B v l)(hc:M.chain l=true)(hl:l.length<=12) :
  Calls prog 315 #[v,.int .i64 0,.int .i64 l.length,.func (.func 249) #[] #[]] w λe w'=>e = .returned (.tuple #[])/\Fr [] w w':=by
 obtain⟨a,c,rfl⟩:=h.form
 have HH:=hid h
 have HC:=hid hc
 clear h hc
 go_enter func315,ntmps315
 go_wp2_with fail
 go_loopw [8] (λi wr=>∃ k:Nat,(k<=l.length∨k=1)/\1<=k/\i = .int .i64 k/\Fr [] w wr) (λi _=>l.length - (intOf i).toNat)
 case atStart=>exact⟨1,.inr rfl,Nat.le_refl _,rfl,rZ⟩
 obtain⟨k,hk,hk0,rfl,fr⟩:=hrel
 by_cases hlt:k<l.length
 ·obtain⟨j,hj⟩:∃ j,k=j+1:=⟨k - 1,by omega⟩
  have hx:l[k]? = some l[k]:=List.getElem?_eq_getElem hlt
  have hy:l[j]? = some l[j]:=List.getElem?_eq_getElem (by omega)
  obtain⟨x,hx'⟩:∃ x,l[k]=x:=⟨_,rfl⟩
  obtain⟨y,hy'⟩:∃ y,l[j]=y:=⟨_,rfl⟩
  rw[hx'] at hx
  rw[hy'] at hy
  have hk1:(k:Int)<(l.length:Int):=by omega
  have hk2:(j:Int)<(l.length:Int):=by omega
  have hkj:(k:Int) - 1=(j:Int):=by omega
  obtain⟨g,c2,hg,hv,hgl,z0,z1,z2,z3⟩:=Rp.kO (HH.fr0 fr) hx
  cases hv
  obtain⟨g',c3,hg',hv',hgl',u0,u1,u2,u3⟩:=Rp.kO (HH.fr0 fr) hy
  cases hv'
  have HO:=hid (λW=>x9 W x y (by subst hj;exact yX HC hy hx))
  simp only[Ev.ic] at HO
  have hwr:IntKind.i64.wrap (j:Int)=(j:Int):=by
   rw[IntKind.wrap_i64]
   omega
  have hpos:0<k:=by omega
  have hpos2:decide (0<k)=true:=decide_eq_true hpos
  have HJ:=hid hj
  clear hx hy hx' hy' hk hj
  go_wp2_with fail
  refine wp_loop_rounds 1 ?_
  rw[rounds_succ]
  go_wp2_with fail
  go_still_tail 14,(by kernel_rfl)
  change wpList _ _ _ _ _ wr.drew
  go_wp2_with fail
  refine uu (HO _) λw2 f2=>?_
  have f3:Fr [] w w2:=(fr.drew).trans f2
  clear z0 z1 z2 z3 u0 u1 u2 u3
  go_wp2_with fail
  go_roundw
  case rel=>exact⟨k+1,by omega,by omega,by go_num,f3⟩
  simp[intOf];omega
 go_wp2_with fail
 go_end0
 exact⟨rfl,fr⟩
theorem De (w:World)(B:Nat)(v:Value)(l:List M.Item)(h:Ev.aV w B v l)(hc:M.chain l=true)(hl:l.length<=12)(n:Int) :
  Calls prog 291 #[v,.int .i64 0,.int .i64 l.length,.int .i64 n,.func (.func 249) #[] #[]] w λe w'=>e = .returned (.tuple #[])/\Fr [] w w':=by
 have HI:=hid (DC w B v l h hc hl)
 have hl2:(l.length:Int)<=12:=by omega
 obtain⟨a,c,rfl⟩:=h.form
 clear h hc
 go_enter func291,ntmps291
 go_wp2
 refine wp_loop_rounds 1 ?_
 rw[rounds_succ]
 go_wp2_with fail
 refine uu HI λw' f1=>?_
 go_wp2_with fail
 refine bodyPost_ret (results_none rfl _ _ _) rfl ?_
 exact⟨rfl,f1⟩
theorem qX (w:World)(B:Nat)(v:Value)(l:List M.Item)(h:Ev.aV w B v l)(hc:M.chain l=true)(hl:l.length<=12) :
  Calls prog 248 #[v,.func (.func 249) #[] #[]] w λe w'=>e = .returned (.tuple #[])/\Fr [] w w':=by
 have HI:=hid (λn=>De w B v l h hc hl n)
 have hl2:(l.length:Int)<=12:=by omega
 obtain⟨a,c,rfl⟩:=h.form
 clear h hc
 go_enter func248,ntmps248
 go_wp2_with fail
 refine(ig l.length w (by omega) (by omega)).mono ?_
 rintro e w' ⟨⟨n,rfl⟩,rfl⟩
 go_wp2_with fail
 refine uu (HI _) λw' f1=>?_
 go_wp2_with fail
 go_end0
 exact⟨rfl,f1⟩
end So
