/- Texts Sort. -/
import Derived.Test.YtjmkkcckfbnmeaaGreatDoorM15
import Derived.Test.YtjmkkcckfbnmeaaGreatDoorM19
import Derived.StillTailTactics
import Derived.Deep.RegionHeld3
set_option maxRecDepth 100000
set_option maxHeartbeats 8000000
set_option linter.all false
open Go.Lib (hid)
namespace Go.Proofs.YtjmkkcckfbnmeaaGreatDoor.So
open Go.RowKit
theorem len64_any (x:Int)(w:World)(h0:0≤x)(h1:x≤12) :
  Calls Tryz.prog 279 #[.int .u64 x] w fun e w'=>(∃ n:Int,e = .returned (.int .i64 n))∧w=w':=by
 go_enter Tryz.func279,Tryz.ntmps279
 go_wp2
 go_ret
 exact⟨⟨_,rfl⟩,rfl⟩
theorem len_any (x:Int)(w:World)(h0:0≤x)(h1:x≤12) :
  Calls Tryz.prog 237 #[.int .u64 x] w fun e w'=>(∃ n:Int,e = .returned (.int .i64 n))∧w=w':=by
 go_enter Tryz.func237,Tryz.ntmps237
 go_wp2_with (fail)
 refine(len64_any x w h0 h1).mono ?_
 rintro e w' ⟨⟨n,rfl⟩,rfl⟩
 go_wp2_with (fail)
 go_ret
 exact⟨⟨_,rfl⟩,rfl⟩
theorem sins_one (w:World)(a:Option Addr)(c:Nat) :
  Calls Tryz.prog 269 #[.slice a 1 c,.int .i64 0,.int .i64 1] w fun e w'=>e = .returned (.tuple #[])∧w=w':=by
 go_enter Tryz.func269,Tryz.ntmps269
 go_wp2
 refine wp_loop_rounds 1 ?_
 rw[rounds_succ]
 go_wp2_with (fail)
 go_end0
 exact⟨rfl,rfl⟩
theorem spdq_one (w:World)(a:Option Addr)(c:Nat)(n:Int) :
  Calls Tryz.prog 236 #[.slice a 1 c,.int .i64 0,.int .i64 1,.int .i64 n] w fun e w'=>e = .returned (.tuple #[])∧w=w':=by
 go_enter Tryz.func236,Tryz.ntmps236
 go_wp2
 refine wp_loop_rounds 1 ?_
 rw[rounds_succ]
 go_wp2_with (fail)
 refine(sins_one w a c).mono ?_
 rintro e w' ⟨rfl,rfl⟩
 go_wp2_with (fail)
 refine bodyPost_ret (results_none rfl _ _ _) rfl ?_
 exact⟨rfl,rfl⟩
theorem sort_one (w:World)(a:Option Addr)(c:Nat) :
  Calls Tryz.prog 205 #[.slice a 1 c] w fun e w'=>e = .returned (.tuple #[])∧w=w':=by
 go_enter Tryz.func205,Tryz.ntmps205
 go_wp2_with (fail)
 refine(len_any 1 w (by omega) (by omega)).mono ?_
 rintro e w' ⟨⟨n,rfl⟩,rfl⟩
 go_wp2_with (fail)
 refine(spdq_one w a c n).mono ?_
 rintro e w' ⟨rfl,rfl⟩
 go_wp2_with (fail)
 go_end0
 exact⟨rfl,rfl⟩
theorem fins_one (w:World)(a:Option Addr)(c:Nat)(v:Value) :
  Calls Tryz.prog 368 #[.slice a 1 c,.int .i64 0,.int .i64 1,v] w fun e w'=>e = .returned (.tuple #[])∧w=w':=by
 go_enter Tryz.func368,Tryz.ntmps368
 go_wp2
 refine wp_loop_rounds 1 ?_
 rw[rounds_succ]
 go_wp2_with (fail)
 go_end0
 exact⟨rfl,rfl⟩
theorem fpdq_one (w:World)(a:Option Addr)(c:Nat)(n:Int)(v:Value) :
  Calls Tryz.prog 351 #[.slice a 1 c,.int .i64 0,.int .i64 1,.int .i64 n,v] w fun e w'=>e = .returned (.tuple #[])∧w=w':=by
 go_enter Tryz.func351,Tryz.ntmps351
 go_wp2
 refine wp_loop_rounds 1 ?_
 rw[rounds_succ]
 go_wp2_with (fail)
 refine(fins_one w a c v).mono ?_
 rintro e w' ⟨rfl,rfl⟩
 go_wp2_with (fail)
 refine bodyPost_ret (results_none rfl _ _ _) rfl ?_
 exact⟨rfl,rfl⟩
theorem fsort_one (w:World)(a:Option Addr)(c:Nat)(v:Value) :
  Calls Tryz.prog 327 #[.slice a 1 c,v] w fun e w'=>e = .returned (.tuple #[])∧w=w':=by
 go_enter Tryz.func327,Tryz.ntmps327
 go_wp2_with (fail)
 refine(len_any 1 w (by omega) (by omega)).mono ?_
 rintro e w' ⟨⟨n,rfl⟩,rfl⟩
 go_wp2_with (fail)
 refine(fpdq_one w a c n v).mono ?_
 rintro e w' ⟨rfl,rfl⟩
 go_wp2_with (fail)
 go_end0
 exact⟨rfl,rfl⟩
theorem before_cmp {x y:M.Item}(h:M.before y x=true):y.version<x.version∨(y.version=x.version∧Lib.compareBytes x.uid.data.toList y.uid.data.toList=1):=by
 simp only[M.before,Bool.or_eq_true,Bool.and_eq_true,decide_eq_true_eq,M.lt] at h
 rcases h with h|⟨h1,h2⟩
 ·exact .inl h
 ·refine .inr ⟨h1,?_⟩
  rcases cmp_cases x.uid.data.toList y.uid.data.toList with⟨_,h3⟩|⟨_,h3⟩|⟨h3,_⟩
  ·exact absurd (kl_trans h2 h3) (kl_irrefl _)
  ·rw[h3] at h2
   exact absurd h2 (kl_irrefl _)
  ·exact h3
theorem order_any (w:World)(x y:M.Item)(h:M.before y x=true) :
  Calls Tryz.prog 245 #[.agg (Ev.ic x).toArray,.agg (Ev.ic y).toArray] w fun e w'=>e = .returned (.int .i64 1)∧Fr [] w w':=by
 have hc:=before_cmp h
 simp only[Ev.ic]
 clear h
 have f0:Fr [] w ((w.alloc (.cells #[.string x.uid,.int .i64 x.version,.bool x.gone,.string x.card] 154)).alloc (.cells #[.string y.uid,.int .i64 y.version,.bool y.gone,.string y.card] 154)):=((Fr.refl _ _).alloc _).alloc _
 go_enter Tryz.func245,Tryz.ntmps245
 rcases hc with hc|⟨hc,hs⟩
 ·have d1:¬ x.version<y.version:=by omega
  go_wp2_with (fail)
  go_ret
  exact⟨rfl,f0⟩
 ·have d1:¬ x.version<y.version:=by omega
  have d2:¬ y.version<x.version:=by omega
  have HS:=hid hs
  clear hs hc
  go_wp2_with (fail)
  refine(compare_any x.uid y.uid _).mono ?_
  rintro e w' ⟨rfl,rfl⟩
  rw[HS.out]
  go_wp2_with (fail)
  go_ret
  exact⟨rfl,f0⟩
theorem chain_get {l:List M.Item}(h:M.chain l=true){k:Nat}{x y:M.Item}(hy:l[k]? = some y)(hx:l[k+1]? = some x):M.before y x=true:=by
 induction l generalizing k with
 | nil=>simp at hy
 | cons a l ih =>
  cases l with
  | nil=>simp at hx
  | cons b l =>
   simp only[M.chain,Bool.and_eq_true] at h
   cases k with
   | zero =>
    simp at hy hx
    subst hy hx
    exact h.1
   | succ k=>exact ih h.2 (by simpa using hy) (by simpa using hx)
theorem ins_any (w:World)(B:Nat)(v:Value)(l:List M.Item)(h:Ev.ItsAt w B v l)(hc:M.chain l=true)(hl:l.length≤12) :
  Calls Tryz.prog 309 #[v,.int .i64 0,.int .i64 l.length,.func (.func 245) #[] #[]] w fun e w'=>e = .returned (.tuple #[])∧Fr [] w w':=by
 obtain⟨a,c,rfl⟩:=h.form
 have HH:=hid h
 have HC:=hid hc
 clear h hc
 go_enter Tryz.func309,Tryz.ntmps309
 go_wp2_with (fail)
 go_loopw [8] (fun i wr=>∃ k:Nat,(k≤l.length∨k=1)∧1≤k∧i = .int .i64 k∧Fr [] w wr) (fun i _=>l.length - (intOf i).toNat)
 case atStart=>exact⟨1,.inr rfl,Nat.le_refl _,rfl,Fr.refl _ _⟩
 case round =>
  obtain⟨k,hk,hk0,rfl,fr⟩:=hrel
  by_cases hlt:k<l.length
  ·obtain⟨j,hj⟩:∃ j,k=j+1:=⟨k - 1,by omega⟩
   have hx:l[k]? = some l[k]:=List.getElem?_eq_getElem hlt
   have hy:l[j]? = some l[j]:=List.getElem?_eq_getElem (by omega)
   obtain⟨x,hx'⟩:∃ x,l[k]=x:=⟨_,rfl⟩
   obtain⟨y,hy'⟩:∃ y,l[j]=y:=⟨_,rfl⟩
   rw[hx'] at hx
   rw[hy'] at hy
   have hk1:(k:Int)<(l.length:Int):=by omega
   have hk2:(j:Int)<(l.length:Int):=by omega
   have hkj:(k:Int) - 1=(j:Int):=by omega
   obtain⟨g,c2,hg,hv,hgl,z0,z1,z2,z3⟩:=Rp.its_get (HH.out.fr0 fr) hx
   cases hv
   obtain⟨g',c3,hg',hv',hgl',u0,u1,u2,u3⟩:=Rp.its_get (HH.out.fr0 fr) hy
   cases hv'
   have HO:=hid (fun W=>order_any W x y (by subst hj;exact chain_get HC.out hy hx))
   simp only[Ev.ic] at HO
   have hwr:IntKind.i64.wrap (j:Int)=(j:Int):=by
    rw[IntKind.wrap_i64]
    omega
   have hpos:0<k:=by omega
   have hpos2:decide (0<k)=true:=decide_eq_true hpos
   have HJ:=hid hj
   clear hx hy hx' hy' hk hj
   go_wp2_with (fail)
   refine wp_loop_rounds 1 ?_
   rw[rounds_succ]
   go_wp2_with (fail)
   go_still_tail 14,(by kernel_rfl)
   change wpList _ _ _ _ _ wr.drew
   go_wp2_with (fail)
   refine(HO.out _).mono ?_
   rintro e w2 ⟨rfl,f2⟩
   have f3:Fr [] w w2:=(fr.drew).trans f2
   clear z0 z1 z2 z3 u0 u1 u2 u3
   go_wp2_with (fail)
   go_roundw
   case rel=>exact⟨k+1,by omega,by omega,by go_num,f3⟩
   case measure=>simp[intOf];omega
  ·go_wp2_with (fail)
   go_end0
   exact⟨rfl,fr⟩
theorem pdq_any (w:World)(B:Nat)(v:Value)(l:List M.Item)(h:Ev.ItsAt w B v l)(hc:M.chain l=true)(hl:l.length≤12)(n:Int) :
  Calls Tryz.prog 284 #[v,.int .i64 0,.int .i64 l.length,.int .i64 n,.func (.func 245) #[] #[]] w fun e w'=>e = .returned (.tuple #[])∧Fr [] w w':=by
 have HI:=hid (ins_any w B v l h hc hl)
 have hl2:(l.length:Int)≤12:=by omega
 obtain⟨a,c,rfl⟩:=h.form
 clear h hc
 go_enter Tryz.func284,Tryz.ntmps284
 go_wp2
 refine wp_loop_rounds 1 ?_
 rw[rounds_succ]
 go_wp2_with (fail)
 refine HI.out.mono ?_
 rintro e w' ⟨rfl,f1⟩
 go_wp2_with (fail)
 refine bodyPost_ret (results_none rfl _ _ _) rfl ?_
 exact⟨rfl,f1⟩
theorem sort_any (w:World)(B:Nat)(v:Value)(l:List M.Item)(h:Ev.ItsAt w B v l)(hc:M.chain l=true)(hl:l.length≤12) :
  Calls Tryz.prog 244 #[v,.func (.func 245) #[] #[]] w fun e w'=>e = .returned (.tuple #[])∧Fr [] w w':=by
 have HI:=hid (fun n=>pdq_any w B v l h hc hl n)
 have hl2:(l.length:Int)≤12:=by omega
 obtain⟨a,c,rfl⟩:=h.form
 clear h hc
 go_enter Tryz.func244,Tryz.ntmps244
 go_wp2_with (fail)
 refine(len_any l.length w (by omega) (by omega)).mono ?_
 rintro e w' ⟨⟨n,rfl⟩,rfl⟩
 go_wp2_with (fail)
 refine(HI.out _).mono ?_
 rintro e w' ⟨rfl,f1⟩
 go_wp2_with (fail)
 go_end0
 exact⟨rfl,f1⟩
end Go.Proofs.YtjmkkcckfbnmeaaGreatDoor.So
