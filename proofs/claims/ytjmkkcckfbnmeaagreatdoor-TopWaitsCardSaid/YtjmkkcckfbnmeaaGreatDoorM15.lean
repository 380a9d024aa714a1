/- Texts Str. -/
import Derived.Test.YtjmkkcckfbnmeaaGreatDoorM07
import Derived.Lib.Strings
import Derived.Lib.Slices
import Derived.Lib.Walk
import Derived.Lib.Bytealg
set_option maxRecDepth 100000
set_option maxHeartbeats 8000000
set_option linter.all false
namespace Go.Proofs.YtjmkkcckfbnmeaaGreatDoor
open Go.RowKit
theorem comparestring_any (a b:ByteArray)(w:World) :
  Calls Tryz.prog 286 #[.string a,.string b] w fun e w'=>e = .returned (.int .i64 (Lib.compareBytes a.data.toList b.data.toList))∧w=w':=by
 go_enter Tryz.func286,Tryz.ntmps286
 go_wp2
 rw[run_callFunc_extern Tryz.func317 (by kernel_rfl) (by kernel_rfl) (by kernel_rfl) (e:=Extern.BytealgCompare.compare) (by kernel_rfl),Lib.run_compareString]
 simp only[Result.andThen]
 rw[Oper.upon_value]
 go_wp2
 go_ret
 exact⟨rfl,rfl⟩
theorem compare_any (a b:ByteArray)(w:World) :
  Calls Tryz.prog 250 #[.string a,.string b] w fun e w'=>e = .returned (.int .i64 (Lib.compareBytes a.data.toList b.data.toList))∧w=w':=by
 go_enter Tryz.func250,Tryz.ntmps250
 go_wp2_with fail
 refine(comparestring_any a b _).mono ?_
 rintro e w' ⟨rfl,rfl⟩
 go_wp2
 go_ret
 exact⟨rfl,rfl⟩
def kl (a:ByteArray):List UInt8:=a.data.toList
theorem kl_inj {a b:ByteArray}(h:kl a=kl b):a=b:=by
 obtain⟨⟨a⟩⟩:=a
 obtain⟨⟨b⟩⟩:=b
 simp[kl] at h
 simp[h]
theorem cmp_cases:∀ (a b:List UInt8),(Lib.compareBytes a b = -1∧a<b)∨(Lib.compareBytes a b=0∧a=b)∨(Lib.compareBytes a b=1∧b<a)
 | [],[]=>.inr (.inl ⟨rfl,rfl⟩)
 | [],_::_=>.inl ⟨rfl,List.nil_lt_cons _ _⟩
 | _::_,[]=>.inr (.inr ⟨rfl,List.nil_lt_cons _ _⟩)
 | a::xs,b::ys=>by
  unfold Lib.compareBytes
  by_cases h1:a<b
  ·rw[if_pos h1]
   exact .inl ⟨rfl,List.cons_lt_cons_iff.2 (.inl h1)⟩
  ·rw[if_neg h1]
   by_cases h2:b<a
   ·rw[if_pos h2]
    exact .inr (.inr ⟨rfl,List.cons_lt_cons_iff.2 (.inl h2)⟩)
   ·rw[if_neg h2]
    have e:a=b:=UInt8.le_antisymm (UInt8.not_lt.1 h2) (UInt8.not_lt.1 h1)
    subst e
    rcases cmp_cases xs ys with⟨h,h'⟩|⟨h,h'⟩|⟨h,h'⟩
    ·exact .inl ⟨h,List.cons_lt_cons_iff.2 (.inr ⟨rfl,h'⟩)⟩
    ·exact .inr (.inl ⟨h,by rw[h']⟩)
    ·exact .inr (.inr ⟨h,List.cons_lt_cons_iff.2 (.inr ⟨rfl,h'⟩)⟩)
theorem kl_trans {a b c:List UInt8}(h:a<b)(h':b<c):a<c:=List.lt_trans h h'
theorem kl_irrefl (a:List UInt8):¬ a<a:=List.lt_irrefl a
theorem cmp_lt {a b:ByteArray} : Lib.compareBytes a.data.toList b.data.toList<0 ↔ kl a<kl b:=by
 rcases cmp_cases a.data.toList b.data.toList with⟨h,h'⟩|⟨h,h'⟩|⟨h,h'⟩
 ·rw[h];exact⟨fun _=>h',fun _=>by decide⟩
 ·rw[h];exact⟨fun h=>absurd h (by decide),fun h2=>by have e:kl a=kl b:=h';rw[e] at h2;exact absurd h2 (kl_irrefl _)⟩
 ·rw[h];exact⟨fun h=>absurd h (by decide),fun h2=>absurd (kl_trans h2 h') (kl_irrefl _)⟩
theorem cmp_eq0 {a b:ByteArray} : (Lib.compareBytes a.data.toList b.data.toList==0)=decide (a=b):=by
 rcases cmp_cases a.data.toList b.data.toList with⟨h,h'⟩|⟨h,h'⟩|⟨h,h'⟩
 ·rw[h]
  have:¬ a=b:=fun e=>by subst e;exact kl_irrefl _ h'
  simp[this]
 ·rw[h]
  have:a=b:=kl_inj h'
  simp[this]
 ·rw[h]
  have:¬ a=b:=fun e=>by subst e;exact kl_irrefl _ h'
  simp[this]
def Srt (ks:List ByteArray):Prop:=ks.Pairwise fun a b=>kl a<kl b
def Lo (ks:List ByteArray)(k:ByteArray)(i:Nat):Prop:=∀ t x,ks[t]? = some x→t<i→kl x<kl k
def Hi (ks:List ByteArray)(k:ByteArray)(j:Nat):Prop:=∀ t x,ks[t]? = some x→j≤t→¬ kl x<kl k
theorem lo_zero (ks:List ByteArray)(k:ByteArray):Lo ks k 0:=fun _ _ _ h=>by omega
theorem hi_all (ks:List ByteArray)(k:ByteArray):Hi ks k ks.length:=fun t x h hl=>by
 have:=(List.getElem?_eq_some_iff.1 h).1
 omega
theorem srt_lt {ks:List ByteArray}(hs:Srt ks){i j:Nat}{x y:ByteArray}(hx:ks[i]? = some x)(hy:ks[j]? = some y)(h:i<j):kl x<kl y:=by
 obtain⟨hi,rfl⟩:=List.getElem?_eq_some_iff.1 hx
 obtain⟨hj,rfl⟩:=List.getElem?_eq_some_iff.1 hy
 exact List.pairwise_iff_getElem.1 hs i j hi hj h
theorem lo_step {ks:List ByteArray}(hs:Srt ks){k x:ByteArray}{h:Nat}(hx:ks[h]? = some x)(hlt:kl x<kl k):Lo ks k (h+1):=fun t y hy ht=>by
 by_cases e:t=h
 ·subst e
  rw[hx] at hy
  cases hy
  exact hlt
 ·exact kl_trans (srt_lt hs hy hx (by omega)) hlt
theorem hi_step {ks:List ByteArray}(hs:Srt ks){k x:ByteArray}{h:Nat}(hx:ks[h]? = some x)(hlt:¬ kl x<kl k):Hi ks k h:=fun t y hy ht hyk=>by
 by_cases e:t=h
 ·subst e
  rw[hx] at hy
  cases hy
  exact hlt hyk
 ·exact hlt (kl_trans (srt_lt hs hx hy (by omega)) hyk)
def idx (ks:List ByteArray)(k:ByteArray):Nat:=(ks.takeWhile fun x=>decide (kl x<kl k)).length
theorem idx_eq {ks:List ByteArray}{k:ByteArray}{i:Nat}(hi:i≤ks.length)(h1:Lo ks k i)(h2:Hi ks k i):idx ks k=i:=by
 unfold idx
 induction ks generalizing i with
 | nil=>simp at hi;simp[hi]
 | cons x ks ih =>
  cases i with
  | zero =>
   have:=h2 0 x rfl (Nat.le_refl _)
   simp[this]
  | succ i =>
   have:=h1 0 x rfl (by omega)
   simp only[List.takeWhile_cons,this,decide_true,if_true,List.length_cons]
   rw[ih (i:=i) (by simpa using hi) (fun t y hy ht=>h1 (t+1) y (by simpa using hy) (by omega)) (fun t y hy ht=>h2 (t+1) y (by simpa using hy) (by omega))]
theorem idx_mem {ks:List ByteArray}(hs:Srt ks){k:ByteArray}(h:k∈ks):ks[idx ks k]? = some k:=by
 obtain⟨j,hj⟩:=List.getElem?_of_mem h
 have e:idx ks k=j:=idx_eq (by have:=(List.getElem?_eq_some_iff.1 hj).1;omega) (fun t x hx ht=>srt_lt hs hx hj ht) (fun t x hx ht hk=>by
  by_cases e:t=j
  ·subst e
   rw[hj] at hx
   cases hx
   exact kl_irrefl _ hk
  ·exact kl_irrefl _ (kl_trans hk (srt_lt hs hj hx (by omega))))
 rw[e]
 exact hj
end Go.Proofs.YtjmkkcckfbnmeaaGreatDoor
