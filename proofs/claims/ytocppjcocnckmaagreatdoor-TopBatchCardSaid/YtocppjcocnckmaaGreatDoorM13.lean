/- Walks. -/
import Derived.Test.YtocppjcocnckmaaGreatDoorM07
import Derived.Lib.Strings
import Derived.Lib.Slices
import Derived.Lib.Walk
import Derived.Lib.Bytealg
set_option maxRecDepth 100000
set_option maxHeartbeats 8000000
set_option linter.all false
namespace Go.Proofs.YtocppjcocnckmaaGreatDoor
open Go.Proofs.Tryz
open Go.RowKit
theorem ld (a b:ByteArray)(w:World) :
  Calls prog 293 #[.string a,.string b] w λe w'=>e = .returned (.int .i64 (Lib.compareBytes a.data.toList b.data.toList))/\w=w':=by
 go_enter func293,ntmps293
 go_wp2
 rw[run_callFunc_extern func323 (by kernel_rfl) (by kernel_rfl) (by kernel_rfl) (e:=Extern.BytealgCompare.compare) (by kernel_rfl),Lib.run_compareString]
 simp only[Result.andThen]
 rw[Oper.upon_value]
 go_wp2
 go_ret
 exact⟨rfl,rfl⟩
theorem gy (a b:ByteArray)(w:World) :
  Calls prog 254 #[.string a,.string b] w λe w'=>e = .returned (.int .i64 (Lib.compareBytes a.data.toList b.data.toList))/\w=w':=by
 go_enter func254,ntmps254
 go_wp2_with fail
 refine(ld a b _).mono ?_
 rintro e w' ⟨rfl,rfl⟩
 go_wp2
 go_ret
 exact⟨rfl,rfl⟩
def kl (a:ByteArray):List UInt8:=a.data.toList
theorem Bn {a b:ByteArray}(h:kl a=kl b):a=b:=by
 obtain⟨⟨a⟩⟩:=a
 obtain⟨⟨b⟩⟩:=b
 simp[kl] at h
 simp[h]
theorem jQ:∀ (a b:List UInt8),(Lib.compareBytes a b = -1/\a<b)∨(Lib.compareBytes a b=0/\a=b)∨(Lib.compareBytes a b=1/\b<a)
 | [],[]=>.inr (.inl ⟨rfl,rfl⟩)
 | [],_::_=>.inl ⟨rfl,List.nil_lt_cons _ _⟩
 | _::_,[]=>.inr (.inr ⟨rfl,List.nil_lt_cons _ _⟩)
 | a::xs,b::ys=>by
  unfold Lib.compareBytes
  by_cases h1:a<b
  ·rw[if_pos h1]
   exact .inl ⟨rfl,List.cons_lt_cons_iff.2 (.inl h1)⟩
  rw[if_neg h1]
  by_cases h2:b<a
  ·rw[if_pos h2]
   exact .inr (.inr ⟨rfl,List.cons_lt_cons_iff.2 (.inl h2)⟩)
  rw[if_neg h2]
  have e:a=b:=UInt8.le_antisymm (UInt8.not_lt.1 h2) (UInt8.not_lt.1 h1)
  subst e
  rcases jQ xs ys with⟨h,h'⟩|⟨h,h'⟩|⟨h,h'⟩
  ·exact .inl ⟨h,List.cons_lt_cons_iff.2 (.inr ⟨rfl,h'⟩)⟩
  ·exact .inr (.inl ⟨h,by rw[h']⟩)
  exact .inr (.inr ⟨h,List.cons_lt_cons_iff.2 (.inr ⟨rfl,h'⟩)⟩)
theorem iH {a b c:List UInt8}(h:a<b)(h':b<c):a<c:=List.lt_trans h h'
theorem bG (a:List UInt8):¬ a<a:=List.lt_irrefl a
theorem lV {a b:ByteArray} : Lib.compareBytes a.data.toList b.data.toList<0 ↔ kl a<kl b:=by
 rcases jQ a.data.toList b.data.toList with⟨h,h'⟩|⟨h,h'⟩|⟨h,h'⟩
 ·rw[h];exact⟨λ_=>h',λ_=>by decide⟩
 ·rw[h];exact⟨λh=>absurd h (by decide),λh2=>by have e:kl a=kl b:=h';rw[e] at h2;exact absurd h2 (bG _)⟩
 rw[h];exact⟨λh=>absurd h (by decide),λh2=>absurd (iH h2 h') (bG _)⟩
theorem qA {a b:ByteArray} : (Lib.compareBytes a.data.toList b.data.toList==0)=decide (a=b):=by
 rcases jQ a.data.toList b.data.toList with⟨h,h'⟩|⟨h,h'⟩|⟨h,h'⟩
 ·rw[h]
  have:¬ a=b:=λe=>by subst e;exact bG _ h'
  simp[this]
 ·rw[h]
  have:a=b:=Bn h'
  simp[this]
 rw[h]
 have:¬ a=b:=λe=>by subst e;exact bG _ h'
 simp[this]
def Srt (ks:List ByteArray):Prop:=ks.Pairwise λa b=>kl a<kl b
def Lo (ks:List ByteArray)(k:ByteArray)(i:Nat):Prop:=∀ t x,ks[t]? = some x->t<i->kl x<kl k
def Hi (ks:List ByteArray)(k:ByteArray)(j:Nat):Prop:=∀ t x,ks[t]? = some x->j<=t->¬ kl x<kl k
theorem kM (ks:List ByteArray)(k:ByteArray):Lo ks k 0:=λ_ _ _ h=>by omega
theorem uI (ks:List ByteArray)(k:ByteArray):Hi ks k ks.length:=λt x h hl=>by
 have:=(List.getElem?_eq_some_iff.1 h).1
 omega
theorem iq {ks:List ByteArray}(hs:Srt ks){i j:Nat}{x y:ByteArray}(hx:ks[i]? = some x)(hy:ks[j]? = some y)(h:i<j):kl x<kl y:=by
 obtain⟨hi,rfl⟩:=List.getElem?_eq_some_iff.1 hx
 obtain⟨hj,rfl⟩:=List.getElem?_eq_some_iff.1 hy
 exact List.pairwise_iff_getElem.1 hs i j hi hj h
theorem pV {ks:List ByteArray}(hs:Srt ks){k x:ByteArray}{h:Nat}(hx:ks[h]? = some x)(hlt:kl x<kl k):Lo ks k (h+1):=λt y hy ht=>by
 by_cases e:t=h
 ·subst e
  rw[hx] at hy
  cases hy
  exact hlt
 exact iH (iq hs hy hx (by omega)) hlt
theorem qg {ks:List ByteArray}(hs:Srt ks){k x:ByteArray}{h:Nat}(hx:ks[h]? = some x)(hlt:¬ kl x<kl k):Hi ks k h:=λt y hy ht hyk=>by
 by_cases e:t=h
 ·subst e
  rw[hx] at hy
  cases hy
  exact hlt hyk
 exact hlt (iH (iq hs hx hy (by omega)) hyk)
def idx (ks:List ByteArray)(k:ByteArray):Nat:=(ks.takeWhile λx=>decide (kl x<kl k)).length
theorem idx_eq {ks:List ByteArray}{k:ByteArray}{i:Nat}(hi:i<=ks.length)(h1:Lo ks k i)(h2:Hi ks k i):idx ks k=i:=by
 unfold idx
 induction ks generalizing i with
 | nil=>simp at hi;simp[hi]
 | cons x ks ih =>
  cases i with
  | zero =>
   have:=h2 0 x rfl (Nat.le_refl _)
   simp[this]
  | succ i =>
   have:=h1 0 x rfl (by omega)
   simp only[List.takeWhile_cons,this,decide_true,if_true,List.length_cons]
   rw[ih (i:=i) (by simpa using hi) (λt y hy ht=>h1 (t+1) y (by simpa using hy) (by omega)) (λt y hy ht=>h2 (t+1) y (by simpa using hy) (by omega))]
theorem iZ {ks:List ByteArray}(hs:Srt ks){k:ByteArray}(h:k∈ks):ks[idx ks k]? = some k:=by
 obtain⟨j,hj⟩:=List.getElem?_of_mem h
 have e:idx ks k=j:=idx_eq (by have:=(List.getElem?_eq_some_iff.1 hj).1;omega) (λt x hx ht=>iq hs hx hj ht) (λt x hx ht hk=>by
  by_cases e:t=j
  ·subst e
   rw[hj] at hx
   cases hx
   exact bG _ hk
  exact bG _ (iH hk (iq hs hj hx (by omega))))
 rw[e]
 exact hj
