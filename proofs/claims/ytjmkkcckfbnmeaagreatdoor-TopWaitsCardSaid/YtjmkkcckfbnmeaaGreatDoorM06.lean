/- Texts Open. -/
import Derived.Test.YtjmkkcckfbnmeaaGreatDoorM04
import Derived.ProofKit
import Derived.OpenShut
import Derived.ShutString
import Derived.ChangeOld
import Derived.Deep.Slices
import Derived.Deep.Fields
set_option maxRecDepth 100000
set_option maxHeartbeats 8000000
set_option linter.all false
namespace Go.Proofs.YtjmkkcckfbnmeaaGreatDoor
open Go.RowKit Go.ChangeShapes Go.WideShapes Go.ChangeAt
def cellInt (w:World)(a:Addr):Int:=match w.cell? a with|some (.int _ n)=>n|_=>0
def blockOf (a:Option Addr):Nat:=match a with|some x=>x.block|none=>0
def offOf (a:Option Addr):Nat:=match a with|some x=>x.off|none=>0
section
variable {H:Type} {enc:TypeId × Value→H} {P:Program} {w:World} {sp:Nat→Bool} {held:Bool}
theorem add_off (b o i:Nat):(⟨b,o,none⟩:Addr).add i=⟨b,o+i,none⟩:=by
 unfold Addr.add
 by_cases h:i=0<;>simp[h]
theorem spot_none {x:Addr}{v:Value}(h:w.cell? x=some v):x.spot=none:=by
 unfold World.cell? at h
 split at h
 ·cases hs:x.spot with
  | none=>rfl
  | some _=>simp[hs] at h
 ·cases h
theorem slice_open {t e:TypeId}{a:Option Addr}{len cap n:Nat}{d:DataW H}{p:List MemPlace}(ht:P.underlying t=some (.slice e))(hn:P.cellsOf e=n)(h0:0<n)
  (h:DataW.Trod enc P w 0 sp held t (.slice a len cap) d p) :
  len≤maxLen∧len≤cap∧cap≤maxLen∧(0<len→∃ b off,a=some ⟨b,off,none⟩∧b<w.heap.size ∧
   ∀ k,k<len→∃ (cs:List Value) (m:Nat) (y:DataW H × List MemPlace),cs.length=n∧(∀ j,j<n→w.cell? ⟨b,off+k*n+j,none⟩=cs[j]?)∧DataW.trod enc P w 0 sp held m e cs=some y):=by
 obtain⟨fuel,hf⟩:=h
 rcases Go.Deep.open_slice ht hf with⟨hcs,_⟩|⟨x,l,c,m,q,D,Pl,hcs,_,hl,hm,hmm,_,hi⟩
 ·simp[Value.cells] at hcs
  obtain⟨rfl,rfl,rfl⟩:=hcs
  exact⟨Nat.zero_le _,Nat.le_refl _,Nat.zero_le _,fun h=>absurd h (by omega)⟩
 ·simp[Value.cells] at hcs
  obtain⟨rfl,rfl,rfl⟩:=hcs
  have hlm:len≤m:=by rw[hmm];split<;>omega
  rw[hn] at hi
  refine⟨Nat.le_trans hl hm,hl,hm,fun hpos=>?_⟩
  have hcell:∀ k,k<len→∃ (cs:List Value) (y:DataW H × List MemPlace),cs.length=n∧(∀ j,j<n→w.cell? (x.add (k*n+j))=cs[j]?)∧DataW.trod enc P w 0 sp held q e cs=some y:=by
   intro k hk
   obtain⟨cs',hc,ht'⟩:=hi k (by omega)
   obtain⟨_,hcl,hat⟩:=World.cells?_some hc
   exact⟨cs',_,hcl,fun j hj=>by rw[←Go.Deep.add_add];exact hat j hj,ht'⟩
  have hx:∃ v,w.cell? x=some v:=by
   obtain⟨cs,y,h1,h2,_⟩:=hcell 0 hpos
   have:=h2 0 h0
   simp only[Nat.zero_mul,Nat.add_zero] at this
   rw[show x.add 0=x by simp[Addr.add]] at this
   exact⟨cs[0]'(by omega),by rw[this];exact List.getElem?_eq_getElem _⟩
  obtain⟨v,hv⟩:=hx
  have hs:=spot_none hv
  have hb:=block_lt_of_cell hv
  obtain⟨b,off,s⟩:=x
  simp only at hs hb
  subst hs
  refine⟨b,off,rfl,hb,fun k hk=>?_⟩
  obtain⟨cs,y,h1,h2,h3⟩:=hcell k hk
  exact⟨cs,q,y,h1,fun j hj=>by have:=h2 j hj;rw[add_off] at this;rw[Nat.add_assoc];exact this,h3⟩
theorem int_cell {t:TypeId}{k:IntKind}{m:Nat}{v:Value}{z:DataW H × List MemPlace}(ht:P.underlying t=some (.int k))(h:DataW.trod enc P w 0 sp held m t [v]=some z):∃ n,v = .int k n∧(Lit.int k n).wf=true:=by
 obtain⟨n,hv,_,hw⟩:=DataW.trod_int ht h
 exact⟨n,by simpa using hv,hw⟩
end
end Go.Proofs.YtjmkkcckfbnmeaaGreatDoor
