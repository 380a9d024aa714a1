/- Walks. -/
import Derived.Test.YtocppjcocnckmaaGreatDoorM04
import Derived.ProofKit
import Derived.OpenShut
import Derived.ShutString
import Derived.ChangeOld
import Derived.Deep.Slices
import Derived.Deep.Fields
set_option maxRecDepth 100000
set_option maxHeartbeats 8000000
set_option linter.all false
namespace Go.Proofs.YtocppjcocnckmaaGreatDoor
open Go.RowKit Go.ChangeShapes Go.WideShapes Go.ChangeAt
def mN (w:World)(a:Addr):Int:=match w.cell? a with|some (.int _ n)=>n|_=>0
def mO (a:Option Addr):Nat:=match a with|some x=>x.block|none=>0
def vX (a:Option Addr):Nat:=match a with|some x=>x.off|none=>0
section
variable {H:Type} {enc:TypeId × Value->H} {P:Program} {w:World} {sp:Nat->Bool} {held:Bool}
theorem Ee (b o i:Nat):(⟨b,o,none⟩:Addr).add i=⟨b,o+i,none⟩:=by
 unfold Addr.add
 by_cases h:i=0<;>simp[h]
theorem lu {x:Addr}{v:Value}(h:w.cell? x=some v):x.spot=none:=by
 unfold World.cell? at h
 split at h
 ·cases hs:x.spot with
  | none=>rfl
  | some _=>simp[hs] at h
 cases h
theorem tH {t e:TypeId}{a:Option Addr}{len cap n:Nat}{d:DataW H}{p:List MemPlace}(ht:P.underlying t=some (.slice e))(hn:P.cellsOf e=n)(h0:0<n)
  (h:DataW.Trod enc P w 0 sp held t (.slice a len cap) d p) :
  len<=maxLen/\len<=cap/\cap<=maxLen/\(0<len->∃ b off,a=some ⟨b,off,none⟩/\b<w.heap.size /\
   ∀ k,k<len->∃ (cs:List Value) (m:Nat) (y:DataW H × List MemPlace),cs.length=n/\(∀ j,j<n->w.cell? ⟨b,off+k*n+j,none⟩=cs[j]?)/\DataW.trod enc P w 0 sp held m e cs=some y):=by
 obtain⟨fuel,hf⟩:=h
 rcases Go.Deep.open_slice ht hf with⟨hcs,_⟩|⟨x,l,c,m,q,D,Pl,hcs,_,hl,hm,hmm,_,hi⟩
 ·simp[Value.cells] at hcs
  obtain⟨rfl,rfl,rfl⟩:=hcs
  exact⟨Nat.zero_le _,Nat.le_refl _,Nat.zero_le _,λh=>absurd h (by omega)⟩
 simp[Value.cells] at hcs
 obtain⟨rfl,rfl,rfl⟩:=hcs
 have hlm:len<=m:=by rw[hmm];split<;>omega
 rw[hn] at hi
 refine⟨Nat.le_trans hl hm,hl,hm,λhpos=>?_⟩
 have hcell:∀ k,k<len->∃ (cs:List Value) (y:DataW H × List MemPlace),cs.length=n/\(∀ j,j<n->w.cell? (x.add (k*n+j))=cs[j]?)/\DataW.trod enc P w 0 sp held q e cs=some y:=by
  intro k hk
  obtain⟨cs',hc,ht'⟩:=hi k (by omega)
  obtain⟨_,hcl,hat⟩:=World.cells?_some hc
  exact⟨cs',_,hcl,λj hj=>by rw[<-Go.Deep.add_add];exact hat j hj,ht'⟩
 have hx:∃ v,w.cell? x=some v:=by
  obtain⟨cs,y,h1,h2,_⟩:=hcell 0 hpos
  have:=h2 0 h0
  simp only[Nat.zero_mul,Nat.add_zero] at this
  rw[show x.add 0=x by simp[Addr.add]] at this
  exact⟨cs[0]'(by omega),by rw[this];exact List.getElem?_eq_getElem _⟩
 obtain⟨v,hv⟩:=hx
 have hs:=lu hv
 have hb:=block_lt_of_cell hv
 obtain⟨b,off,s⟩:=x
 simp only at hs hb
 subst hs
 refine⟨b,off,rfl,hb,λk hk=>?_⟩
 obtain⟨cs,y,h1,h2,h3⟩:=hcell k hk
 exact⟨cs,q,y,h1,λj hj=>by have:=h2 j hj;rw[Ee] at this;rw[Nat.add_assoc];exact this,h3⟩
theorem j0 {e:TypeId}{fs:Array Field}{m:Nat}{cs:List Value}{y:DataW H × List MemPlace}(he:P.underlying e=some (.struct fs))(hone:Go.Deep.oneCellFields P fs=true)
  (h:DataW.trod enc P w 0 sp held m e cs=some y) :
  ∀ (j:Nat) (f:Field),fs[j]? = some f->j<cs.length->∃ (v:Value) (m':Nat) (z:DataW H × List MemPlace),cs[j]? = some v/\DataW.trod enc P w 0 sp held m' f.type [v]=some z:=by
 obtain⟨xs,n,_,_,_,hxl,hf⟩:=DataW.trod_struct he h
 intro j f hj hjl
 obtain⟨ho,hk⟩:=Go.Deep.hone_of hone j f hj
 have hjs:j<fs.size:=(Array.getElem?_eq_some_iff.1 hj).1
 have h1:=hf j f hj
 rw[ho,hk] at h1
 have hd:(cs.drop j).take 1=[cs[j]'hjl]:=by
  rw[List.drop_eq_getElem_cons hjl]
  rfl
 rw[hd,List.getElem?_eq_getElem (by omega)] at h1
 exact⟨_,n,_,List.getElem?_eq_getElem hjl,h1⟩
theorem dT {t:TypeId}{k:IntKind}{m:Nat}{v:Value}{z:DataW H × List MemPlace}(ht:P.underlying t=some (.int k))(h:DataW.trod enc P w 0 sp held m t [v]=some z):∃ n,v = .int k n/\(Lit.int k n).wf=true:=by
 obtain⟨n,hv,_,hw⟩:=DataW.trod_int ht h
 exact⟨n,by simpa using hv,hw⟩
end
theorem uH {n:Int}(h:(Lit.int .i64 n).wf=true):-9223372036854775808<=n/\n<=9223372036854775807:=by
 simp only[Lit.wf,Bool.and_eq_true,decide_eq_true_eq] at h
 exact h
