/- Walks. -/
import Derived.Test.YtocppjcocnckmaaGreatDoorM15
import Derived.BigRegion
import Derived.RegionTactic
set_option maxRecDepth 100000
set_option maxHeartbeats 8000000
set_option linter.all false
open Go.Lib (hid)
namespace Go.Proofs.YtocppjcocnckmaaGreatDoor
open Go.Proofs.Tryz
namespace Oc
open Go.RowKit
def tM (l:List Ent)(i:Nat)(z1:Int)(z2:ByteArray):List Ent:=match l[i]? with|some x=>l.set i (x.1,z1,z2)|none=>l
theorem xf (l:List Ent)(i:Nat)(z1:Int)(z2:ByteArray):keys (tM l i z1 z2)=keys l:=by
 unfold tM
 cases h:l[i]? with
 | none=>rfl
 | some x =>
  unfold keys
  rw[List.map_set]
  apply List.ext_getElem?
  intro j
  simp only[List.getElem?_set,List.getElem?_map,List.length_map]
  by_cases e:i=j
  ·subst e
   have:=(List.getElem?_eq_some_iff.1 h).1
   have e2:=(List.getElem?_eq_some_iff.1 h).2
   simp[this,<-e2]
  simp[e]
theorem xA (w:World)(B r:Nat)(l:List Ent)(k:ByteArray)(z1:Int)(z2:ByteArray)(h:aQ w B r l)(hk:dw l k=true)(hB:B<=w.heap.size)(hr:B<=r) :
  Calls prog 170 #[.pointer (some ⟨r,0,none⟩),.string k,.agg #[.int .i64 z1,.string z2]] w λe w'=>e = .returned (.bool false)/\aQ w' B r (tM l (idx (keys l) k) z1 z2)/\FrX B [312] [r] w w':=by
 obtain⟨x,hx,hxk⟩:=lN h.srt hk
 have HK:=hid hk
 have f0:Fr [] w (w.alloc (.cells #[.int .i64 z1,.string z2] 259)):=rZ.alloc _
 have b0:=Holds.new w 259 #[.int .i64 z1,.string z2]
 have H0:=hid h
 clear hk
 go_enter func170,ntmps170
 go_wp2_with fail
 refine uu (bp _ B r l k (h.fr0 f0)) λw' f1=>?_
 rw[HK]
 have b1:=b0.fr f1 (by simp)
 have hm1:=h.fr0 (f0.trans f1)
 obtain⟨v,h1,h2⟩:=hm1.at_
 obtain⟨g,c2,hg,rfl,hrow,hgl,hcell⟩:=h2.cell bh rfl hx
 have c0:=h1.cell 0
 have y0:=b1.cell 0
 have y1:=b1.cell 1
 have hm:=(List.getElem?_eq_some_iff.1 hx).1
 have hmn:(idx (keys l) k:Int)<(l.length:Int):=by omega
 have HX:=hid hx
 obtain⟨m,hm'⟩:∃ m,idx (keys l) k=m:=⟨_,rfl⟩
 have HI:=hid hm'
 rw[hm'] at HX hm hmn hcell ⊢
 have q1:w'.cell? ⟨g,m*3+1,none⟩=some (.int .i64 x.2.1):=hcell 1 _ (by omega) rfl
 have q2:w'.cell? ⟨g,m*3+2,none⟩=some (.string x.2.2):=hcell 2 _ (by omega) rfl
 have t1:=hrow.frozen (m*3+1)
 have t2:=hrow.frozen (m*3+2)
 simp at c0 y0 y1
 have hl1:=h1.lt
 have hlb:=b1.lt
 have HR:=hid hrow
 have HM:=hid hm1
 have HH:=hid h1
 have HG:=hid hg
 have F1:=hid (f0.trans f1)
 clear hm' hx hcell hrow h h1 h2 hm1 b0 b1 f0 f1 hg
 go_wp2_with fail
 go_region
 go_wp2_with fail
 go_ret
 have he:tM l m z1 z2=(l.set m (x.1,z1,x.2.2)).set m (x.1,z1,z2):=by
  unfold tM
  rw[HX]
  simp
 have e1:flat cs (l.set m (x.1,z1,x.2.2))=(flat cs l).set (m*3+1) (.int .i64 z1):=nS (j:=1) bh HX (by decide) rfl
 have hx2:(l.set m (x.1,z1,x.2.2))[m]? = some (x.1,z1,x.2.2):=by simp[List.getElem?_set,hm]
 have e2:flat cs ((l.set m (x.1,z1,x.2.2)).set m (x.1,z1,z2))=((flat cs l).set (m*3+1) (.int .i64 z1)).set (m*3+1+1) (.string z2):=by
  rw[<-e1]
  exact nS (j:=2) bh hx2 (by decide) rfl
 have hrg:r≠g:=λe=>by
  have h1:=HH.ty
  rw[e,HR.ty] at h1
  cases h1
 rw[HI]
 refine⟨rfl,⟨by rw[xf];exact HM.srt,by rw[he];simpa using HM.len,λy _=>rfl,_,((HH.far hrg _).far hrg _).drew,.inr ⟨g,c2,HG.out,by rw[he];simp,?_⟩⟩,?_⟩
 ·rw[he,e2]
  have:=((HR.set (m*3+1) (.int .i64 z1)).set (m*3+1+1) (.string z2)).drew
  simpa using this
 exact((FrX.aA (S:=[r]) F1).trans (FrX.aB (((Fr.refl [g] w').setCell (by simp) _).setCell (by simp) _) (by simpa using HG.out) (λy hy=>⟨312,by simp,by simp at hy;subst hy;exact HR.ty⟩))).trans (FrX.aA rZ.drew)
end Oc
