/- Walks. -/
import Derived.Test.YtocppjcocnckmaaGreatDoorM24
import Derived.Test.YtocppjcocnckmaaGreatDoorM32
import Derived.Test.YtocppjcocnckmaaGreatDoorM35
import Derived.Deep.RegionLaw
import Derived.Deep.RegionHeld3
set_option maxRecDepth 100000
set_option maxHeartbeats 8000000
set_option linter.all false
open Go.Lib (hid)
namespace Go.Proofs.YtocppjcocnckmaaGreatDoor
open Go.Proofs.Tryz
namespace Fd
open Go.RowKit Fm Ct
def cnt (L:List F)(j:Nat):Nat:=(L.filter λf=>f.k==j).length
structure dG (L:List F):Prop where
 fN:∀ f,f∈L->iu f
 val:∀ f,f∈L->Val f
 Eo:mA L
 n1:1<=L.length
 n4:L.length<=4
 c1:cnt L 1=1
 c2:cnt L 2<=1
 c5:cnt L 5<=1
theorem DK (w:World)(b B:Nat)(hB:B<=b)(h:Holds w b Bd.TB #[.pointer none,.slice none 0 0]):Lib.IsBuilder Bd.TB Bd.T8 B b [] w :=
 .inl ⟨hB,_,h,⟨rfl,.inl ⟨rfl,rfl⟩⟩,by simp[Value.ownBlock]⟩
theorem E9 {T e:TypeId}{B b:Nat}{bs:List Value}{w w':World}(h:Lib.IsBuilder T e B b bs w)(f:Fr [] w w'):Lib.IsBuilder T e B b bs w':=by
 have key:∀ p,Lib.BuilderAt T e B b p bs w->Lib.BuilderAt T e B b p bs w':=λp h=>by
  have hlt:=h.lt
  obtain⟨hB,v,hb,hown,hne⟩:=h
  exact⟨hB,v,(f.block b hlt (by simp)).trans hb,hown.kept (row:=none) ⟨f.os,f.tape,f.output,f.size,λk hk _=>f.block k hk (by simp)⟩ (by cases v.ownBlock<;>simp),hne⟩
 exact h.imp (key _) (key _)
theorem fX {L:List F}{k:Nat}(h:k<L.length):L.take (k+1)=L.take k++[L[k]]:=List.take_succ_eq_append_getElem h
theorem wQ (L:List F)(k:Nat)(h:k<L.length):Lib.strCells (aJ (L.take k))++Lib.strCells (aL L[k])++[Value.int .u8 10]=Lib.strCells (aJ (L.take (k+1))):=by
 rw[fX h,js]
 simp[Lib.strCells,Lib.byteCells,rowOf]
theorem aN (L:List F)(w:World)(B:Nat)(v:Value)(h:dG L)(hf:dA w B v L)(hG:Sh.Gl w) :
  cA 305 #[v] w (.string (aJ L)):=by
 have hts:=dB L h.fN
 have h4:=h.n4
 obtain⟨a,c,rfl⟩:=hf.form
 have HF:=hid hf
 have HL:=hid (λW (g:Fr [] w W) f (hm:f∈L)=>kN f W (h.fN f hm) (h.val f hm) (hG.fr0 g))
 have HSz:=hid (λf (hm:f∈L)=>show (aL f).size<=74 from by
  have h1:=(h.fN f hm).size
  have h2:=(h.fN f hm).head
  have h3:=(h.fN f hm).s2
  omega)
 have HTS:=hid (λk=>dB (L.take k) λf hm=>h.fN f (List.mem_of_mem_take hm))
 have HN:=hid (show (aJ L).data.toList≠[] from by
  have h1:=h.n1
  cases L with
  | nil=>simp at h1
  | cons f L=>rw[jt];simp)
 clear hf h hG
 go_enter func305,ntmps305
 go_wp2_with fail
 go_loopw [8] (λi wr=>∃ k:Nat,k<=L.length/\i = .int .i64 k/\Lib.IsBuilder Bd.TB Bd.T8 w.heap.size w.heap.size (Lib.strCells (aJ (L.take k))) wr/\Below w.heap.size w wr) (λi _=>L.length - (intOf i).toNat)
 case atStart=>exact⟨0,Nat.zero_le _,rfl,DK _ _ _ (Nat.le_refl _) (Holds.new w Bd.TB #[.pointer none,.slice none 0 0]),((Fr.refl [] w).alloc _).below⟩
 obtain⟨k,hk,rfl,hb,hbe⟩:=hrel
 have HB:=hid hb
 have HE:=hid hbe
 clear hb hbe
 by_cases hlt:k<L.length
 ·have hx:L[k]? = some L[k]:=List.getElem?_eq_getElem hlt
  have hm:L[k]∈L:=List.getElem_mem hlt
  have HT:=hid (wQ L k hlt)
  obtain⟨x,hx'⟩:∃ x,L[k]=x:=⟨_,rfl⟩
  rw[hx'] at hx hm HT
  have fr:=hid (Fr.rU HE)
  obtain⟨g,rfl,hg,hgl,z0,z1,z2⟩:=eG (HF.fr0 fr) hx
  have hk1:(k:Int)<(L.length:Int):=by omega
  have HLx:=hid (λW (g:Fr [] w W)=>HL W g x hm)
  have hsz:=HSz.out x hm
  have hts':=HTS.out k
  have hln:(L.take k).length<=4:=by simp only[List.length_take];omega
  obtain⟨s,hs⟩:∃ s,aL x=s:=⟨_,rfl⟩
  rw[hs] at HLx hsz HT
  obtain⟨tk,htk⟩:∃ tk,aJ (L.take k)=tk:=⟨_,rfl⟩
  rw[htk] at HB HT hts'
  have htk2:tk.size<=300:=by omega
  clear hx hm hx' hs htk hts' hln
  simp only[fcs] at HLx
  go_wp2_with fail
  refine uu (HLx _ (fr.alloc _)) λw2 f2=>?_
  have f3:=hid (((Fr.refl [] wr).alloc (.cells #[.int .i64 x.k,.int .i64 x.l,.string x.v] 209)).trans f2)
  have b3:=hid (E9 HB f3)
  have e3:=hid ((Fr.trans fr f3).below)
  have hsz3:=e3.size
  clear f2 z0 z1 z2
  go_wp2_with fail
  refine(Bd.tu w.heap.size w.heap.size _ s w2 b3 (by simp[Lib.strCells_length];omega) hsz3).mono ?_
  rintro e w4 ⟨rfl,b4,h4⟩
  have b4:=hid b4
  have e4:=hid (e3.trans h4)
  have hsz4:=e4.size
  clear h4
  go_wp2_with fail
  refine(Bd.od w.heap.size w.heap.size _ 10 w4 (.inr b4) (by simp[Lib.strCells_length];omega) hsz4).mono ?_
  rintro e w5 ⟨rfl,b5,h5⟩
  rw[HT] at b5
  have B5:=hid b5
  have e5:=hid (e4.trans h5)
  clear b5 h5
  go_wp2_with fail
  go_roundw
  case rel=>exact⟨k+1,by omega,by go_num,.inr B5,e5⟩
  simp[intOf];omega
 obtain rfl:k=L.length:=by omega
 have ht:L.take L.length=L:=List.take_of_length_le (Nat.le_refl _)
 rw[ht] at HB
 have hk2:¬ ((L.length:Int)<(L.length:Int)):=by omega
 go_wp2_with fail
 refine uu (Bd.CL w.heap.size w.heap.size (aJ L).data.toList wr HB HN) λw6 h6=>?_
 go_wp2_with fail
 go_ret
 exact⟨rfl,Fr.rU (HE.trans h6)⟩
theorem sK (L:List F)(w:World)(B:Nat)(v:Value)(hf:dA w B v L)(hr:mA L)(h1:1<=L.length)(h4:L.length<=12) :
  Calls prog 333 #[v] w λe w'=>e = .returned v/\Fr [] w w':=by
 obtain⟨a,c,rfl⟩:=hf.form
 have HF:=hid hf
 have HR:=hid hr
 clear hf hr
 go_enter func333,ntmps333
 by_cases hl:L.length=1
 ·have e1:decide ((L.length:Int)<2)=true:=decide_eq_true (by omega)
  go_wp2_with fail
  go_ret
  exact⟨rfl,rZ⟩
 have e1:decide ((L.length:Int)<2)=false:=decide_eq_false (by omega)
 go_wp2_with fail
 go_loopw [3] (λi wr=>∃ k:Nat,1<=k/\k<=L.length/\i = .int .i64 k/\Fr [] w wr) (λi _=>L.length - (intOf i).toNat)
 case atStart=>exact⟨1,Nat.le_refl _,h1,rfl,rZ⟩
 obtain⟨k,hk0,hk,rfl,fr⟩:=hrel
 by_cases hlt:k<L.length
 ·obtain⟨j,hj⟩:∃ j,k=j+1:=⟨k - 1,by omega⟩
  have hx:L[k]? = some L[k]:=List.getElem?_eq_getElem hlt
  have hy:L[j]? = some L[j]:=List.getElem?_eq_getElem (by omega)
  obtain⟨x,hx'⟩:∃ x,L[k]=x:=⟨_,rfl⟩
  obtain⟨y,hy'⟩:∃ y,L[j]=y:=⟨_,rfl⟩
  rw[hx'] at hx
  rw[hy'] at hy
  have hk1:(k:Int)<(L.length:Int):=by omega
  have hk2:(j:Int)<(L.length:Int):=by omega
  have hkj:(k:Int) - 1=(j:Int):=by omega
  have hxy:=HR.out j y x hy (by rw[<-hj];exact hx)
  obtain⟨g,rfl,hg,hgl,z0,z1,z2⟩:=eG (HF.fr0 fr) hx
  obtain⟨g',hv',hg',hgl',u0,u1,u2⟩:=eG (HF.fr0 fr) hy
  cases hv'
  have hne:((x.k:Int)==(y.k:Int))=false:=by
   have:(x.k:Int)≠(y.k:Int):=by omega
   simpa using this
  have hwr:IntKind.i64.wrap (j:Int)=(j:Int):=by
   rw[IntKind.wrap_i64]
   omega
  clear hx hy hx' hy' hk hj hxy
  go_wp2_with fail
  go_quiet (fail)
  go_wp2_with fail
  go_roundw
  case rel=>exact⟨k+1,by omega,by omega,by go_num,fr.drewN _⟩
  simp[intOf];omega
 obtain rfl:k=L.length:=by omega
 go_wp2_with fail
 go_ret
 exact⟨rfl,fr⟩
open Go.RowKit Fm Ct
def cc (L:List F)(j:Nat):Value:=.int .i64 (cnt L j)
def sO (L:List F):Array Value:=#[cc L 0,cc L 1,cc L 2,cc L 3,cc L 4,cc L 5,cc L 6]
theorem n9 (L:List F)(f:F)(j:Nat):cnt (L++[f]) j=cnt L j+(if f.k=j then 1 else 0):=by
 simp only[cnt,List.filter_append,List.length_append,List.filter_cons,List.filter_nil]
 by_cases h:f.k=j
 ·simp[h]
 simp[h]
theorem qz (L:List F)(j:Nat):cnt L j<=L.length:=List.length_filter_le _ _
theorem pj (L:List F)(f:F)(h1:1<=f.k)(h6:f.k<=6){w:World}{g:Nat}(h:Holds w g 327 (sO L)):Holds (w.setCell ⟨g,f.k,none⟩ (.int .i64 ((cnt L f.k:Int)+1))) g 327 (sO (L++[f])):=by
 have:=h.set f.k (.int .i64 ((cnt L f.k:Int)+1))
 obtain⟨k,l,v⟩:=f
 simp only at h1 h6 this ⊢
 obtain rfl|rfl|rfl|rfl|rfl|rfl:k=1∨k=2∨k=3∨k=4∨k=5∨k=6:=by omega
 all_goals simpa[sO,cc,n9] using this
theorem eM {L:List F}{k:Nat}(h6:k<=6){w:World}{g:Nat}(h:Holds w g 327 (sO L)):w.cell? ⟨g,k,none⟩=some (.int .i64 (cnt L k)):=by
 rw[h.cell k]
 obtain rfl|rfl|rfl|rfl|rfl|rfl|rfl:k=0∨k=1∨k=2∨k=3∨k=4∨k=5∨k=6:=by omega
 all_goals rfl
theorem jM {w W w':World}{B:Nat}{v v':Value}{l:List F}{x:F}{own':Option Nat}{n:Nat}(h:Own w B 209 3 v n (flat fcs l))(hn:n=l.length)(hw:B<=w.heap.size)(hf:Fr [] w W)(hs:Sl w' 209 3 v' (n+1) (flat fcs l++fcs x) own')(ho:own'=ay v∨∃ g,own'=some g/\W.heap.size<=g)(hm:∃ g,own'=some g)(h5:Fr (ay v).toList W w') :
  dA w' B v' (l++[x])/\∀ w0:World,w0.heap.size<=B->Fr [] w0 w->Fr [] w0 w':=by
 subst hn
 have h1:=Own.fr0 h hf
 obtain⟨oo,-⟩:=bn (B:=B) (Nat.le_trans hw hf.size) (λg hg=>(Own.ty h1 hg).2) hs ho hm
 refine⟨?_,λw0 h0 f0=>(f0.trans hf).step h5 λy hy=>?_⟩
 ·unfold dA
  rw[aP,bS]
  simpa using oo
 have:=(Own.ty h1 (g:=y) (by simpa using hy)).2
 exact .inr (by omega)
theorem vy (L:List F)(w:World)(B:Nat)(v:Value)(h:dG L)(hf:dA w B v L)(hG:Sh.Gl w) :
  Calls prog 304 #[v] w λe w'=>∃ v',e = .returned (.tuple #[v',.int .i64 0])/\dA w' w.heap.size v' L/\Fr [] w w':=by
 obtain⟨i5,hi,hz0,hz1,hz2⟩:=info_parts sx
 have h4:=h.n4
 have h1:=h.n1
 obtain⟨a,c,rfl⟩:=hf.form
 have HF:=hid hf
 have HC:=hid (λW (g:Fr [] w W) f (hm:f∈L)=>iN f W (h.fN f hm) (h.val f hm) (hG.fr0 g))
 have HK:=hid (λf (hm:f∈L)=>And.intro (h.fN f hm).k1 (h.fN f hm).k6)
 have HT:=hid (λW v (g:Fr [] w W) (hf:dA W w.heap.size v L)=>aN L W w.heap.size v h hf (hG.fr0 g))
 have HTS:=hid (dB L h.fN)
 have HR:=hid h.Eo
 have HN:=hid (And.intro h.c1 (And.intro h.c2 h.c5))
 clear hf h hG
 go_enter func304,ntmps304
 go_wp2_with fail
 go_loopw [4,14] (λo i wr=>∃ k:Nat,k<=L.length/\i = .int .i64 k/\dA wr w.heap.size o (L.take k)/\Fr [] w wr) (λ_ i _=>L.length - (intOf i).toNat)
 case atStart=>exact⟨0,Nat.zero_le _,rfl,Own.nil _ _ _ _,rZ⟩
 obtain⟨k,hk,rfl,ho,fr⟩:=hrel
 have HO:=hid ho
 obtain⟨oa,oc,rfl⟩:=ho.form
 clear ho
 have FR:=hid fr
 by_cases hlt:k<L.length
 ·have hx:L[k]? = some L[k]:=List.getElem?_eq_getElem hlt
  have hm:L[k]∈L:=List.getElem_mem hlt
  have HTk:=hid (fX hlt)
  obtain⟨x,hx'⟩:∃ x,L[k]=x:=⟨_,rfl⟩
  rw[hx'] at hx hm HTk
  obtain⟨g,rfl,hg,hgl,z0,z1,z2⟩:=eG (HF.fr0 fr) hx
  have hk1:(k:Int)<(L.length:Int):=by omega
  have HCx:=hid (λW (g:Fr [] w W)=>HC W g x hm)
  have hln:(L.take k).length=k:=by simp only[List.length_take];omega
  clear hx hm hx' fr
  simp only[fcs] at HCx
  go_wp2_with fail
  refine uu (HCx _ (FR.alloc _)) λw2 f2=>?_
  have f3:=hid (((Fr.refl [] wr).alloc (.cells #[.int .i64 x.k,.int .i64 x.l,.string x.v] 209)).trans f2)
  clear f2 z0 z1 z2
  have hln4:(L.take k).length+1<=4:=by omega
  have OO:Own w2 w.heap.size 209 3 (.slice oa k oc) k (flat fcs (L.take k)):=by
   have h:=HO.fr0 f3
   unfold dA at h
   rw[hln] at h
   exact h
  go_wp2_with (at_builtin;(refine af rfl (.tmp 26) (.tmp 28) 166 rfl i5 _ 32 underlying166 hi hz0 hz1 hz2 rfl (by decide) _ _ rfl (Own.fr0 OO ((rZ.alloc _).alloc _)).sl _ 1 1 (fcs x) rfl rfl (Cells.bO (aE (t:=209) (cs:=(fcs x).toArray) (by simp))) (ja x) (by unfold maxLen;omega) (by omega) ?_;intro v5 w5 own5 hs5 hf5 ho5 hm5;obtain⟨o5,g5⟩:=jM OO hln.symm (Nat.le_trans FR.size f3.size) ((rZ.alloc _).alloc _) hs5 ho5 (hm5 (by omega)) hf5))
  have F5:=hid (g5 w (Nat.le_refl _) (FR.trans f3))
  rw[<-HTk] at o5
  have O5:=hid o5
  clear hs5 hf5 ho5 hm5 o5 g5
  go_wp2_with fail
  go_roundw
  case rel=>exact⟨k+1,by omega,by go_num,O5,F5⟩
  simp[intOf];omega
 obtain rfl:k=L.length:=by omega
 have ht:L.take L.length=L:=List.take_of_length_le (Nat.le_refl _)
 rw[ht] at HO ⊢
 clear ht hlt
 go_wp2_with fail
 refine uu (tG wr w.heap.size _ L HO.out HR.out (by omega)) λw3 f3=>?_
 have O3:=hid (HO.fr0 f3)
 have F3:=hid (FR.trans f3)
 go_wp2_with fail
 refine uu (sK L w3 w.heap.size _ O3.out HR.out h1 (by omega)) λw4 f4=>?_
 have O4:=hid (O3.fr0 f4)
 have F4:=hid (F3.trans f4)
 have hd12:decide ((L.length:Int) > 12)=false:=decide_eq_false (by omega)
 clear f3 f4
 have b0:=hid (show Holds (w4.alloc (.cells #[.int .i64 0,.int .i64 0,.int .i64 0,.int .i64 0,.int .i64 0,.int .i64 0,.int .i64 0] 327)) w4.heap.size 327 (sO (L.take 0)) from Holds.new _ _ _)
 go_wp2_with fail
 go_loopw [40] (λi wr=>∃ k:Nat,k<=L.length/\i = .int .i64 k/\Holds wr w4.heap.size 327 (sO (L.take k))/\Fr [] w4 wr) (λi _=>L.length - (intOf i).toNat)
 case atStart=>exact⟨0,Nat.zero_le _,rfl,b0,rZ.alloc _⟩
 obtain⟨k,hk,rfl,hm,fm⟩:=hrel
 have HM:=hid hm
 have FM:=hid fm
 clear b0
 by_cases hlt:k<L.length
 ·have hx:L[k]? = some L[k]:=List.getElem?_eq_getElem hlt
  have hmm:L[k]∈L:=List.getElem_mem hlt
  have HTk:=hid (fX hlt)
  obtain⟨x,hx'⟩:∃ x,L[k]=x:=⟨_,rfl⟩
  rw[hx'] at hx hmm HTk
  obtain⟨g,rfl,hg,hgl,z0,z1,z2⟩:=eG (O4.fr0 fm) hx
  have hk1:(k:Int)<(L.length:Int):=by omega
  have hkk:=HK.out x hmm
  have hm2:=hm.alloc (.cells #[.int .i64 x.k,.int .i64 x.l,.string x.v] 209)
  have q:=eM hkk.2 hm2
  have yq:=hm2.frozen x.k
  have ql:=hm2.lt
  have hc4:=qz (L.take k) x.k
  have hln:(L.take k).length=k:=by simp only[List.length_take];omega
  have hw:IntKind.i64.wrap ((cnt (L.take k) x.k:Int)+1)=(cnt (L.take k) x.k:Int)+1:=IntWalk.i64_in _ (by omega)
  have HSN:=hid (pj (L.take k) x hkk.1 hkk.2 hm2)
  rw[<-HTk] at HSN
  have hk7:(x.k:Int)<7:=by omega
  have hk70:x.k<7:=by omega
  obtain⟨n,hn⟩:∃ n,cnt (L.take k) x.k=n:=⟨_,rfl⟩
  rw[hn] at q hw HSN
  clear hx hmm hx' fm hm hm2 hc4 hln hkk hn
  go_wp2_with fail
  go_roundw
  case rel=>exact⟨k+1,by omega,by go_num,HSN,Ev.Fr.aw (FM.alloc _) (Nat.le_refl _) _⟩
  simp[intOf];omega
 obtain rfl:k=L.length:=by omega
 have ht:L.take L.length=L:=List.take_of_length_le (Nat.le_refl _)
 rw[ht] at HM
 have q1:=eM (k:=1) (by omega) HM
 have q2:=eM (k:=2) (by omega) HM
 have q5:=eM (k:=5) (by omega) HM
 have ql:=HM.lt
 rw[HN.1] at q1
 have hn2:=HN.2.1
 have hn5:=HN.2.2
 have e2:decide ((cnt L 2:Int) > 1)=false:=decide_eq_false (by omega)
 have e5:decide ((cnt L 5:Int) > 1)=false:=decide_eq_false (by omega)
 have hts:=HTS.out
 have e9:decide (((aJ L).size:Int) > 900)=false:=decide_eq_false (by omega)
 have HTx:=hid (HT wr _ (F4.trans FM) (O4.fr0 FM))
 clear ht hlt hm hn2 hn5 hts
 go_wp2_with fail
 refine uu HTx λw6 f6=>?_
 clear q1 q2 q5 ql
 go_wp2_with fail
 go_ret2
 exact⟨_,rfl,(O4.fr0 FM).fr0 f6,(F4.trans FM).trans f6⟩
theorem yO (L:List F)(w:World)(B:Nat)(v:Value)(h:dG L)(hf:dA w B v L)(hG:Sh.Gl w) :
  cA 265 #[v] w (.tuple #[.string (aJ L),.int .i64 0]):=by
 have HC:=hid (vy L w B v h hf hG)
 have HT:=hid (λW v (g:Fr [] w W) (hf:dA W w.heap.size v L)=>aN L W w.heap.size v h hf (hG.fr0 g))
 obtain⟨a,c,rfl⟩:=hf.form
 clear hf hG h
 go_enter func265,ntmps265
 go_wp2_with fail
 refine HC.mono ?_
 rintro e w2 ⟨v',rfl,r2,f2⟩
 have HT2:=hid (HT w2 v' f2 r2)
 obtain⟨a',c',rfl⟩:=r2.form
 clear r2
 go_wp2_with fail
 refine uu HT2 λw3 f3=>?_
 go_wp2_with fail
 go_ret2
 exact⟨rfl,f2.trans f3⟩
theorem vf (L:List F)(w:World)(h:dG L)(hG:Sh.Gl w) :
  Calls prog 232 #[.string (aJ L)] w λe w'=>∃ vl,e = .returned (.tuple #[vl,.int .i64 0])/\Fr [] w w':=by
 obtain⟨i5,hi,hz0,hz1,hz2⟩:=info_parts sx
 have h4:=h.n4
 have hts:=dB L h.fN
 have HD:=hid (λk (hk:k<L.length)=>show (aJ (L.drop k)).data.toList=(aL L[k]).data.toList++10::(aJ (L.drop (k+1))).data.toList/\(10:UInt8)∉(aL L[k]).data.toList/\2<=(aJ (L.drop k)).size/\(aJ (L.drop k)).size<=300 from by
  have hm:L[k]∈L:=List.getElem_mem hk
  have e:(aJ (L.drop k)).data.toList=(aL L[k]).data.toList++10::(aJ (L.drop (k+1))).data.toList:=by
   rw[List.drop_eq_getElem_cons hk]
   exact jt _ _
  have h1:=(h.fN _ hm).size
  have h2:=iQ e
  have h3:=dB (L.drop k) λf hf=>h.fN f (List.mem_of_mem_drop hf)
  have h5:(L.drop k).length<=4:=by simp;omega
  exact⟨e,(h.fN _ hm).line,by omega,by omega⟩)
 have HP:=hid (λW (g:Fr [] w W) f (hm:f∈L)=>lI f W (h.fN f hm) (h.val f hm) (hG.fr0 g))
 have HT:=hid (λW v (g:Fr [] w W) (hf:dA W w.heap.size v L)=>yO L W w.heap.size v h hf (hG.fr0 g))
 have e9:decide (((aJ L).size:Int) > 900)=false:=decide_eq_false (by omega)
 obtain⟨s,hs⟩:∃ s,aJ L=s:=⟨_,rfl⟩
 have HS:=hid hs
 rw[hs] at HT e9 ⊢
 clear h hG hts hs
 go_enter func232,ntmps232
 go_wp2_with fail
 go_loopw [4,5] (λo r wr=>∃ k:Nat,k<=L.length/\r = .string (aJ (L.drop k))/\dA wr w.heap.size o (L.take k)/\Fr [] w wr) (λ_ r _=>Fx r)
 case atStart=>exact⟨0,Nat.zero_le _,by rw[List.drop_zero,HS],Own.nil _ _ _ _,rZ⟩
 obtain⟨k,hk,rfl,ho,fr⟩:=hrel
 have HO:=hid ho
 obtain⟨oa,oc,rfl⟩:=ho.form
 clear ho
 have FR:=hid fr
 by_cases hlt:k<L.length
 ·have hm:L[k]∈L:=List.getElem_mem hlt
  have HTk:=hid (fX hlt)
  obtain⟨d1,d2,d3,d4⟩:=HD.out k hlt
  obtain⟨x,hx'⟩:∃ x,L[k]=x:=⟨_,rfl⟩
  rw[hx'] at hm HTk d1 d2
  have HCt:=hid (qv (aJ (L.drop k)) ⟨#[10]⟩ (aL x) (aJ (L.drop (k+1))) wr rfl d1 d2 d3 (by omega))
  have HPx:=hid (λW (g:Fr [] w W)=>HP W g x hm)
  have hsz:=iQ d1
  have hln:(L.take k).length=k:=by simp only[List.length_take];omega
  have hln4:(L.take k).length+1<=4:=by omega
  obtain⟨t,ht⟩:∃ t,aJ (L.drop k)=t:=⟨_,rfl⟩
  have hne:t.toList.isEmpty=false:=by
   rw[Lib.toList_data,<-ht,d1]
   simp
  rw[ht] at HCt hsz d3 d4 ⊢
  obtain⟨t2,ht2⟩:∃ t,aJ (L.drop (k+1))=t:=⟨_,rfl⟩
  have HT2:=hid ht2
  rw[ht2] at HCt hsz
  clear d1 d2 ht ht2 hm hx' fr
  go_wp2_with fail
  refine uu HCt λw2 f2=>?_
  have F2:=hid (FR.trans f2)
  go_wp2_with fail
  refine uu (HPx _ F2) λw3 f3=>?_
  have f23:=hid (f2.trans f3)
  have OO:Own w3 w.heap.size 209 3 (.slice oa k oc) k (flat fcs (L.take k)):=by
   have h:=HO.fr0 f23
   unfold dA at h
   rw[hln] at h
   exact h
  clear f2 f3
  go_wp2_with (at_builtin;(refine af rfl (.tmp 36) (.tmp 38) 166 rfl i5 _ 32 underlying166 hi hz0 hz1 hz2 rfl (by decide) _ _ rfl (Own.fr0 OO ((rZ.alloc _).alloc _)).sl _ 1 1 (fcs x) rfl rfl (Cells.bO (aE (t:=209) (cs:=(fcs x).toArray) (by simp))) (ja x) (by unfold maxLen;omega) (by omega) ?_;intro v5 w5 own5 hs5 hf5 ho5 hm5;obtain⟨o5,g5⟩:=jM OO hln.symm (Nat.le_trans FR.size f23.size) ((rZ.alloc _).alloc _) hs5 ho5 (hm5 (by omega)) hf5))
  have F5:=hid (g5 w (Nat.le_refl _) (FR.trans f23))
  rw[<-HTk] at o5
  have O5:=hid o5
  clear hs5 hf5 ho5 hm5 o5 g5
  go_wp2_with fail
  go_roundw
  case rel=>exact⟨k+1,by omega,by rw[HT2],O5,F5⟩
  simp[Fx];omega
 obtain rfl:k=L.length:=by omega
 have ht:L.take L.length=L:=List.take_of_length_le (Nat.le_refl _)
 have hd:aJ (L.drop L.length)=⟨#[]⟩:=by rw[List.drop_length];rfl
 rw[ht] at HO ⊢
 rw[hd]
 have HTx:=hid (HT wr _ FR HO)
 clear ht hd hlt fr
 go_wp2_with fail
 refine uu HTx λw6 f6=>?_
 go_wp2_with fail
 go_ret2
 exact⟨_,rfl,FR.trans f6⟩
theorem DW (L:List F)(w:World)(h:dG L)(hG:Sh.Gl w) :
  cA 195 #[.string (aJ L)] w (.bool true):=by
 have HP:=hid (vf L w h hG)
 generalize aJ L=s at *
 go_enter func195,ntmps195
 go_wp2_with fail
 refine HP.mono ?_
 rintro e w2 ⟨vl,rfl,f2⟩
 go_wp2_with fail
 go_ret
 exact⟨rfl,f2⟩
open Go.RowKit Fm Ct
def rY (v:ByteArray):Bool :=
 decide (1<=v.size)&&decide (v.size<=64)&&v.data.toList.all (λc=>decide (32<=c.toNat)&&decide (c.toNat<=126))&&!(v.data.toList[0]?==some 32)&&!(v.data.toList[v.size - 1]?==some 32) &&
 (List.range (v.size - 1)).all (λj=>!(v.data.toList[j+1]?==some 32)||!(v.data.toList[j]?==some 32))&&Lib.validD v.data.toList
theorem eX {v:ByteArray}{j:Nat}(h:j<v.size):v.data.toList[j]? = some v[j]:=by
 rw[List.getElem?_eq_getElem (by simpa using h)]
 rfl
theorem pG {c:UInt8}(h:(c.toNat:Int)=32):c=32:=by
 apply UInt8.toNat_inj.1
 have:c.toNat=32:=by omega
 rw[this]
 rfl
theorem eT {v:ByteArray}(h:rY v=true):qK v:=by
 simp only[rY,Bool.and_eq_true,decide_eq_true_eq,List.all_eq_true,Bool.not_eq_true',beq_eq_false_iff_ne,List.mem_range,Bool.or_eq_true] at h
 obtain⟨⟨⟨⟨⟨⟨h1,h2⟩,h3⟩,h4⟩,h5⟩,h6⟩,h7⟩:=h
 refine⟨h1,h2,h3,λe=>h4 ?_,λe=>h5 ?_,λj hj e=>λe2=>?_,h7⟩
 ·rw[eX (by omega),pG e]
 ·rw[eX (by omega),pG e]
 rcases h6 j (by omega) with h|h
 ·exact h (by rw[eX hj,pG e])
 exact h (by rw[eX (by omega),pG e2])
def BF (f:F):Bool:=decide (1<=f.k)&&decide (f.k<=6)&&decide (f.l<=3)&&lab f.k f.l&&decide (1<=f.v.size)&&decide (f.v.size<=64)&&!f.v.data.toList.contains 10
theorem DN {f:F}(h:BF f=true):iu f:=by
 simp only[BF,Bool.and_eq_true,decide_eq_true_eq,Bool.not_eq_true'] at h
 obtain⟨⟨⟨⟨⟨⟨h1,h2⟩,h3⟩,h4⟩,h5⟩,h6⟩,h7⟩:=h
 exact⟨h1,h2,h3,h4,h5,h6,λhm=>by simp[hm] at h7⟩
def pK:List F->Bool
 | []=>true
 | [_]=>true
 | a::b::l=>decide (a.k<b.k)&&pK (b::l)
theorem rh:∀ {L:List F},pK L=true->mA L
 | [],_,j,x,y,hx,_=>by simp at hx
 | [a],_,j,x,y,_,hy=>by simp at hy
 | a::b::l,h,j,x,y,hx,hy=>by
  simp only[pK,Bool.and_eq_true,decide_eq_true_eq] at h
  cases j with
  | zero =>
   simp at hx hy
   subst hx hy
   exact h.1
  | succ j=>exact rh h.2 j x y (by simpa using hx) (by simpa using hy)
theorem jS {L:List F}(h:(L.all BF&&pK L&&decide (1<=L.length)&&decide (L.length<=4)&&decide (cnt L 1=1)&&decide (cnt L 2<=1)&&decide (cnt L 5<=1))=true)(hv:∀ f,f∈L->Val f):dG L:=by
 simp only[Bool.and_eq_true,decide_eq_true_eq,List.all_eq_true] at h
 obtain⟨⟨⟨⟨⟨⟨h1,h2⟩,h3⟩,h4⟩,h5⟩,h6⟩,h7⟩:=h
 exact⟨λf hf=>DN (h1 f hf),hv,rh h2,h3,h4,h5,h6,h7⟩
theorem iv (l:Nat)(v:ByteArray)(h:rY v=true):Val ⟨1,l,v⟩:=.clean 1 l v (.inl rfl) (eT h)
theorem pH {v d:ByteArray}(h:(rY v&&v.data.toList.all (λc=>decide (c.toNat=43∨(48<=c.toNat/\c.toNat<=57)))&&decide ((⟨(Lib.trimPrefix v.data.toList [43]).toArray⟩:ByteArray)=d)&&decide (if v.data.toList.head? = some 43 then v.extract 1 v.size=d else v=d)&&decide (3<=d.size)&&decide (d.size<=15)&&d.data.toList.all (λc=>decide (48<=c.toNat/\c.toNat<=57)))=true):mz v d:=by
 simp only[Bool.and_eq_true,decide_eq_true_eq,List.all_eq_true] at h
 obtain⟨⟨⟨⟨⟨⟨h1,h2⟩,h3⟩,h7⟩,h4⟩,h5⟩,h6⟩:=h
 exact⟨eT h1,h2,h3,h7,h4,h5,h6⟩
theorem Bc : ky (M.bs "cy@example.org") (M.bs "cy") (M.bs "example.org") [M.bs "example", M.bs "org"] :=
 ⟨eT (by decide +kernel),by decide +kernel,by decide +kernel,by decide +kernel,by decide +kernel,by decide +kernel,by decide +kernel,by decide +kernel,by decide +kernel,by decide +kernel,by decide +kernel,by decide +kernel,by decide +kernel,by decide +kernel,by decide +kernel,by decide +kernel⟩
theorem Bb : ky (M.bs "ed@coop.example.org") (M.bs "ed") (M.bs "coop.example.org") [M.bs "coop", M.bs "example", M.bs "org"] :=
 ⟨eT (by decide +kernel),by decide +kernel,by decide +kernel,by decide +kernel,by decide +kernel,by decide +kernel,by decide +kernel,by decide +kernel,by decide +kernel,by decide +kernel,by decide +kernel,by decide +kernel,by decide +kernel,by decide +kernel,by decide +kernel,by decide +kernel⟩
def fA : List F := [⟨1, 0, M.bs "Ann"⟩]
def fB : List F := [⟨1, 0, M.bs "Bob"⟩, ⟨3, 0, M.bs "+4930123456"⟩]
def fC : List F := [⟨1, 0, M.bs "Cy"⟩, ⟨4, 1, M.bs "cy@example.org"⟩]
def fD : List F := [⟨1, 0, M.bs "Di"⟩, ⟨5, 0, M.bs "1999-12-31"⟩, ⟨6, 0, M.bs "likes hens"⟩]
def fE : List F := [⟨1, 0, M.bs "Ed"⟩, ⟨2, 0, M.bs "Coop"⟩, ⟨3, 3, M.bs "01601234567"⟩, ⟨4, 2, M.bs "ed@coop.example.org"⟩]
def fO : List F := [⟨1, 0, M.bs "Bob"⟩]
theorem FU:dG fA:=jS (by decide +kernel) (by
 intro f hf
 simp only[fA,List.mem_cons,List.not_mem_nil,or_false] at hf
 subst hf
 exact iv _ _ (by decide +kernel))
theorem FK:dG fO:=jS (by decide +kernel) (by
 intro f hf
 simp only[fO,List.mem_cons,List.not_mem_nil,or_false] at hf
 subst hf
 exact iv _ _ (by decide +kernel))
theorem FT:dG fB:=jS (by decide +kernel) (by
 intro f hf
 simp only[fB,List.mem_cons,List.not_mem_nil,or_false] at hf
 rcases hf with rfl|rfl
 ·exact iv _ _ (by decide +kernel)
 exact .tel _ _ (M.bs "4930123456") (pH (by decide +kernel)))
theorem FQ:dG fC:=jS (by decide +kernel) (by
 intro f hf
 simp only[fC,List.mem_cons,List.not_mem_nil,or_false] at hf
 rcases hf with rfl|rfl
 ·exact iv _ _ (by decide +kernel)
 exact .mail _ _ _ _ _ Bc)
theorem FP:dG fD:=jS (by decide +kernel) (by
 intro f hf
 simp only[fD,List.mem_cons,List.not_mem_nil,or_false] at hf
 rcases hf with rfl|rfl|rfl
 ·exact iv _ _ (by decide +kernel)
 ·exact .day _ _ (eT (by decide +kernel)) ⟨rfl⟩
 exact .clean 6 _ _ (by omega) (eT (by decide +kernel)))
theorem FL:dG fE:=jS (by decide +kernel) (by
 intro f hf
 simp only[fE,List.mem_cons,List.not_mem_nil,or_false] at hf
 rcases hf with rfl|rfl|rfl|rfl
 ·exact iv _ _ (by decide +kernel)
 ·exact .clean 2 _ _ (by omega) (eT (by decide +kernel))
 ·exact .tel _ _ (M.bs "01601234567") (pH (by decide +kernel))
 exact .mail _ _ _ _ _ Bb)
theorem vz {s : ByteArray} (h : (M.jf s || decide (s = M.bs "name:Bob\n")) = true) : ∃ L, dG L /\ s = aJ L := by
 simp only[M.jf,M.kq,List.any_cons,List.any_nil,Bool.or_eq_true,decide_eq_true_eq,Bool.or_false] at h
 rcases h with(h|h|h|h|h)|h
 ·exact⟨fA,FU,by rw[h];decide +kernel⟩
 ·exact⟨fB,FT,by rw[h];decide +kernel⟩
 ·exact⟨fC,FQ,by rw[h];decide +kernel⟩
 ·exact⟨fD,FP,by rw[h];decide +kernel⟩
 ·exact⟨fE,FL,by rw[h];decide +kernel⟩
 exact⟨fO,FK,by rw[h];decide +kernel⟩
theorem cz (s : ByteArray) (w : World) (h : (M.jf s || decide (s = M.bs "name:Bob\n")) = true) (hG : Sh.Gl w) :
  cA 195 #[.string s] w (.bool true):=by
 obtain⟨L,hL,rfl⟩:=vz h
 exact DW L w hL hG
end Fd
namespace Rf
open Go.RowKit Fm Ct Fd
theorem zX (s:ByteArray)(k:Nat)(w:World)(hk:k<s.size)(hs:s.size<=1000)(h:(s[k]'hk).toNat<128) :
  Calls prog 298 #[.string s,.int .i64 k] w λe w'=>e = .returned (.int .i64 1)/\w=w':=by
 have hk1:(k:Int)<(s.size:Int):=by omega
 have d:decide (((s[k]'hk).toNat:Int)<128)=true:=decide_eq_true (by omega)
 go_enter func298,ntmps298
 go_wp2_with fail
 go_ret
 exact⟨rfl,rfl⟩
theorem dF (v:ByteArray)(w:World)(h:qK v) :
  cA 259 #[.string v] w (.tuple #[.string v,.int .i64 0]):=by
 obtain⟨i5,hi,hz0,hz1,hz2⟩:=info_parts info5
 have h1:=h.s1
 have h2:=h.s2
 go_enter func259,ntmps259
 go_wp2_with fail
 go_loop [4] (λi=>∃ k:Nat,k<=v.size/\i = .int .i64 k) (λi=>v.size - (intOf i).toNat)
 case atStart=>exact⟨0,Nat.zero_le _,rfl⟩
 obtain⟨k,hk,rfl⟩:=hrel
 by_cases hlt:k<v.size
 ·have hv:=h.vis _ (cw hlt)
  have a1:¬ ((v[k].toNat:Int)<32):=by omega
  have a2:¬ ((v[k].toNat:Int)=127):=by omega
  have d1:decide ((v[k].toNat:Int)<32)=false:=decide_eq_false a1
  have d2:((v[k].toNat:Int)==127)=false:=by simpa using a2
  have HS:=hid (zX v k w hlt (by omega) (by omega))
  go_wp2_with fail
  refine HS.mono ?_
  rintro e w' ⟨rfl,rfl⟩
  go_wp2_with fail
  go_round
  case rel=>exact⟨k+1,by omega,by go_num⟩
  simp[intOf];omega
 obtain rfl:k=v.size:=by omega
 go_wp2_with fail
 go_loopw [6,7] (λo i wr=>∃ k:Nat,k<=v.size/\i = .int .i64 k/\Acc w wr o (v.data.toList.take k)/\Fr [] w wr) (λ_ i _=>v.size - (intOf i).toNat)
 case atStart=>exact⟨0,Nat.zero_le _,rfl,.inl ⟨rfl,rfl⟩,rZ⟩
 obtain⟨k,hk,rfl,ha,fr⟩:=hrel
 by_cases hlt:k<v.size
 ·have hv:=h.vis _ (cw hlt)
  by_cases hsp:(v[k].toNat:Int)=32
  ·obtain⟨j,rfl⟩:∃ j,k=j+1:=⟨k - 1,by
    by_cases h0:k=0
    ·subst h0;exact absurd hsp h.first
    omega⟩
   have hsz2:=h.s2
   have hj:j<v.size:=by omega
   have hd:=h.dbl j hlt hsp
   have d1:((v[j+1].toNat:Int)==32)=true:=by simpa using hsp
   have d2:((v[j].toNat:Int)==32)=false:=by simpa using hd
   have hcell:[Value.int .u8 v[j+1].toNat]=bc [v[j+1]]:=by simp[bc]
   have HC:=hid hcell
   have HT:=hid (dj v (j+1) hlt)
   have hln:(v.data.toList.take (j+1)).length=j+1:=by simp;omega
   rcases ha with⟨_,hnil⟩|⟨g,c,n,rfl,hg,hn,hr⟩
   ·rw[hnil] at hln
    simp at hln
   have hnk:n=j+1:=by rw[<-hn,hln]
   subst hnk
   have hgj:(v.data.toList.take (j+1))[j]? = some v[j]:=by
    rw[List.getElem?_take,if_pos (by omega),List.getElem?_eq_getElem (by simpa using hj)]
    rfl
   have q:wr.cell? ⟨g,j,none⟩=some (.int .u8 v[j].toNat):=hr.cell (by
    unfold bc
    rw[List.getElem?_map,hgj]
    rfl)
   have hc1:(((j+1:Nat):Int) - 1)=(j:Int):=by omega
   have hc2:(((j+1:Nat):Int)==0)=false:=by
    have:((j+1:Nat):Int)≠0:=by omega
    simpa using this
   clear hcell hsp hd hgj
   go_wp2_with (at_builtin;(refine af rfl (.tmp 56) (.tmp 60) 69 rfl i5 _ 1 underlying69 hi hz0 hz1 hz2 rfl (by decide) _ _ rfl ((Sl.row hr).fr0 ((Fr.refl [] wr).alloc _)) _ 1 1 [.int .u8 v[j+1].toNat] rfl rfl (Cells.one (Holds.new wr 5 #[.int .u8 v[j+1].toNat])) (by simp[Value.oneCell']) (by unfold maxLen;omega) (by omega) ?_;intro v3 w3 own3 hs3 hf3 ho3 hm3;obtain⟨g3,c3,rfl,rfl,hg3,r3⟩:=bV (B:=w.heap.size) hs3 ho3 (by have:=fr.size;simp;omega) hg))
   go_roundw
   case rel=>exact⟨j+1+1,by omega,by go_num,.inr ⟨g3,c3,j+1+1,rfl,hg3,by simp;omega,by rw[HT,cF,<-HC];exact r3⟩,(fr.alloc _).step hf3 (by simpa using hg)⟩
   simp[intOf];omega
  have a1:¬ ((v[k].toNat:Int)=32):=hsp
  have d1:((v[k].toNat:Int)==32)=false:=by simpa using a1
  have hcell:[Value.int .u8 v[k].toNat]=bc [v[k]]:=by simp[bc]
  have HC:=hid hcell
  clear hcell
  have HT:=hid (dj v k hlt)
  have hln:(v.data.toList.take k).length=k:=by simp;omega
  rcases ha with⟨rfl,hnil⟩|⟨g,c,n,rfl,hg,hn,hr⟩
  ·have hk0:k=0:=by
    rw[hnil] at hln
    simpa using hln.symm
   subst hk0
   go_wp2_with (at_builtin;(refine af rfl (.tmp 56) (.tmp 60) 69 rfl i5 _ 1 underlying69 hi hz0 hz1 hz2 rfl (by decide) _ _ rfl (Sl.nil _ _ _) _ 1 1 [.int .u8 v[0].toNat] rfl rfl (Cells.one (Holds.new wr 5 #[.int .u8 v[0].toNat])) (by simp[Value.oneCell']) (by unfold maxLen;omega) (by omega) ?_;intro v3 w3 own3 hs3 hf3 ho3 hm3;obtain⟨g3,c3,rfl,rfl,hg3,r3⟩:=mM (B:=w.heap.size) hs3 ho3 (by have:=fr.size;simp;omega) (by simp) (hm3 (by omega))))
   go_roundw
   case rel=>exact⟨1,by omega,rfl,.inr ⟨g3,c3,1,rfl,hg3,by simp;omega,by rw[HT,List.take_zero,List.nil_append,<-HC];simpa using r3⟩,(fr.alloc _).step hf3 (by simp)⟩
   simp[intOf];omega
  have hnk:n=k:=by rw[<-hn,hln]
  subst hnk
  go_wp2_with (at_builtin;(refine af rfl (.tmp 56) (.tmp 60) 69 rfl i5 _ 1 underlying69 hi hz0 hz1 hz2 rfl (by decide) _ _ rfl ((Sl.row hr).fr0 ((Fr.refl [] wr).alloc _)) _ 1 1 [.int .u8 v[n].toNat] rfl rfl (Cells.one (Holds.new wr 5 #[.int .u8 v[n].toNat])) (by simp[Value.oneCell']) (by unfold maxLen;omega) (by omega) ?_;intro v3 w3 own3 hs3 hf3 ho3 hm3;obtain⟨g3,c3,rfl,rfl,hg3,r3⟩:=bV (B:=w.heap.size) hs3 ho3 (by have:=fr.size;simp;omega) hg))
  go_roundw
  case rel=>exact⟨n+1,by omega,by go_num,.inr ⟨g3,c3,n+1,rfl,hg3,by simp;omega,by rw[HT,cF,<-HC];exact r3⟩,(fr.alloc _).step hf3 (by simpa using hg)⟩
  simp[intOf];omega
 obtain rfl:k=v.size:=by omega
 have ht:v.data.toList.take v.size=v.data.toList:=List.take_of_length_le (by simp)
 rw[ht] at ha
 rcases ha with⟨rfl,hnil⟩|⟨g,c,n,rfl,hg,hn,hr⟩
 ·have:=congrArg List.length hnil
  rw[show v.data.toList.length=v.size by simp,List.length_nil] at this
  omega
 have hnk:n=v.size:=by rw[<-hn];simp
 subst hnk
 have hlast:v.size - 1<v.size:=by omega
 have hv:=h.vis _ (cw hlast)
 have q:wr.cell? ⟨g,v.size - 1,none⟩=some (.int .u8 v[v.size - 1].toNat):=hr.cell (by
  have:v.data.toList[v.size - 1]? = some v[v.size - 1]:=by
   rw[List.getElem?_eq_getElem (by simpa using hlast)]
   rfl
  simp[bc,this])
 have a1:¬ ((v[v.size - 1].toNat:Int)=32):=h.last
 have d1:((v[v.size - 1].toNat:Int)==32)=false:=by simpa using a1
 have hcast:((v.size:Int) - 1)=((v.size - 1:Nat):Int):=by omega
 have hconv:(convert 69 9 (.slice (some ⟨g,0,none⟩) v.size c)).run prog wr = .ok (.string v) wr:=cE wr g 0 v.size c v rfl λj x hx=>by
  rw[Nat.zero_add]
  exact hr.cell (by simp[bc,hx])
 have HV2:=hid hv
 have hgt:0<v.size:=h1
 clear hv
 have hb0:decide ((v.size:Int) > 0)=true:=decide_eq_true (by omega)
 have hb1:((v.size:Int)==0)=false:=by
  have:(v.size:Int)≠0:=by omega
  simpa using this
 have hb2:decide ((v.size:Int) > 64)=false:=decide_eq_false (by omega)
 have hcap:=hr.le
 clear hr
 go_wp2_with fail
 go_ret2
 exact⟨rfl,fr⟩
open Go.RowKit Fm Ct Fd
theorem rF (c:UInt8)(w:World)(h1:48<=c.toNat)(h2:c.toNat<=57):Calls prog 95 #[.int .u8 c.toNat] w λe w'=>e = .returned (.bool true)/\w=w':=by
 have d1:decide ((c.toNat:Int) >= 48)=true:=decide_eq_true (by omega)
 have d2:decide ((c.toNat:Int)<=57)=true:=decide_eq_true (by omega)
 go_enter func95,ntmps95
 go_wp2_with fail
 go_ret
 exact⟨rfl,rfl⟩
theorem yy (v d:ByteArray)(w:World)(h:mz v d):Calls prog 295 #[.string v] w λe w'=>e = .returned (.bool true)/\w=w':=by
 have h1:=h.kK.s1
 have h2:=h.kK.s2
 have h3:=h.d1
 have h4:=h.d2
 have HD:=hid h.dig
 have hc:=h.GN
 have hg:v.data.toList.head? = some v[0]:=by rw[List.head?_eq_getElem?,List.getElem?_eq_getElem (by simp;omega)];rfl
 rw[hg] at hc
 have hpos:0<v.size:=h1
 have e1:decide ((v.size:Int) > 0)=true:=decide_eq_true (by omega)
 have e3:decide ((d.size:Int) >= 3)=true:=decide_eq_true (by omega)
 have e4:decide ((d.size:Int)<=15)=true:=decide_eq_true (by omega)
 clear h hg
 go_enter func295,ntmps295
 by_cases hp:v[0]=43
 ·rw[if_pos (by rw[hp])] at hc
  have d0:((v[0].toNat:Int)==43)=true:=by rw[hp];rfl
  have HC:=hid hc
  clear hc hp
  have h1':(1:Int)<=(v.size:Int):=by omega
  go_wp2_with fail
  rw[HC]
  go_loop [3] (λi=>∃ k:Nat,k<=d.size/\i = .int .i64 k) (λi=>d.size - (intOf i).toNat)
  case atStart=>exact⟨0,Nat.zero_le _,rfl⟩
  obtain⟨k,hk,rfl⟩:=hrel
  by_cases hlt:k<d.size
  ·have hv:=HD.out _ (cw hlt)
   have HB:=hid (rF d[k] w hv.1 hv.2)
   go_wp2_with fail
   refine HB.mono ?_
   rintro e w' ⟨rfl,rfl⟩
   go_wp2_with fail
   go_round
   case rel=>exact⟨k+1,by omega,by go_num⟩
   simp[intOf];omega
  obtain rfl:k=d.size:=by omega
  go_wp2_with fail
  go_ret
  exact⟨rfl,rfl⟩
 rw[if_neg (by intro e;exact hp (Option.some.inj e))] at hc
 have d0:((v[0].toNat:Int)==43)=false:=by
  have:¬ ((v[0].toNat:Int)=43):=λe=>hp (UInt8.toNat_inj.1 (show v[0].toNat=(43:UInt8).toNat from by
   have h:v[0].toNat=43:=by omega
   exact h))
  simpa using this
 subst hc
 clear hp
 go_wp2_with fail
 go_loop [3] (λi=>∃ k:Nat,k<=v.size/\i = .int .i64 k) (λi=>v.size - (intOf i).toNat)
 case atStart=>exact⟨0,Nat.zero_le _,rfl⟩
 obtain⟨k,hk,rfl⟩:=hrel
 by_cases hlt:k<v.size
 ·have hv:=HD.out _ (cw hlt)
  have HB:=hid (rF v[k] w hv.1 hv.2)
  go_wp2_with fail
  refine HB.mono ?_
  rintro e w' ⟨rfl,rfl⟩
  go_wp2_with fail
  go_round
  case rel=>exact⟨k+1,by omega,by go_num⟩
  simp[intOf];omega
 obtain rfl:k=v.size:=by omega
 go_wp2_with fail
 go_ret
 exact⟨rfl,rfl⟩
theorem qt (v:ByteArray)(k:Nat):v.extract 0 k++v.extract k (k+1)=v.extract 0 (k+1):=by
 apply gC
 simp only[ByteArray.data_append,Array.toList_append,bJ,List.drop_zero]
 rcases Nat.lt_or_ge k v.data.toList.length with h|h
 ·rw[List.take_succ_eq_append_getElem h,List.drop_append_of_le_length (by rw[List.length_take];omega),List.drop_of_length_le (by rw[List.length_take];omega),List.nil_append]
 rw[List.take_of_length_le h,List.take_of_length_le (by omega),List.drop_of_length_le h,List.append_nil]
theorem extract_all (v:ByteArray):v.extract 0 v.size=v:=by
 apply gC
 rw[bJ,List.drop_zero,List.take_of_length_le (by simp)]
theorem gU (v:ByteArray)(i j:Nat):(v.extract i j).size<=v.size:=by
 rw[ByteArray.size_extract]
 omega
theorem CJ (v d:ByteArray)(w:World)(h:mz v d) :
  cA 257 #[.string v] w (.tuple #[.string v,.int .i64 0]):=by
 have h2:=h.kK.s2
 have HN:=hid (dF v w h.kK)
 have HU:=hid h.num
 have HI:=hid (λW=>yy v d W h)
 clear h
 go_enter func257,ntmps257
 go_wp2_with fail
 refine uu HN λw1 f1=>?_
 go_wp2_with fail
 go_loop [6,7] (λo i=>∃ k:Nat,k<=v.size/\i = .int .i64 k/\o = .string (v.extract 0 k)) (λ_ i=>v.size - (intOf i).toNat)
 case atStart=>exact⟨0,Nat.zero_le _,rfl,by congr 1;exact(gC (by simp[bJ])).symm⟩
 obtain⟨k,hk,rfl,rfl⟩:=hrel
 by_cases hlt:k<v.size
 ·have hv:=HU.out _ (cw hlt)
  have b1:((v[k].toNat:Int)==32)=false:=by simp;omega
  have b2:((v[k].toNat:Int)==45)=false:=by simp;omega
  have b3:((v[k].toNat:Int)==46)=false:=by simp;omega
  have b4:((v[k].toNat:Int)==47)=false:=by simp;omega
  have b5:((v[k].toNat:Int)==40)=false:=by simp;omega
  have b6:((v[k].toNat:Int)==41)=false:=by simp;omega
  have HX:=hid (qt v k)
  have z1:=gU v 0 k
  have z2:=gU v k (k+1)
  have hk1:((k:Int)+1)<=(v.size:Int):=by omega
  have hk2:k+1<=v.size:=hlt
  obtain⟨A,hA⟩:∃ A,v.extract 0 k=A:=⟨_,rfl⟩
  rw[hA] at HX z1 ⊢
  clear hv hA
  go_wp2_with fail
  go_round
  case rel=>exact⟨k+1,by omega,by go_num,by rw[<-HX]⟩
  simp[intOf];omega
 obtain rfl:k=v.size:=by omega
 rw[extract_all]
 go_wp2_with fail
 refine(HI _).mono ?_
 rintro e w' ⟨rfl,rfl⟩
 go_wp2_with fail
 go_ret2
 exact⟨rfl,f1⟩
open Go.RowKit Fm Ct Fd
theorem EG (c:UInt8)(w:World)(h:¬ (65<=c.toNat/\c.toNat<=90)):Calls prog 96 #[.int .u8 c.toNat] w λe w'=>e = .returned (.bool false)/\w=w':=by
 go_enter func96,ntmps96
 by_cases h65:(65:Int)<=(c.toNat:Int)
 ·have b1:decide ((c.toNat:Int) >= 65)=true:=decide_eq_true h65
  have b2:decide ((c.toNat:Int)<=90)=false:=decide_eq_false (by omega)
  go_wp2_with fail
  go_ret
  exact⟨rfl,rfl⟩
 have b1:decide ((c.toNat:Int) >= 65)=false:=decide_eq_false h65
 go_wp2_with fail
 go_ret
 exact⟨rfl,rfl⟩
theorem xn (v:ByteArray)(w:World)(hs:v.size<=1000)(hv:∀ c∈v.data.toList,¬ (65<=c.toNat/\c.toNat<=90)) :
  cA 296 #[.string v] w (.string v):=by
 have kc:=λ(W:World)=>run_bytes_of_string (P:=prog) W 9 69 5 v underlying9 underlying69 underlying5
 have HV:=hid hv
 clear hv
 go_enter func296,ntmps296
 go_wp2_with fail
 generalize hcap:grownCap w v.size 0 5=cap
 have hge:v.size<=cap:=by rw[<-hcap];exact grownCap_ge _ _ _ _
 obtain⟨W1,hW1⟩:∃ W1,W1=(w.alloc (.cells (bytesRow v cap) 5 ((bytesRow v cap).size,(bytesRow v cap).size+1))).drew:=⟨_,rfl⟩
 have f1:Fr [] w W1:=by rw[hW1];exact(rZ.alloc _).drew
 have hb0:=sJ w v cap ((bytesRow v cap).size,(bytesRow v cap).size+1)
 have hq:∀ (k:Nat) (h:k<v.size),W1.cell? ⟨w.heap.size,k,none⟩=some (.int .u8 v[k].toNat):=λk h=>by
  obtain⟨b,off,e,_,hc⟩:=hb0 (by simp;omega)
  cases e
  have:=hc k v[k] (by rw[List.getElem?_eq_getElem (by simpa using h)];rfl)
  rw[Nat.zero_add] at this
  rw[hW1]
  exact this
 have HQ:=hid hq
 have hlt1:w.heap.size<W1.heap.size:=by
  rw[hW1]
  show _<(World.alloc _ _).heap.size
  simp
 have hconv:(convert 69 9 (.slice (some ⟨w.heap.size,0,none⟩) v.size cap)).run prog W1 = .ok (.string v) W1:=cE W1 w.heap.size 0 v.size cap v rfl λj x hx=>by
  have hj:j<v.size:=by simpa using (List.getElem?_eq_some_iff.1 hx).1
  have:=hq j hj
  rw[Nat.zero_add,this]
  have e:v[j]=x:=by have:=(List.getElem?_eq_some_iff.1 hx).2;exact(show v[j]=v.data.toList[j]'(by simpa using hj) from rfl).trans this
  rw[e]
 rw[<-hW1]
 clear hW1 hb0 hq kc
 go_loop [4] (λi=>∃ k:Nat,k<=v.size/\i = .int .i64 k) (λi=>v.size - (intOf i).toNat)
 case atStart=>exact⟨0,Nat.zero_le _,rfl⟩
 obtain⟨k,hk,rfl⟩:=hrel
 by_cases hlt:k<v.size
 ·have HB:=hid (EG v[k] W1 (HV _ (cw hlt)))
  have q:=HQ.out k hlt
  have hk1:(k:Int)<(v.size:Int):=by omega
  go_wp2_with fail
  refine HB.mono ?_
  rintro e w' ⟨rfl,rfl⟩
  go_wp2_with fail
  go_round
  case rel=>exact⟨k+1,by omega,by go_num⟩
  simp[intOf];omega
 obtain rfl:k=v.size:=by omega
 go_wp2_with fail
 go_ret
 exact⟨rfl,f1⟩
theorem tS (s:ByteArray)(w:World)(h2:s.size=2)(hv:∀ c∈s.data.toList,97<=c.toNat/\c.toNat<=122) :
  Calls prog 344 #[.string s] w λe w'=>e = .returned (.bool true)/\w=w':=by
 have HV:=hid hv
 have h1:1<=s.size:=by omega
 have h3:s.size<=20:=by omega
 clear h2
 have v0:=hv _ (cw (show 0<s.size by omega))
 have v1:=hv _ (cw (show s.size - 1<s.size by omega))
 have b0:((s[0].toNat:Int)==46)=false:=by simp;omega
 have b1:((s[s.size - 1].toNat:Int)==46)=false:=by simp;omega
 have hcast:((s.size:Int) - 1)=((s.size - 1:Nat):Int):=by omega
 have c1:decide ((s.size:Int)<1)=false:=decide_eq_false (by omega)
 have c2:decide ((s.size:Int) > 32)=false:=decide_eq_false (by omega)
 clear hv v0 v1
 go_enter func344,ntmps344
 go_wp2_with fail
 go_loop [3] (λi=>∃ k:Nat,k<=s.size/\i = .int .i64 k) (λi=>s.size - (intOf i).toNat)
 case atStart=>exact⟨0,Nat.zero_le _,rfl⟩
 obtain⟨k,hk,rfl⟩:=hrel
 by_cases hlt:k<s.size
 ·have hv:=HV.out _ (cw hlt)
  have HB:=hid (Id.jw s[k] w (by omega) (by omega))
  have d1:((s[k].toNat:Int)==46)=false:=by simp;omega
  clear hv
  go_wp2_with fail
  refine HB.mono ?_
  rintro e w' ⟨rfl,rfl⟩
  go_wp2_with fail
  go_round
  case rel=>exact⟨k+1,by omega,by go_num⟩
  simp[intOf];omega
 obtain rfl:k=s.size:=by omega
 go_wp2_with fail
 go_ret
 exact⟨rfl,rfl⟩
def nW (x:Nat × Nat × Nat)(c:UInt8):Nat × Nat × Nat:=if c=46 then (x.1+1,x.1+1,x.2.2+1) else (x.1+1,x.2.1,x.2.2)
def dst (l:List UInt8):Nat × Nat × Nat:=l.foldl nW (0,0,0)
theorem sC (l:List UInt8)(c:UInt8):dst (l++[c])=nW (dst l) c:=by simp[dst]
theorem DQ (l:List UInt8):(dst l).1=l.length:=by
 have:∀ (l:List UInt8) x,(l.foldl nW x).1=x.1+l.length:=by
  intro l
  induction l with
  | nil=>intro x;rfl
  | cons c l ih =>
   intro x
   rw[List.foldl_cons,ih]
   unfold nW
   split<;>simp<;>omega
 show (l.foldl nW (0,0,0)).1=_
 rw[this]
 exact Nat.zero_add _
structure wH (s:ByteArray):Prop where
 sz:s.size<=60
 ch:∀ c∈s.data.toList,(97<=c.toNat/\c.toNat<=122)∨c=46
 cut:∀ i,i<=s.size->(dst (s.data.toList.take i)).2.2<=60/\(dst (s.data.toList.take i)).2.1<=i/\(i=s.size∨s.data.toList[i]? = some 46->(dst (s.data.toList.take i)).2.1+1<=i/\i<=(dst (s.data.toList.take i)).2.1+20)
 two:1<=(dst s.data.toList).2.2
theorem uV (s:ByteArray)(w:World)(h:wH s) :
  Calls prog 345 #[.string s] w λe w'=>e = .returned (.bool true)/\w=w':=by
 have HH:=hid h
 have hsz:=h.sz
 clear h
 go_enter func345,ntmps345
 go_wp2_with fail
 go_loop [3,4,5,6] (λn f i _=>∃ k:Nat,k<=s.size+1/\i = .int .i64 k/\(k<=s.size->n = .int .i64 ((dst (s.data.toList.take k)).2.2:Nat)/\f = .int .i64 ((dst (s.data.toList.take k)).2.1:Nat))/\(k=s.size+1->∃ m:Nat,2<=m/\n = .int .i64 m)) (λ_ _ i _=>s.size+1 - (intOf i).toNat)
 case atStart=>exact⟨0,Nat.zero_le _,rfl,λ_=>⟨rfl,rfl⟩,λe=>by omega⟩
 obtain⟨k,hk,rfl,hst,hen⟩:=hrel
 by_cases hle:k<=s.size
 ·obtain⟨rfl,rfl⟩:=hst hle
  clear hen hst
  obtain⟨c60,cf,cc⟩:=HH.cut k hle
  obtain⟨N,hN⟩:∃ N,(dst (s.data.toList.take k)).2.2=N:=⟨_,rfl⟩
  obtain⟨F,hF⟩:∃ F,(dst (s.data.toList.take k)).2.1=F:=⟨_,rfl⟩
  rw[hN] at c60
  rw[hF] at cf cc
  rw[hN,hF]
  have e1:decide ((k:Int)<=(s.size:Int))=true:=decide_eq_true (by omega)
  by_cases hpt:k=s.size∨s.data.toList[k]? = some 46
  ·obtain⟨c1,c2⟩:=cc hpt
   have HP:=hid hpt
   have hlen:(s.extract F k).size=k - F:=by rw[ByteArray.size_extract];omega
   have hmem:∀ c∈(s.extract F k).data.toList,(97<=c.toNat/\c.toNat<=122)∨c=46:=λc hc=>HH.ch c (by
    rw[bJ] at hc
    exact List.mem_of_mem_take (List.mem_of_mem_drop hc))
   obtain⟨L,hL⟩:∃ L,s.extract F k=L:=⟨_,rfl⟩
   have HL:=hid hL
   rw[hL] at hlen hmem
   have hL1:0<L.size:=by omega
   have hL20:L.size<=20:=by omega
   clear hlen
   have v0:=hmem _ (cw hL1)
   have v1:=hmem _ (cw (show L.size - 1<L.size by omega))
   have ne45:∀ c:UInt8,(97<=c.toNat/\c.toNat<=122)∨c=46->((c.toNat:Int)==45)=false:=λc h=>by
    have:¬ ((c.toNat:Int)=45):=by
     rcases h with h|h
     ·omega
     subst h;decide
    simpa using this
   have b0:=ne45 _ v0
   have b1:=ne45 _ v1
   have hcast:((L.size:Int) - 1)=((L.size - 1:Nat):Int):=by omega
   have d1:decide ((L.size:Int)<1)=false:=decide_eq_false (by omega)
   have d2:decide ((L.size:Int) > 20)=false:=decide_eq_false (by omega)
   have hFk:(F:Int)<=(k:Int):=by omega
   have hks:(k:Int)<=(s.size:Int):=by omega
   have hw1:IntKind.i64.wrap ((N:Int)+1)=(N:Int)+1:=IntWalk.i64_in _ (by omega)
   have hw2:IntKind.i64.wrap ((k:Int)+1)=(k:Int)+1:=IntWalk.i64_in _ (by omega)
   clear v0 v1 ne45 hmem cc hpt hL
   have HNF:=hid (And.intro hN hF)
   clear hN hF
   by_cases hke:k=s.size
   ·subst hke
    have e2:decide ((s.size:Int)<(s.size:Int))=false:=decide_eq_false (by omega)
    go_upto_region 9 with fail
    rw[HL]
    go_wp2_with fail
    go_round
    case rel =>
     have h2:=HH.two
     have ht:s.data.toList.take s.size=s.data.toList:=List.take_of_length_le (by simp)
     have h3:=HNF.1
     rw[ht] at h3
     exact⟨s.size+1,Nat.le_refl _,by go_num,λe=>by omega,λ_=>⟨N+1,by omega,by go_num⟩⟩
    simp[intOf]<;>omega
   have hlt:k<s.size:=by omega
   have e2:decide ((k:Int)<(s.size:Int))=true:=decide_eq_true (by omega)
   have h46:s[k]=46:=by
    rcases HP with e|e
    ·omega
    rw[eX hlt] at e
    exact Option.some.inj e
   have e3:((s[k].toNat:Int) != 46)=false:=by rw[h46];rfl
   have H46:=hid h46
   clear h46
   go_upto_region 9 with fail
   rw[HL]
   go_wp2_with fail
   go_round
   case rel =>
    refine⟨k+1,by omega,by go_num,λ_=>?_,λe=>by omega⟩
    have ht:=dj s k hlt
    have hl:(s.data.toList.take k).length=k:=by
     have:s.data.toList.length=s.size:=by simp
     simp only[List.length_take]
     omega
    rw[ht,sC,nW,if_pos H46.out,DQ,hl,HNF.1]
    exact⟨by go_num,by go_num⟩
   simp[intOf];omega
  have hlt:k<s.size:=by omega
  have hch:=HH.ch _ (cw hlt)
  have hne:s[k]≠46:=λe=>hpt (.inr (by rw[eX hlt,e]))
  have hlow:97<=s[k].toNat/\s[k].toNat<=122:=by
   rcases hch with h|h
   ·exact h
   exact absurd h hne
  have e2:decide ((k:Int)<(s.size:Int))=true:=decide_eq_true (by omega)
  have e3:((s[k].toNat:Int) != 46)=true:=by
   have:¬ ((s[k].toNat:Int)=46):=by omega
   simpa using this
  have HB:=hid (Id.jw s[k] w (by omega) (by omega))
  have HX:=hid (And.intro hN (And.intro hF hne))
  have hw2:IntKind.i64.wrap ((k:Int)+1)=(k:Int)+1:=IntWalk.i64_in _ (by omega)
  clear hch hlow hpt cc hN hF hne
  go_wp2_with fail
  refine HB.mono ?_
  rintro e w' ⟨rfl,rfl⟩
  go_wp2_with fail
  go_round
  case rel =>
   refine⟨k+1,by omega,by go_num,λ_=>?_,λe=>by omega⟩
   have ht:=dj s k hlt
   rw[ht,sC,nW,if_neg HX.2.2]
   exact⟨by rw[HX.1],by rw[HX.2.1]⟩
  simp[intOf];omega
 obtain rfl:k=s.size+1:=by omega
 obtain⟨m,hm,rfl⟩:=hen rfl
 have e1:decide (((s.size+1:Nat):Int)<=(s.size:Int))=false:=decide_eq_false (by omega)
 have e2:decide ((m:Int) >= 2)=true:=decide_eq_true (by omega)
 clear hst hen
 go_wp2_with fail
 go_ret
 exact⟨rfl,rfl⟩
structure mB (s a b:ByteArray)(L:List ByteArray):Prop where
 m:ky s a b L
 at_:∀ k (h:k<s.size),s[k]=64 ↔ k=2
 dom:wH b
theorem mB.head {s a b:ByteArray}{L:List ByteArray}(h:mB s a b L):s.extract 0 2=a:=by
 have:=kW h.m.cut
 rwa [h.m.a2] at this
theorem tN (s a b:ByteArray)(L:List ByteArray)(w:World)(h:mB s a b L) :
  cA 325 #[.string s] w (.tuple #[.string a,.string b,.bool true]):=by
 have h64:=h.m.kK.s2
 have h3:=h.m.s3
 have HA:=hid h.at_
 have HL:=hid (λW=>tS a W h.m.a2 h.m.av)
 have HD:=hid (λW=>uV b W h.dom)
 have HE:=hid (And.intro h.head h.m.e1)
 clear h
 go_enter func325,ntmps325
 go_wp2_with fail
 go_loop [5,6] (λa i=>∃ k:Nat,k<=s.size/\i = .int .i64 k/\a = .int .i64 (if k<=2 then -1 else 2)) (λ_ i=>s.size - (intOf i).toNat)
 case atStart=>exact⟨0,Nat.zero_le _,rfl,rfl⟩
 obtain⟨k,hk,rfl,rfl⟩:=hrel
 by_cases hlt:k<s.size
 ·have hat:=HA.out k hlt
  have hk1:(k:Int)<(s.size:Int):=by omega
  by_cases h2:k=2
  ·subst h2
   have e64:((s[2].toNat:Int)==64)=true:=by rw[hat.2 rfl];rfl
   clear hat
   go_wp2_with fail
   go_round
   case rel=>exact⟨3,by omega,rfl,rfl⟩
   simp[intOf];omega
  have e64:((s[k].toNat:Int)==64)=false:=by
   have:¬ ((s[k].toNat:Int)=64):=λe=>h2 (hat.1 (UInt8.toNat_inj.1 (show s[k].toNat=(64:UInt8).toNat from by
    have h:s[k].toNat=64:=by omega
    exact h)))
   simpa using this
  have hif:(if k<=2 then (-1:Int) else 2)=(if k+1<=2 then (-1:Int) else 2):=by
   rcases Nat.lt_or_ge 2 k with h|h
   ·rw[if_neg (by omega),if_neg (by omega)]
   rw[if_pos h,if_pos (by omega)]
  have HI:=hid hif
  clear hat hif
  go_wp2_with fail
  go_round
  case rel=>exact⟨k+1,by omega,by go_num,by rw[HI]⟩
  simp[intOf];omega
 obtain rfl:k=s.size:=by omega
 rw[if_neg (by omega)]
 have c1:decide ((s.size:Int) > 64)=false:=decide_eq_false (by omega)
 have h2s:(2:Int)<=(s.size:Int):=by omega
 have h3s:(3:Int)<=(s.size:Int):=by omega
 go_wp2_with fail
 rw[HE.1]
 refine(HL _).mono ?_
 rintro e w' ⟨rfl,rfl⟩
 go_wp2_with fail
 rw[HE.2]
 refine(HD _).mono ?_
 rintro e w' ⟨rfl,rfl⟩
 go_wp2_with fail
 go_quiet (fail)
 go_wp2_with fail
 rw[HE.1,HE.2]
 refine bodyPost_ret (results_tmp3 (t:=2) (u:=3) (v:=4) rfl _ _ _) rfl ?_
 exact⟨rfl,rZ.drewN _⟩
theorem rf (s a b:ByteArray)(L:List ByteArray)(w:World)(h:mB s a b L) :
  cA 297 #[.string s] w (.bool true):=by
 go_enter func297,ntmps297
 go_wp2_with fail
 refine uu (tN s a b L w h) λw' f=>?_
 go_wp2_with fail
 go_ret
 exact⟨rfl,f⟩
theorem Ba (s a b:ByteArray)(L:List ByteArray)(w:World)(h:mB s a b L) :
  cA 258 #[.string s] w (.tuple #[.string s,.int .i64 0]):=by
 have h64:=h.m.kK.s2
 have h3:=h.m.s3
 have HA:=hid h.at_
 have hlow:∀ c∈(s.extract 2 s.size).data.toList,¬ (65<=c.toNat/\c.toNat<=90):=λc hc=>by
  have hx:(s.extract 2 s.size).data.toList=64::b.data.toList:=by
   rw[bJ,List.take_of_length_le (by simp),h.m.cut]
   have ha:=h.m.a2
   have hl:a.data.toList.length=2:=by simpa using ha
   rw[List.drop_append_of_le_length (by omega),List.drop_of_length_le (by omega),List.nil_append]
  rw[hx] at hc
  rcases List.mem_cons.1 hc with rfl|hc
  ·decide
  exact h.m.low c hc
 have HF:=hid (λW=>xn (s.extract 2 s.size) W (by have:=gU s 2 s.size;omega) hlow)
 have HI:=hid (λW=>rf s a b L W h)
 have HN:=hid (dF s w h.m.kK)
 have hcat:s.extract 0 2++s.extract 2 s.size=s:=by
  apply gC
  rw[ByteArray.data_append,Array.toList_append,bJ,bJ,List.drop_zero,List.take_of_length_le (by simp:s.data.toList.length<=s.size),List.take_append_drop]
 have HCat:=hid hcat
 clear h hlow hcat
 go_enter func258,ntmps258
 go_wp2_with fail
 refine uu HN λw1 f1=>?_
 go_wp2_with fail
 go_loop [6,7] (λa i=>∃ k:Nat,k<=s.size/\i = .int .i64 k/\a = .int .i64 (if k<=2 then (s.size:Int) else 2)) (λ_ i=>s.size - (intOf i).toNat)
 case atStart=>exact⟨0,Nat.zero_le _,rfl,rfl⟩
 obtain⟨k,hk,rfl,rfl⟩:=hrel
 by_cases hlt:k<s.size
 ·have hat:=HA.out k hlt
  have hk1:(k:Int)<(s.size:Int):=by omega
  by_cases h2:k=2
  ·subst h2
   have e64:((s[2].toNat:Int)==64)=true:=by rw[hat.2 rfl];rfl
   clear hat
   go_wp2_with fail
   go_round
   case rel=>exact⟨3,by omega,rfl,rfl⟩
   simp[intOf];omega
  have e64:((s[k].toNat:Int)==64)=false:=by
   have:¬ ((s[k].toNat:Int)=64):=λe=>h2 (hat.1 (UInt8.toNat_inj.1 (show s[k].toNat=(64:UInt8).toNat from by
    have h:s[k].toNat=64:=by omega
    exact h)))
   simpa using this
  have hif:(if k<=2 then (s.size:Int) else 2)=(if k+1<=2 then (s.size:Int) else 2):=by
   rcases Nat.lt_or_ge 2 k with h|h
   ·rw[if_neg (by omega),if_neg (by omega)]
   rw[if_pos h,if_pos (by omega)]
  have HIf:=hid hif
  obtain⟨A,hA⟩:∃ A:Int,(if k<=2 then (s.size:Int) else 2)=A:=⟨_,rfl⟩
  rw[hA] at HIf ⊢
  clear hat hif hA
  go_wp2_with fail
  go_round
  case rel=>exact⟨k+1,by omega,by go_num,by rw[HIf]⟩
  simp[intOf];omega
 obtain rfl:k=s.size:=by omega
 rw[if_neg (by omega)]
 have h2s:(2:Int)<=(s.size:Int):=by omega
 have z1:=gU s 0 2
 have z2:=gU s 2 s.size
 have c1:∀ W,(Op.stringOp .add (s.extract 0 2) (s.extract 2 s.size)).run prog W = .ok (.string s) W:=λW=>by rw[run_string_add_sum W _ _ (by omega),HCat]
 go_wp2_with fail
 go_region_held3 (λ_=>True) (first|exact True.intro|go_keep)
  (first|(go_at_call 296;refine uu (HF _) λw2 f2=>?_;have hS:=True.intro))
 have F2:=hid (f1.trans ((Fr.refl [] _).drew.trans f2))
 clear f1 f2
 go_wp2_with fail
 refine uu (HI _) λw3 f3=>?_
 go_wp2_with fail
 go_ret2
 exact⟨rfl,F2.trans f3⟩
open Go.RowKit Fm Ct Fd
theorem kA (w:World)(a b:UInt8):(convert 69 9 (.slice (some ⟨w.heap.size,0,none⟩) 2 2)).run prog (w.alloc (.cells #[.int .u8 a.toNat,.int .u8 b.toNat] 5)) = .ok (.string ⟨#[a,b]⟩) (w.alloc (.cells #[.int .u8 a.toNat,.int .u8 b.toNat] 5)) :=
 cE _ w.heap.size 0 2 2 ⟨#[a,b]⟩ rfl λj x hx=>by
  have hn:=Holds.new w 5 #[.int .u8 a.toNat,.int .u8 b.toNat]
  rw[Nat.zero_add,hn.cell j]
  match j,hx with
  | 0,hx=>simp at hx;subst hx;rfl
  | 1,hx=>simp at hx;subst hx;rfl
  | j+2,hx=>simp at hx
theorem EB (w:World):cA 327 #[.int .i64 19] w (.string ⟨#[49,57]⟩):=by
 have hc:(convert 69 9 (.slice (some ⟨w.heap.size,0,none⟩) 2 2)).run prog (w.alloc (.cells #[.int .u8 49,.int .u8 57] 5)) = .ok (.string ⟨#[49,57]⟩) (w.alloc (.cells #[.int .u8 49,.int .u8 57] 5)):=kA w 49 57
 go_enter func327,ntmps327
 go_wp2_with fail
 go_ret
 exact⟨rfl,rZ.alloc _⟩
theorem zH (w:World):cA 327 #[.int .i64 1999] w (.string ⟨#[57,57]⟩):=by
 have hc:(convert 69 9 (.slice (some ⟨w.heap.size,0,none⟩) 2 2)).run prog (w.alloc (.cells #[.int .u8 57,.int .u8 57] 5)) = .ok (.string ⟨#[57,57]⟩) (w.alloc (.cells #[.int .u8 57,.int .u8 57] 5)):=kA w 57 57
 go_enter func327,ntmps327
 go_wp2_with fail
 go_ret
 exact⟨rfl,rZ.alloc _⟩
theorem EC (w:World):cA 327 #[.int .i64 12] w (.string ⟨#[49,50]⟩):=by
 have hc:(convert 69 9 (.slice (some ⟨w.heap.size,0,none⟩) 2 2)).run prog (w.alloc (.cells #[.int .u8 49,.int .u8 50] 5)) = .ok (.string ⟨#[49,50]⟩) (w.alloc (.cells #[.int .u8 49,.int .u8 50] 5)):=kA w 49 50
 go_enter func327,ntmps327
 go_wp2_with fail
 go_ret
 exact⟨rfl,rZ.alloc _⟩
theorem EA (w:World):cA 327 #[.int .i64 31] w (.string ⟨#[51,49]⟩):=by
 have hc:(convert 69 9 (.slice (some ⟨w.heap.size,0,none⟩) 2 2)).run prog (w.alloc (.cells #[.int .u8 51,.int .u8 49] 5)) = .ok (.string ⟨#[51,49]⟩) (w.alloc (.cells #[.int .u8 51,.int .u8 49] 5)):=kA w 51 49
 go_enter func327,ntmps327
 go_wp2_with fail
 go_ret
 exact⟨rfl,rZ.alloc _⟩
theorem yj (w:World):cA 346 #[.int .i64 1999,.int .i64 12] w (.int .i64 31):=by
 go_enter func346,ntmps346
 go_wp2_with fail
 go_ret
 exact⟨rfl,rZ.alloc _⟩
theorem ph {w w':World}{g:Nat}(h:Holds w g 358 dC)(f:Fr [] w w'):Fr [] w w'/\w'.cell? ⟨g,0,none⟩=some (.int .i64 1999)/\w'.cell? ⟨g,1,none⟩=some (.int .i64 12)/\w'.cell? ⟨g,2,none⟩=some (.int .i64 31) :=
 have c:=h.fr f (by simp)
 ⟨f,c.cell 0,c.cell 1,c.cell 2⟩
theorem uA (w:World):cA 326 #[.agg dC] w (.bool true):=by
 obtain⟨W,hW⟩:∃ W,W=w.alloc (.cells dC 358):=⟨_,rfl⟩
 have F0:=hid (show Fr [] w W by rw[hW];exact rZ.alloc _)
 have HB:=hid (show Holds W w.heap.size 358 dC by rw[hW];exact Holds.new _ _ _)
 go_enter func326,ntmps326
 go_wp2_with fail
 rw[<-hW]
 clear hW
 have hS0:=ph HB (Fr.refl [] W).drew
 go_region_held3 (λw'=>Fr [] W w'/\w'.cell? ⟨w.heap.size,0,none⟩=some (.int .i64 1999)/\w'.cell? ⟨w.heap.size,1,none⟩=some (.int .i64 12)/\w'.cell? ⟨w.heap.size,2,none⟩=some (.int .i64 31)) (first|with_reducible exact hS|with_reducible exact hS0|go_keep)
  (first|(go_at_call 346;refine uu (yj _) λw2 f2=>?_;have hS:=ph HB (by first|exact(Fr.refl [] W).drew.trans f2|exact((Fr.refl [] W).drewN _).trans f2|exact hS.1.trans f2)))
 go_wp2_with fail
 go_ret
 exact⟨rfl,F0.trans hS.1⟩
def GM (A B C D:ByteArray):ByteArray:=A++B++⟨#[45]⟩++C++⟨#[45]⟩++D
theorem DT:GM ⟨#[49,57]⟩ ⟨#[57,57]⟩ ⟨#[49,50]⟩ ⟨#[51,49]⟩=la:=by decide +kernel
theorem qZ (w:World):cA 299 #[.agg dC] w (.string la):=by
 obtain⟨W,hW⟩:∃ W,W=w.alloc (.cells dC 358):=⟨_,rfl⟩
 have F0:=hid (show Fr [] w W by rw[hW];exact rZ.alloc _)
 have HB:=hid (show Holds W w.heap.size 358 dC by rw[hW];exact Holds.new _ _ _)
 have T1:=hid EB
 have T2:=hid zH
 have T3:=hid EC
 have T4:=hid EA
 have HE:=hid DT
 obtain⟨A,hA⟩:∃ A:ByteArray,⟨#[49,57]⟩=A:=⟨_,rfl⟩
 obtain⟨B,hB⟩:∃ B:ByteArray,⟨#[57,57]⟩=B:=⟨_,rfl⟩
 obtain⟨C,hC⟩:∃ C:ByteArray,⟨#[49,50]⟩=C:=⟨_,rfl⟩
 obtain⟨D,hD⟩:∃ D:ByteArray,⟨#[51,49]⟩=D:=⟨_,rfl⟩
 have zA:A.size=2:=by rw[<-hA];rfl
 have zB:B.size=2:=by rw[<-hB];rfl
 have zC:C.size=2:=by rw[<-hC];rfl
 have zD:D.size=2:=by rw[<-hD];rfl
 rw[hA] at T1 HE
 rw[hB] at T2 HE
 rw[hC] at T3 HE
 rw[hD] at T4 HE
 clear hA hB hC hD
 have q0:=HB.cell 0
 have q1:=HB.cell 1
 have q2:=HB.cell 2
 simp at q0 q1 q2
 go_enter func299,ntmps299
 go_wp2_with fail
 rw[<-hW]
 clear hW
 go_wp2_with fail
 refine uu (uA _) λw1 f1=>?_
 have HB1:=hid (HB.fr f1 (by simp))
 have F1:=hid (F0.trans f1)
 clear q0 q1 q2 f1
 have q0:=HB1.cell 0
 have q1:=HB1.cell 1
 have q2:=HB1.cell 2
 simp at q0 q1 q2
 go_upto_region 5 with fail
 have HW:=hid (show IntKind.i64.wrap 19=19 by rw[IntKind.wrap_i64];rfl)
 have hS0:=ph HB1 (Fr.refl [] w1).drew
 go_region_held3 (λw'=>Fr [] w1 w'/\w'.cell? ⟨w.heap.size,0,none⟩=some (.int .i64 1999)/\w'.cell? ⟨w.heap.size,1,none⟩=some (.int .i64 12)/\w'.cell? ⟨w.heap.size,2,none⟩=some (.int .i64 31)) (first|with_reducible exact hS|with_reducible exact hS0|go_keep)
  (first|(go_at_call 327;(try rw[HW.out]);(first|with_reducible refine(T1.out _).mono ?_|with_reducible refine(T2.out _).mono ?_);rintro e w2 ⟨rfl,f2⟩;have hS:=ph HB1.out (by first|exact(Fr.refl [] w1).drew.trans f2|exact((Fr.refl [] w1).drewN _).trans f2|exact hS.1.trans f2)))
 have HB2:=hid (HB1.fr hS.1 (by simp))
 have F2:=hid (F1.trans hS.1)
 clear hS hS0 q0 q1 q2
 go_upto_region 6 with fail
 have hS0:=ph HB2 (Fr.refl [] w2).drew
 go_region_held3 (λw'=>Fr [] w2 w'/\w'.cell? ⟨w.heap.size,0,none⟩=some (.int .i64 1999)/\w'.cell? ⟨w.heap.size,1,none⟩=some (.int .i64 12)/\w'.cell? ⟨w.heap.size,2,none⟩=some (.int .i64 31)) (first|with_reducible exact hS|with_reducible exact hS0|go_keep)
  (first|(go_at_call 327;(first|with_reducible refine(T3.out _).mono ?_|with_reducible refine(T4.out _).mono ?_);rintro e w3 ⟨rfl,f3⟩;have hS:=ph HB2.out (by first|exact(Fr.refl [] w2).drew.trans f3|exact((Fr.refl [] w2).drewN _).trans f3|exact hS.1.trans f3)))
 go_wp2_with fail
 go_ret
 exact⟨mI HE,F2.trans hS.1⟩
theorem Al (W:World)(tmps:Array Value)(g:Nat)(vb:Value)(hp:Holds W g 358 dC)(h2:tmps[2]?.getD undef = .pointer (some ⟨g,0,none⟩))(h3:tmps[3]?.getD undef=vb) :
  (results f260 tmps).run prog W = .ok (.tuple #[.agg dC,vb]) W:=by
 have hr:f260.results=#[.cell 2 358,.tmp 3]:=rfl
 have q0:=hp.cell 0
 have q1:=hp.cell 1
 have q2:=hp.cell 2
 simp at q0 q1 q2
 simp[results,h2,h3,go_sem,q0,q1,q2]
def bt:Nat->Int
 | 0=>49|1=>57|2=>57|3=>57|4=>45|5=>49|6=>50|7=>45|8=>51|_=>49
def yt:Nat->Int
 | 0=>0|1=>1|2=>19|3=>199|_=>1999
def mt:Nat->Int
 | 0=>0|1=>0|2=>0|3=>0|4=>0|5=>0|6=>1|_=>12
def dt:Nat->Int
 | 9=>3|10=>31|_=>0
theorem uY:∀ k:Fin 10,(la.data.toList[k.val]?).map (λc=>(c.toNat:Int))=some (bt k.val):=by decide +kernel
theorem DU (k:Nat)(h:k<la.size):(la[k].toNat:Int)=bt k:=by
 have hk:k<10:=by have:=ko.1;omega
 have:=uY ⟨k,hk⟩
 simp only at this
 rw[eX h] at this
 exact Option.some.inj this
theorem ow (v:ByteArray)(w:World)(h:wI v) :
  Calls prog 260 #[.string v] w λe w'=>(∃ d,e = .returned (.tuple #[d,.int .i64 0]))/\Fr [] w w':=by
 obtain⟨rfl⟩:=h
 have hz:=ko.1
 have HAt:=hid DU
 have HS:=hid qZ
 obtain⟨W,hW⟩:∃ W,W=(w.alloc (.cells #[.int .i64 0,.int .i64 0,.int .i64 0] 358)).alloc (.cells #[.int .i64 0,.int .i64 0,.int .i64 0] 358):=⟨_,rfl⟩
 have F0:=hid (show Fr [] w W by rw[hW];exact(rZ.alloc _).alloc _)
 have B1:=hid (show Holds W w.heap.size 358 #[.int .i64 0,.int .i64 0,.int .i64 0] by rw[hW];exact(Holds.new _ _ _).alloc _)
 have B2:=hid (show Holds W (w.heap.size+1) 358 #[.int .i64 0,.int .i64 0,.int .i64 0] by rw[hW];exact aE (by simp))
 generalize la=s at *
 have e10:((s.size:Int) != 10)=false:=by rw[hz];rfl
 go_enter func260,ntmps260
 go_wp2_with fail
 rw[<-hW]
 clear hW
 go_loopw [5] (λi wr=>∃ k:Nat,k<=10/\i = .int .i64 k/\Holds wr (w.heap.size+1) 358 #[.int .i64 (yt k),.int .i64 (mt k),.int .i64 (dt k)]/\Holds wr w.heap.size 358 #[.int .i64 0,.int .i64 0,.int .i64 0]/\Fr [] w wr) (λi _=>10 - (intOf i).toNat)
 case atStart=>exact⟨0,Nat.zero_le _,rfl,B2,B1,F0⟩
 obtain⟨k,hk,rfl,b2,b1,fr⟩:=hrel
 have hne:w.heap.size≠w.heap.size+1:=by omega
 have D1:=hid (λ(i:Nat) (u:Value)=>b1.far (p:=⟨w.heap.size+1,i,none⟩) hne u)
 have D2:=hid b2
 have D0:=hid b1
 have FR:=hid (λi u=>Ev.Fr.aw (p:=⟨w.heap.size+1,i,none⟩) fr (by simp) u)
 have FF:=hid fr
 have d0:=b2.cell 0
 have d1:=b2.cell 1
 have d2:=b2.cell 2
 have y0:=b2.frozen 0
 have y1:=b2.frozen 1
 have y2:=b2.frozen 2
 have l2:=b2.lt
 simp at d0 d1 d2
 clear b1 b2 fr hne
 obtain rfl|rfl|rfl|rfl|rfl|rfl|rfl|rfl|rfl|rfl|rfl:k=0∨k=1∨k=2∨k=3∨k=4∨k=5∨k=6∨k=7∨k=8∨k=9∨k=10:=by omega
 ·have hb:(s[0].toNat:Int)=49:=HAt.out 0 (by omega)
  simp only[yt,mt,dt] at d0 d1 d2
  go_wp2_with fail
  go_roundw
  case rel=>exact⟨1,by omega,rfl,by simpa[yt,mt,dt] using D2.set 0 (.int .i64 1),D1.out 0 _,FR.out 0 _⟩
  simp[intOf]
 ·have hb:(s[1].toNat:Int)=57:=HAt.out 1 (by omega)
  simp only[yt,mt,dt] at d0 d1 d2
  go_wp2_with fail
  go_roundw
  case rel=>exact⟨2,by omega,rfl,by simpa[yt,mt,dt] using D2.set 0 (.int .i64 19),D1.out 0 _,FR.out 0 _⟩
  simp[intOf]
 ·have hb:(s[2].toNat:Int)=57:=HAt.out 2 (by omega)
  simp only[yt,mt,dt] at d0 d1 d2
  go_wp2_with fail
  go_roundw
  case rel=>exact⟨3,by omega,rfl,by simpa[yt,mt,dt] using D2.set 0 (.int .i64 199),D1.out 0 _,FR.out 0 _⟩
  simp[intOf]
 ·have hb:(s[3].toNat:Int)=57:=HAt.out 3 (by omega)
  simp only[yt,mt,dt] at d0 d1 d2
  go_wp2_with fail
  go_roundw
  case rel=>exact⟨4,by omega,rfl,by simpa[yt,mt,dt] using D2.set 0 (.int .i64 1999),D1.out 0 _,FR.out 0 _⟩
  simp[intOf]
 ·have hb:(s[4].toNat:Int)=45:=HAt.out 4 (by omega)
  simp only[yt,mt,dt] at d0 d1 d2
  go_wp2_with fail
  go_roundw
  case rel=>exact⟨5,by omega,rfl,by simpa[yt,mt,dt] using D2.out,D0.out,FF.out⟩
  simp[intOf]
 ·have hb:(s[5].toNat:Int)=49:=HAt.out 5 (by omega)
  simp only[yt,mt,dt] at d0 d1 d2
  go_wp2_with fail
  go_roundw
  case rel=>exact⟨6,by omega,rfl,by simpa[yt,mt,dt] using D2.set 1 (.int .i64 1),D1.out 1 _,FR.out 1 _⟩
  simp[intOf]
 ·have hb:(s[6].toNat:Int)=50:=HAt.out 6 (by omega)
  simp only[yt,mt,dt] at d0 d1 d2
  go_wp2_with fail
  go_roundw
  case rel=>exact⟨7,by omega,rfl,by simpa[yt,mt,dt] using D2.set 1 (.int .i64 12),D1.out 1 _,FR.out 1 _⟩
  simp[intOf]
 ·have hb:(s[7].toNat:Int)=45:=HAt.out 7 (by omega)
  simp only[yt,mt,dt] at d0 d1 d2
  go_wp2_with fail
  go_roundw
  case rel=>exact⟨8,by omega,rfl,by simpa[yt,mt,dt] using D2.out,D0.out,FF.out⟩
  simp[intOf]
 ·have hb:(s[8].toNat:Int)=51:=HAt.out 8 (by omega)
  simp only[yt,mt,dt] at d0 d1 d2
  go_wp2_with fail
  go_roundw
  case rel=>exact⟨9,by omega,rfl,by simpa[yt,mt,dt] using D2.set 2 (.int .i64 3),D1.out 2 _,FR.out 2 _⟩
  simp[intOf]
 ·have hb:(s[9].toNat:Int)=49:=HAt.out 9 (by omega)
  simp only[yt,mt,dt] at d0 d1 d2
  go_wp2_with fail
  go_roundw
  case rel=>exact⟨10,by omega,rfl,by simpa[yt,mt,dt] using D2.set 2 (.int .i64 31),D1.out 2 _,FR.out 2 _⟩
  simp[intOf]
 simp only[yt,mt,dt] at d0 d1 d2 D2
 have e11:¬ ((10:Nat):Int)<(s.size:Int):=by omega
 go_wp2_with fail
 refine uu (HS _) λw3 f3=>?_
 have F3:=hid (FF.trans f3)
 have C2:=hid (D2.fr f3 (by simp))
 have C1:=hid (D0.fr f3 (by simp))
 clear d0 d1 d2 y0 y1 y2 l2 f3
 have d0:=C2.cell 0
 have d1:=C2.cell 1
 have d2:=C2.cell 2
 have e0:=C1.cell 0
 have e1:=C1.cell 1
 have e2:=C1.cell 2
 have y0:=C1.frozen 0
 have y1:=C1.frozen 1
 have y2:=C1.frozen 2
 have l1:=C1.lt
 simp at d0 d1 d2 e0 e1 e2
 go_wp2_with fail
 have hh:Holds (((w3.setCell ⟨w.heap.size,0,none⟩ (.int .i64 1999)).setCell ⟨w.heap.size,1,none⟩ (.int .i64 12)).setCell ⟨w.heap.size,2,none⟩ (.int .i64 31)) w.heap.size 358 dC:=by
  have:=((C1.set 0 (.int .i64 1999)).set 1 (.int .i64 12)).set 2 (.int .i64 31)
  simpa using this
 exact bodyPost_ret (Al _ _ w.heap.size _ hh rfl rfl) rfl ⟨⟨_,rfl⟩,Ev.Fr.aw (Ev.Fr.aw (Ev.Fr.aw F3 (Nat.le_refl _) _) (Nat.le_refl _) _) (Nat.le_refl _) _⟩
open Go.RowKit Fm Ct Fd
inductive ku:F->Prop
 | clean (k l:Nat) (v:ByteArray) (hk:k=1∨k=2∨k=6) (n:qK v):ku ⟨k,l,v⟩
 | tel (l:Nat) (v d:ByteArray) (h:mz v d):ku ⟨3,l,v⟩
 | mail (l:Nat) (s a b:ByteArray) (L:List ByteArray) (h:mB s a b L):ku ⟨4,l,s⟩
 | day (l:Nat) (v:ByteArray) (n:qK v) (h:wI v):ku ⟨5,l,v⟩
theorem iB (W:World)(tmps:Array Value)(g:Nat)(f:F)(vb:Value)(hp:Holds W g 209 (fcs f).toArray)(h2:tmps[2]?.getD undef = .pointer (some ⟨g,0,none⟩))(h3:tmps[3]?.getD undef=vb) :
  (results f228 tmps).run prog W = .ok (.tuple #[.agg (fcs f).toArray,vb]) W:=by
 have hr:f228.results=#[.cell 2 209,.tmp 3]:=rfl
 have q0:=hp.cell 0
 have q1:=hp.cell 1
 have q2:=hp.cell 2
 simp at q0 q1 q2
 simp[results,h2,h3,go_sem,q0,q1,q2]
theorem iN (f:F)(w:World)(h:iu f)(hv:ku f) :
  cA 228 #[.agg (fcs f).toArray] w (.tuple #[.agg (fcs f).toArray,.int .i64 0]):=by
 obtain⟨W,hW⟩:∃ W,W=(w.alloc (.cells (fcs f).toArray 209)).alloc (.cells #[.int .i64 0,.int .i64 0,.string ⟨#[]⟩] 209):=⟨_,rfl⟩
 have f0:Fr [] w W:=by rw[hW];exact(rZ.alloc _).alloc _
 have b1:Holds W w.heap.size 209 (fcs f).toArray:=by rw[hW];exact(Holds.new _ _ _).alloc _
 have b2:Holds W (w.heap.size+1) 209 #[.int .i64 0,.int .i64 0,.string ⟨#[]⟩]:=by rw[hW];exact aE (by simp)
 have hlab:=h.lab
 have hl3:=h.l3
 clear h
 obtain⟨fk,fl,fv⟩:=f
 have HV:Hid (∀ W,Calls prog (if fk=3 then 257 else if fk=4 then 258 else 259) #[.string fv] W λe w'=>e = .returned (.tuple #[.string fv,.int .i64 0])/\Fr [] W w'):=by
  cases hv with
  | clean k l v hk n =>
   rw[if_neg (by omega),if_neg (by omega)]
   exact hid (λW=>dF fv W n)
  | tel l v d h=>exact hid (λW=>CJ fv d W h)
  | mail l s a b L h=>exact hid (λW=>Ba fv a b L W h)
  | day l v n h=>exact hid (λW=>dF fv W n)
 have HD:Hid (fk=5->∀ W,Calls prog 260 #[.string fv] W λe w'=>(∃ v,e = .returned (.tuple #[v,.int .i64 0]))/\Fr [] W w'):=by
  cases hv with
  | clean k l v hk n=>exact hid λe=>by omega
  | tel=>exact hid λe=>by omega
  | mail=>exact hid λe=>by omega
  | day l v n h=>exact hid (λ_ W=>ow fv W h)
 have hkl:(fk=3/\(fl=0∨fl=1∨fl=2∨fl=3))∨(fk=4/\(fl=0∨fl=1∨fl=2))∨((fk=1∨fk=2∨fk=6∨fk=5)/\fl=0):=by
  simp only[lab,Bool.or_eq_true,Bool.and_eq_true,beq_iff_eq] at hlab
  cases hv<;>omega
 try simp only at b1 b2 hW
 clear hv hlab hl3
 have q0:=b1.cell 0
 have q1:=b1.cell 1
 have q2:=b1.cell 2
 simp at q0 q1 q2
 rcases hkl with⟨rfl,rfl|rfl|rfl|rfl⟩|⟨rfl,rfl|rfl|rfl⟩|⟨rfl|rfl|rfl|rfl,rfl⟩
 all_goals
  simp only[Nat.reduceEqDiff,if_true,if_false] at HV
  go_enter func228,ntmps228
  go_wp2_with fail
  rw[<-hW]
  clear hW
  refine uu (HV.out W) λw2 f2=>?_
  have F2:=hid (f0.trans f2)
  have c1:=b1.fr f2 (by simp)
  have c2:=b2.fr f2 (by simp)
  clear q0 q1 q2 b1 b2 f2
  have q0:=c1.cell 0
  have q1:=c1.cell 1
  have q2:=c1.cell 2
  have d0:=c2.cell 0
  have d1:=c2.cell 1
  have d2:=c2.cell 2
  have y0:=c2.frozen 0
  have y1:=c2.frozen 1
  have y2:=c2.frozen 2
  have l1:=c1.lt
  have l2:=c2.lt
  simp at q0 q1 q2 d0 d1 d2
  first
   | (go_wp2_with fail
      exact bodyPost_ret (iB _ _ (w.heap.size+1) ⟨_,_,fv⟩ _ (fJ ⟨_,_,fv⟩ c2) rfl rfl) rfl ⟨rfl,jI F2.out (by omega)⟩)
   | (go_wp2_with fail
      refine(HD.out (by first|rfl|trivial) _).mono ?_
      rintro e w3 ⟨⟨vd,rfl⟩,f3⟩
      have F3:=hid (F2.trans f3)
      have c1:=c1.fr f3 (by simp)
      have c2:=c2.fr f3 (by simp)
      clear q0 q1 q2 d0 d1 d2 y0 y1 y2 l1 l2 f3
      have q0:=c1.cell 0
      have q1:=c1.cell 1
      have q2:=c1.cell 2
      have d0:=c2.cell 0
      have d1:=c2.cell 1
      have d2:=c2.cell 2
      have y0:=c2.frozen 0
      have y1:=c2.frozen 1
      have y2:=c2.frozen 2
      have l1:=c1.lt
      have l2:=c2.lt
      simp at q0 q1 q2 d0 d1 d2
      go_wp2_with fail
      exact bodyPost_ret (iB _ _ (w.heap.size+1) ⟨5,0,fv⟩ _ (fJ ⟨5,0,fv⟩ c2) rfl rfl) rfl ⟨rfl,jI F3.out (by omega)⟩)
theorem dN (f:F)(w:World)(h:iu f)(hv:ku f) :
  cA 185 #[.agg (fcs f).toArray] w (.bool true):=by
 obtain⟨W,hW⟩:∃ W,W=w.alloc (.cells (fcs f).toArray 209):=⟨_,rfl⟩
 have f0:Fr [] w W:=by rw[hW];exact rZ.alloc _
 have b1:Holds W w.heap.size 209 (fcs f).toArray:=by rw[hW];exact Holds.new _ _ _
 have HC:=hid (iN f W h hv)
 clear h hv
 obtain⟨fk,fl,fv⟩:=f
 have q0:=b1.cell 0
 have q1:=b1.cell 1
 have q2:=b1.cell 2
 simp at q0 q1 q2
 go_enter func185,ntmps185
 go_wp2_with fail
 rw[<-hW]
 clear hW
 go_wp2_with fail
 refine uu HC λw2 f2=>?_
 have c1:=b1.fr f2 (by simp)
 clear q0 q1 q2
 have q0:=c1.cell 0
 have q1:=c1.cell 1
 have q2:=c1.cell 2
 have l1:=c1.lt
 simp at q0 q1 q2
 go_wp2_with fail
 go_ret
 exact⟨rfl,(f0.trans f2).trans (rZ.alloc _)⟩
def tp:List Value:=[.string (kT 0),.string (kT 1),.string (kT 2),.string (kT 3),.string (kT 4),.string (kT 5),.string (kT 6)]
def pX:List Value:=[.string (lT 0),.string (lT 1),.string (lT 2),.string (lT 3)]
theorem wK (w:World):Calls prog 183 #[] w λe w'=>e = .returned (.slice (some ⟨w.heap.size,0,none⟩) 7 7)/\w'=w.alloc (.cells tp.toArray 9):=by
 go_enter func183,ntmps183
 go_wp2
 go_ret
 exact⟨rfl,by congr 2⟩
theorem uE (w:World):Calls prog 184 #[] w λe w'=>e = .returned (.slice (some ⟨w.heap.size,0,none⟩) 4 4)/\w'=w.alloc (.cells pX.toArray 9):=by
 go_enter func184,ntmps184
 go_wp2
 go_ret
 exact⟨rfl,by congr 2⟩
theorem tm {k:Nat}(h:k<=6)(w:World):(w.alloc (.cells tp.toArray 9)).cell? ⟨w.heap.size,k,none⟩=some (.string (kT k)):=by
 rw[(Holds.new w 9 tp.toArray).cell k]
 obtain rfl|rfl|rfl|rfl|rfl|rfl|rfl:k=0∨k=1∨k=2∨k=3∨k=4∨k=5∨k=6:=by omega
 all_goals rfl
theorem sn {l:Nat}(h:l<=3)(w:World):(w.alloc (.cells pX.toArray 9)).cell? ⟨w.heap.size,l,none⟩=some (.string (lT l)):=by
 rw[(Holds.new w 9 pX.toArray).cell l]
 obtain rfl|rfl|rfl|rfl:l=0∨l=1∨l=2∨l=3:=by omega
 all_goals rfl
theorem qM (w:World):Calls prog 183 #[] w λe w'=>∃ b,e = .returned (.slice (some ⟨b,0,none⟩) 7 7)/\(∀ k,k<=6->w'.cell? ⟨b,k,none⟩=some (.string (kT k)))/\b<w'.heap.size/\Fr [] w w' :=
 (wK w).mono λ_ _ ⟨h1,h2⟩=>⟨_,h1,λ_ hk=>by rw[h2];exact tm hk w,by rw[h2];simp,by rw[h2];exact rZ.alloc _⟩
theorem o9 (w:World):Calls prog 184 #[] w λe w'=>∃ b,e = .returned (.slice (some ⟨b,0,none⟩) 4 4)/\(∀ l,l<=3->w'.cell? ⟨b,l,none⟩=some (.string (lT l)))/\b<w'.heap.size/\Fr [] w w' :=
 (uE w).mono λ_ _ ⟨h1,h2⟩=>⟨_,h1,λ_ hk=>by rw[h2];exact sn hk w,by rw[h2];simp,by rw[h2];exact rZ.alloc _⟩
end Rf
