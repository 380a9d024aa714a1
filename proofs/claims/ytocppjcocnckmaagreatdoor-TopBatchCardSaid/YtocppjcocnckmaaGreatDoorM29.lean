/- Walks. -/
import Derived.Test.YtocppjcocnckmaaGreatDoorM18
import Derived.Test.YtocppjcocnckmaaGreatDoorM21
import Derived.Deep.RegionHeld3
set_option maxRecDepth 100000
set_option maxHeartbeats 8000000
set_option linter.all false
open Go.Lib (hid)
namespace Go.Proofs.YtocppjcocnckmaaGreatDoor
open Go.Proofs.Tryz
abbrev cA (f:FuncId) (a:Array Value) (w:World) (r:Value):Prop:=Calls prog f a w fun e w'=>e = .returned r/\Fr [] w w'
namespace Fd
open Go.RowKit Fm Ct
structure qK (v:ByteArray):Prop where
 s1:1<=v.size
 s2:v.size<=64
 vis:∀ c∈v.data.toList,32<=c.toNat/\c.toNat<=126
 first:¬ ((v[0].toNat:Int)=32)
 last:¬ ((v[v.size - 1].toNat:Int)=32)
 dbl:∀ (j:Nat) (h:j+1<v.size),(v[j+1].toNat:Int)=32->¬ ((v[j].toNat:Int)=32)
 ok:Lib.validD v.data.toList=true
theorem dF (v:ByteArray)(w:World)(h:qK v)(hG:Sh.Gl w) :
  cA 353 #[.string v] w (.tuple #[.string v,.int .i64 0]):=by
 obtain⟨i5,hi,hz0,hz1,hz2⟩:=info_parts info5
 have h1:=h.s1
 have h2:=h.s2
 go_enter func353,ntmps353
 go_wp2_with fail
 refine uu (Sh.zF v w hG (by omega) h.ok) λw1 f00=>?_
 have F0:=hid f00
 clear f00 hG
 go_wp2_with fail
 go_loop [13] (λi=>∃ k:Nat,k<=v.size/\i = .int .i64 k) (λi=>v.size - (intOf i).toNat)
 case atStart=>exact⟨0,Nat.zero_le _,rfl⟩
 obtain⟨k,hk,rfl⟩:=hrel
 by_cases hlt:k<v.size
 ·have hv:=h.vis _ (cw hlt)
  have a1:¬ ((v[k].toNat:Int)<32):=by omega
  have a2:¬ ((v[k].toNat:Int)=127):=by omega
  have d1:decide ((v[k].toNat:Int)<32)=false:=decide_eq_false a1
  have d2:((v[k].toNat:Int)==127)=false:=by simpa using a2
  go_wp2_with fail
  go_round
  case rel=>exact⟨k+1,by omega,by go_num⟩
  simp[intOf];omega
 obtain rfl:k=v.size:=by omega
 go_wp2_with fail
 go_loopw [5,29] (λo i wr=>∃ k:Nat,k<=v.size/\i = .int .i64 k/\Acc w1 wr o (v.data.toList.take k)/\Fr [] w1 wr) (λ_ i _=>v.size - (intOf i).toNat)
 case atStart=>exact⟨0,Nat.zero_le _,rfl,.inl ⟨rfl,rfl⟩,rZ⟩
 obtain⟨k,hk,rfl,ha,fr⟩:=hrel
 by_cases hlt:k<v.size
 ·have hv:=h.vis _ (cw hlt)
  by_cases hsp:(v[k].toNat:Int)=32
  ·obtain⟨j,rfl⟩:∃ j,k=j+1:=⟨k - 1,by
    by_cases h0:k=0
    ·subst h0;exact absurd hsp h.first
    omega⟩
   have hsz2:=h.s2
   have hj:j<v.size:=by omega
   have hd:=h.dbl j hlt hsp
   have d1:((v[j+1].toNat:Int)==32)=true:=by simpa using hsp
   have d2:((v[j].toNat:Int)==32)=false:=by simpa using hd
   have hcell:[Value.int .u8 v[j+1].toNat]=bc [v[j+1]]:=by simp[bc]
   have HC:=hid hcell
   have HT:=hid (dj v (j+1) hlt)
   have hln:(v.data.toList.take (j+1)).length=j+1:=by simp;omega
   rcases ha with⟨_,hnil⟩|⟨g,c,n,rfl,hg,hn,hr⟩
   ·rw[hnil] at hln
    simp at hln
   have hnk:n=j+1:=by rw[<-hn,hln]
   subst hnk
   have hgj:(v.data.toList.take (j+1))[j]? = some v[j]:=by
    rw[List.getElem?_take,if_pos (by omega),List.getElem?_eq_getElem (by simpa using hj)]
    rfl
   have q:wr.cell? ⟨g,j,none⟩=some (.int .u8 v[j].toNat):=hr.cell (by
    unfold bc
    rw[List.getElem?_map,hgj]
    rfl)
   have hc1:(((j+1:Nat):Int) - 1)=(j:Int):=by omega
   have hc2:(((j+1:Nat):Int)==0)=false:=by
    have:((j+1:Nat):Int)≠0:=by omega
    simpa using this
   clear hcell hsp hd hgj
   go_wp2_with (at_builtin;(refine af rfl (.tmp 50) (.tmp 54) 69 rfl i5 _ 1 underlying69 hi hz0 hz1 hz2 rfl (by decide) _ _ rfl ((Sl.row hr).fr0 ((Fr.refl [] wr).alloc _)) _ 1 1 [.int .u8 v[j+1].toNat] rfl rfl (Cells.one (Holds.new wr 5 #[.int .u8 v[j+1].toNat])) (by simp[Value.oneCell']) (by unfold maxLen;omega) (by omega) ?_;intro v3 w3 own3 hs3 hf3 ho3 hm3;obtain⟨g3,c3,rfl,rfl,hg3,r3⟩:=bV (B:=w1.heap.size) hs3 ho3 (by have:=fr.size;simp;omega) hg))
   go_roundw
   case rel=>exact⟨j+1+1,by omega,by go_num,.inr ⟨g3,c3,j+1+1,rfl,hg3,by simp;omega,by rw[HT,cF,<-HC];exact r3⟩,(fr.alloc _).step hf3 (by simpa using hg)⟩
   simp[intOf];omega
  have a1:¬ ((v[k].toNat:Int)=32):=hsp
  have d1:((v[k].toNat:Int)==32)=false:=by simpa using a1
  have hcell:[Value.int .u8 v[k].toNat]=bc [v[k]]:=by simp[bc]
  have HC:=hid hcell
  clear hcell
  have HT:=hid (dj v k hlt)
  have hln:(v.data.toList.take k).length=k:=by simp;omega
  rcases ha with⟨rfl,hnil⟩|⟨g,c,n,rfl,hg,hn,hr⟩
  ·have hk0:k=0:=by
    rw[hnil] at hln
    simpa using hln.symm
   subst hk0
   go_wp2_with (at_builtin;(refine af rfl (.tmp 50) (.tmp 54) 69 rfl i5 _ 1 underlying69 hi hz0 hz1 hz2 rfl (by decide) _ _ rfl (Sl.nil _ _ _) _ 1 1 [.int .u8 v[0].toNat] rfl rfl (Cells.one (Holds.new wr 5 #[.int .u8 v[0].toNat])) (by simp[Value.oneCell']) (by unfold maxLen;omega) (by omega) ?_;intro v3 w3 own3 hs3 hf3 ho3 hm3;obtain⟨g3,c3,rfl,rfl,hg3,r3⟩:=mM (B:=w1.heap.size) hs3 ho3 (by have:=fr.size;simp;omega) (by simp) (hm3 (by omega))))
   go_roundw
   case rel=>exact⟨1,by omega,rfl,.inr ⟨g3,c3,1,rfl,hg3,by simp;omega,by rw[HT,List.take_zero,List.nil_append,<-HC];simpa using r3⟩,(fr.alloc _).step hf3 (by simp)⟩
   simp[intOf];omega
  have hnk:n=k:=by rw[<-hn,hln]
  subst hnk
  go_wp2_with (at_builtin;(refine af rfl (.tmp 50) (.tmp 54) 69 rfl i5 _ 1 underlying69 hi hz0 hz1 hz2 rfl (by decide) _ _ rfl ((Sl.row hr).fr0 ((Fr.refl [] wr).alloc _)) _ 1 1 [.int .u8 v[n].toNat] rfl rfl (Cells.one (Holds.new wr 5 #[.int .u8 v[n].toNat])) (by simp[Value.oneCell']) (by unfold maxLen;omega) (by omega) ?_;intro v3 w3 own3 hs3 hf3 ho3 hm3;obtain⟨g3,c3,rfl,rfl,hg3,r3⟩:=bV (B:=w1.heap.size) hs3 ho3 (by have:=fr.size;simp;omega) hg))
  go_roundw
  case rel=>exact⟨n+1,by omega,by go_num,.inr ⟨g3,c3,n+1,rfl,hg3,by simp;omega,by rw[HT,cF,<-HC];exact r3⟩,(fr.alloc _).step hf3 (by simpa using hg)⟩
  simp[intOf];omega
 obtain rfl:k=v.size:=by omega
 have ht:v.data.toList.take v.size=v.data.toList:=List.take_of_length_le (by simp)
 rw[ht] at ha
 rcases ha with⟨rfl,hnil⟩|⟨g,c,n,rfl,hg,hn,hr⟩
 ·have:=congrArg List.length hnil
  rw[show v.data.toList.length=v.size by simp,List.length_nil] at this
  omega
 have hnk:n=v.size:=by rw[<-hn];simp
 subst hnk
 have hlast:v.size - 1<v.size:=by omega
 have hv:=h.vis _ (cw hlast)
 have q:wr.cell? ⟨g,v.size - 1,none⟩=some (.int .u8 v[v.size - 1].toNat):=hr.cell (by
  have:v.data.toList[v.size - 1]? = some v[v.size - 1]:=by
   rw[List.getElem?_eq_getElem (by simpa using hlast)]
   rfl
  simp[bc,this])
 have a1:¬ ((v[v.size - 1].toNat:Int)=32):=h.last
 have d1:((v[v.size - 1].toNat:Int)==32)=false:=by simpa using a1
 have hcast:((v.size:Int) - 1)=((v.size - 1:Nat):Int):=by omega
 have hconv:(convert 69 9 (.slice (some ⟨g,0,none⟩) v.size c)).run prog wr = .ok (.string v) wr:=cE wr g 0 v.size c v rfl λj x hx=>by
  rw[Nat.zero_add]
  exact hr.cell (by simp[bc,hx])
 have HV2:=hid hv
 have hgt:0<v.size:=h1
 clear hv
 have hb0:decide ((v.size:Int) > 0)=true:=decide_eq_true (by omega)
 have hb1:((v.size:Int)==0)=false:=by
  have:(v.size:Int)≠0:=by omega
  simpa using this
 have hb2:decide ((v.size:Int) > 64)=false:=decide_eq_false (by omega)
 have hcap:=hr.le
 clear hr
 go_wp2_with fail
 go_ret2
 exact⟨rfl,F0.trans fr⟩
open Go.RowKit Fm Ct
structure F where
 k:Nat
 l:Nat
 v:ByteArray
abbrev fcs (f:F):List Value:=[.int .i64 f.k,.int .i64 f.l,.string f.v]
theorem wq (f:F):(fcs f).length=3:=rfl
theorem ja (f:F):∀ u∈fcs f,u.oneCell'=true:=by
 intro u hu
 simp only[List.mem_cons,List.not_mem_nil,or_false] at hu
 rcases hu with rfl|rfl|rfl<;>rfl
theorem sx:(prog.info? 209).map (λi=>(i.zero,i.size,i.bytes))=some (some (.agg #[.int .i64 0,.int .i64 0,.string ByteArray.empty]),3,32):=by kernel_rfl
def kT (k : Nat) : ByteArray := if k = 1 then M.bs "name" else if k = 2 then M.bs "org" else if k = 3 then M.bs "tel" else if k = 4 then M.bs "mail" else if k = 5 then M.bs "day" else if k = 6 then M.bs "note" else ⟨#[]⟩
def lT (l : Nat) : ByteArray := if l = 1 then M.bs ";home" else if l = 2 then M.bs ";work" else if l = 3 then M.bs ";cell" else ⟨#[]⟩
def lab (k l:Nat):Bool:=l==0||(l==1&&(k==3||k==4))||(l==2&&(k==3||k==4))||(l==3&&k==3)
def lR (k l:Nat):ByteArray:=if lab k l then lT l else ⟨#[]⟩
def cP (k l:Nat):ByteArray:=kT k++lT l
def aL (f:F):ByteArray:=cP f.k f.l++⟨#[58]⟩++f.v
def rowOf (f:F):ByteArray:=aL f++⟨#[10]⟩
def aJ (L:List F):ByteArray:=L.foldl (λs f=>s++rowOf f) ⟨#[]⟩
theorem ie (f:F):(aL f).data.toList=(cP f.k f.l).data.toList++58::f.v.data.toList:=by simp[aL]
def uw (k l:Nat):Bool:=(cP k l).data.toList.all (λc=>decide (c≠58)&&decide (c≠10))&&decide ((cP k l).size<=9)&&decide (1<=(kT k).size)
theorem Er:∀ k:Fin 7,∀ l:Fin 4,1<=k.val->uw k.val l.val=true:=by decide +kernel
theorem Bv:∀ k:Fin 7,∀ l:Fin 4,∀ k':Fin 7,∀ l':Fin 4,1<=k.val->1<=k'.val->cP k.val l.val=cP k'.val l'.val->k=k'/\l=l':=by decide +kernel
structure iu (f:F):Prop where
 k1:1<=f.k
 k6:f.k<=6
 l3:f.l<=3
 lab:lab f.k f.l=true
 s1:1<=f.v.size
 s2:f.v.size<=64
 nn:(10:UInt8)∉f.v.data.toList
theorem iu.head {f:F}(h:iu f):(58:UInt8)∉(cP f.k f.l).data.toList/\(10:UInt8)∉(cP f.k f.l).data.toList/\(cP f.k f.l).size<=9/\1<=(kT f.k).size:=by
 have:=Er ⟨f.k,by have:=h.k6;omega⟩ ⟨f.l,by have:=h.l3;omega⟩ h.k1
 simp only[uw,Bool.and_eq_true,List.all_eq_true,decide_eq_true_eq] at this
 obtain⟨⟨h1,h2⟩,h3⟩:=this
 exact⟨λhm=>(h1 _ hm).1 rfl,λhm=>(h1 _ hm).2 rfl,h2,h3⟩
theorem iu.size {f:F}(h:iu f):(aL f).size=(cP f.k f.l).size+f.v.size+1:=iQ (ie f)
theorem iu.line {f:F}(h:iu f):(10:UInt8)∉(aL f).data.toList:=by
 rw[ie]
 intro hm
 simp only[List.mem_append,List.mem_cons] at hm
 rcases hm with hm|hm|hm
 ·exact h.head.2.1 hm
 ·exact absurd hm (by decide)
 exact h.nn hm
theorem nt (f:F):(rowOf f).data.toList=(aL f).data.toList++[10]:=by simp[rowOf]
theorem uO (L:List F)(s:ByteArray):(L.foldl (λs f=>s++rowOf f) s).data.toList=s.data.toList++L.flatMap λf=>(rowOf f).data.toList:=by
 induction L generalizing s with
 | nil=>simp
 | cons f L ih=>rw[List.foldl_cons,ih];simp
theorem eJ (L:List F):(aJ L).data.toList=L.flatMap λf=>(rowOf f).data.toList:=by rw[aJ,uO];rfl
theorem jt (f:F)(L:List F):(aJ (f::L)).data.toList=(aL f).data.toList++10::(aJ L).data.toList:=by
 rw[eJ,eJ,List.flatMap_cons,nt]
 simp
theorem js (L:List F)(f:F):aJ (L++[f])=aJ L++rowOf f:=by simp[aJ]
theorem qR:∀ (L:List F),(∀ f,f∈L->iu f)->(L.flatMap λf=>(rowOf f).data.toList).length<=75*L.length
 | [],_=>by simp
 | f::L,h=>by
  have h1:=qR L (λx hx=>h x (List.mem_cons_of_mem _ hx))
  have hf:=h f (List.mem_cons_self ..)
  have h2:=hf.size
  have h3:=hf.head
  have h4:=hf.s2
  have h5:(aL f).data.toList.length=(aL f).size:=by simp
  rw[List.flatMap_cons,List.length_append,nt,List.length_append,h5,List.length_cons,List.length_cons,List.length_nil]
  omega
theorem dB (L:List F)(h:∀ f,f∈L->iu f):(aJ L).size<=75*L.length:=by
 have e:(aJ L).size=(aJ L).data.toList.length:=by simp
 rw[e,eJ]
 exact qR L h
open Go.RowKit Fm Ct
structure mz (v d:ByteArray):Prop where
 kK:qK v
 num:∀ c∈v.data.toList,c.toNat=43∨(48<=c.toNat/\c.toNat<=57)
 cut:(⟨(Lib.trimPrefix v.data.toList [43]).toArray⟩:ByteArray)=d
 GN:if v.data.toList.head? = some 43 then v.extract 1 v.size=d else v=d
 d1:3<=d.size
 d2:d.size<=15
 dig:∀ c∈d.data.toList,48<=c.toNat/\c.toNat<=57
theorem CS (v d:ByteArray)(w:World)(h:mz v d) :
  Calls prog 379 #[.string v] w λe w'=>e = .returned (.tuple #[.string d,.bool true])/\w=w':=by
 have HT:=hid (Sh.zI v ⟨#[43]⟩ w)
 have HC:=hid h.cut
 have h1:=h.d1
 have h2:=h.d2
 have HD:=hid h.dig
 clear h
 go_enter func379,ntmps379
 go_wp2_with fail
 refine HT.mono ?_
 rintro e w' ⟨rfl,rfl⟩
 rw[show (⟨(Lib.trimPrefix v.data.toList (⟨#[43]⟩:ByteArray).data.toList).toArray⟩:ByteArray)=d from HC]
 go_wp2_with fail
 go_loop [18] (λi=>∃ k:Nat,k<=d.size/\i = .int .i64 k) (λi=>d.size - (intOf i).toNat)
 case atStart=>exact⟨0,Nat.zero_le _,rfl⟩
 obtain⟨k,hk,rfl⟩:=hrel
 by_cases hlt:k<d.size
 ·have hv:=HD.out _ (cw hlt)
  have b1:decide ((d[k].toNat:Int)<48)=false:=decide_eq_false (by omega)
  have b2:decide ((d[k].toNat:Int) > 57)=false:=decide_eq_false (by omega)
  go_wp2_with fail
  go_round
  case rel=>exact⟨k+1,by omega,by go_num⟩
  simp[intOf];omega
 obtain rfl:k=d.size:=by omega
 go_wp2_with fail
 go_ret2
 exact⟨rfl,rfl⟩
theorem E8 (v d:ByteArray)(w:World)(h:mz v d) :
  Calls prog 362 #[.string v] w λe w'=>e = .returned (.bool true)/\w=w':=by
 go_enter func362,ntmps362
 go_wp2_with fail
 refine(CS v d w h).mono ?_
 rintro e w' ⟨rfl,rfl⟩
 go_wp2_with fail
 go_ret
 exact⟨rfl,rfl⟩
theorem yZ (v d:ByteArray)(w:World)(h:mz v d)(hG:Sh.Gl w) :
  cA 351 #[.string v] w (.tuple #[.string v,.int .i64 0]):=by
 obtain⟨i5,hi,hz0,hz1,hz2⟩:=info_parts info5
 have h1:=h.kK.s1
 have h2:=h.kK.s2
 have HI:=hid (λW=>E8 v d W h)
 have HN:=hid h.num
 go_enter func351,ntmps351
 go_wp2_with fail
 refine uu (dF v w h.kK hG) λw1 f00=>?_
 have F0:=hid f00
 clear f00 hG h
 go_wp2_with fail
 go_loopw [6,18] (λo i wr=>∃ k:Nat,k<=v.size/\i = .int .i64 k/\Acc w1 wr o (v.data.toList.take k)/\Fr [] w1 wr) (λ_ i _=>v.size - (intOf i).toNat)
 case atStart=>exact⟨0,Nat.zero_le _,rfl,.inl ⟨rfl,rfl⟩,rZ⟩
 obtain⟨k,hk,rfl,ha,fr⟩:=hrel
 by_cases hlt:k<v.size
 ·have hv:=HN.out _ (cw hlt)
  have b1:((v[k].toNat:Int)==32)=false:=by simp;omega
  have b2:((v[k].toNat:Int)==45)=false:=by simp;omega
  have b3:((v[k].toNat:Int)==46)=false:=by simp;omega
  have b4:((v[k].toNat:Int)==47)=false:=by simp;omega
  have b5:((v[k].toNat:Int)==40)=false:=by simp;omega
  have b6:((v[k].toNat:Int)==41)=false:=by simp;omega
  clear hv
  have hcell:[Value.int .u8 v[k].toNat]=bc [v[k]]:=by simp[bc]
  have HC:=hid hcell
  clear hcell
  have HT:=hid (dj v k hlt)
  have hln:(v.data.toList.take k).length=k:=by simp;omega
  rcases ha with⟨rfl,hnil⟩|⟨g,c,n,rfl,hg,hn,hr⟩
  ·have hk0:k=0:=by
    rw[hnil] at hln
    simpa using hln.symm
   subst hk0
   go_wp2_with (at_builtin;(refine af rfl (.tmp 24) (.tmp 28) 69 rfl i5 _ 1 underlying69 hi hz0 hz1 hz2 rfl (by decide) _ _ rfl (Sl.nil _ _ _) _ 1 1 [.int .u8 v[0].toNat] rfl rfl (Cells.one (Holds.new wr 5 #[.int .u8 v[0].toNat])) (by simp[Value.oneCell']) (by unfold maxLen;omega) (by omega) ?_;intro v3 w3 own3 hs3 hf3 ho3 hm3;obtain⟨g3,c3,rfl,rfl,hg3,r3⟩:=mM (B:=w1.heap.size) hs3 ho3 (by have:=fr.size;simp;omega) (by simp) (hm3 (by omega))))
   go_roundw
   case rel=>exact⟨1,by omega,rfl,.inr ⟨g3,c3,1,rfl,hg3,by simp;omega,by rw[HT,List.take_zero,List.nil_append,<-HC];simpa using r3⟩,(fr.alloc _).step hf3 (by simp)⟩
   simp[intOf];omega
  have hnk:n=k:=by rw[<-hn,hln]
  subst hnk
  go_wp2_with (at_builtin;(refine af rfl (.tmp 24) (.tmp 28) 69 rfl i5 _ 1 underlying69 hi hz0 hz1 hz2 rfl (by decide) _ _ rfl ((Sl.row hr).fr0 ((Fr.refl [] wr).alloc _)) _ 1 1 [.int .u8 v[n].toNat] rfl rfl (Cells.one (Holds.new wr 5 #[.int .u8 v[n].toNat])) (by simp[Value.oneCell']) (by unfold maxLen;omega) (by omega) ?_;intro v3 w3 own3 hs3 hf3 ho3 hm3;obtain⟨g3,c3,rfl,rfl,hg3,r3⟩:=bV (B:=w1.heap.size) hs3 ho3 (by have:=fr.size;simp;omega) hg))
  go_roundw
  case rel=>exact⟨n+1,by omega,by go_num,.inr ⟨g3,c3,n+1,rfl,hg3,by simp;omega,by rw[HT,cF,<-HC];exact r3⟩,(fr.alloc _).step hf3 (by simpa using hg)⟩
  simp[intOf];omega
 obtain rfl:k=v.size:=by omega
 have ht:v.data.toList.take v.size=v.data.toList:=List.take_of_length_le (by simp)
 rw[ht] at ha
 rcases ha with⟨rfl,hnil⟩|⟨g,c,n,rfl,hg,hn,hr⟩
 ·have:=congrArg List.length hnil
  rw[show v.data.toList.length=v.size by simp,List.length_nil] at this
  omega
 have hnk:n=v.size:=by rw[<-hn];simp
 subst hnk
 have hconv:(convert 69 9 (.slice (some ⟨g,0,none⟩) v.size c)).run prog wr = .ok (.string v) wr:=cE wr g 0 v.size c v rfl λj x hx=>by
  rw[Nat.zero_add]
  exact hr.cell (by simp[bc,hx])
 clear hr
 go_wp2_with fail
 refine(HI _).mono ?_
 rintro e w2 ⟨rfl,rfl⟩
 go_wp2_with fail
 go_ret2
 exact⟨rfl,F0.trans fr⟩
open Go.RowKit Fm Ct
theorem sJ (W:World)(s:ByteArray)(cap:Nat)(m:Nat × Nat):dQ (W.alloc (.cells (bytesRow s cap) 5 m)) (W.heap.size+1) (some ⟨W.heap.size,0,none⟩) s.data.toList:=λ_=>⟨W.heap.size,0,rfl,by omega,λk u hu=>by
 have hh:(W.alloc (.cells (bytesRow s cap) 5 m)).heap[W.heap.size]? = some (.cells (bytesRow s cap) 5 m):=heap_alloc_new W _
 have hk:=(List.getElem?_eq_some_iff.1 hu).1
 have hs:k<s.data.size:=by simpa using hk
 have e:s.data[k]=u:=by have:=(List.getElem?_eq_some_iff.1 hu).2;simpa using this
 rw[Nat.zero_add]
 simp only[World.cell?,hh]
 rw[bytesRow_at s cap k hs,e]
 rfl⟩
theorem BD (v:ByteArray)(w:World)(hs:v.size<=1000)(hv:∀ c∈v.data.toList,¬ (65<=c.toNat/\c.toNat<=90)) :
  cA 364 #[.string v] w (.string v):=by
 have kc:=λ(W:World)=>run_bytes_of_string (P:=prog) W 9 69 5 v underlying9 underlying69 underlying5
 have HV:=hid hv
 clear hv
 go_enter func364,ntmps364
 go_wp2_with fail
 generalize hcap:grownCap w v.size 0 5=cap
 have hge:v.size<=cap:=by rw[<-hcap];exact grownCap_ge _ _ _ _
 obtain⟨W1,hW1⟩:∃ W1,W1=(w.alloc (.cells (bytesRow v cap) 5 ((bytesRow v cap).size,(bytesRow v cap).size+1))).drew:=⟨_,rfl⟩
 have f1:Fr [] w W1:=by rw[hW1];exact(rZ.alloc _).drew
 have hb0:=sJ w v cap ((bytesRow v cap).size,(bytesRow v cap).size+1)
 have hq:∀ (k:Nat) (h:k<v.size),W1.cell? ⟨w.heap.size,k,none⟩=some (.int .u8 v[k].toNat):=λk h=>by
  obtain⟨b,off,e,_,hc⟩:=hb0 (by simp;omega)
  cases e
  have:=hc k v[k] (by rw[List.getElem?_eq_getElem (by simpa using h)];rfl)
  rw[Nat.zero_add] at this
  rw[hW1]
  exact this
 have HQ:=hid hq
 have hlt1:w.heap.size<W1.heap.size:=by
  rw[hW1]
  show _<(World.alloc _ _).heap.size
  simp
 have hconv:(convert 69 9 (.slice (some ⟨w.heap.size,0,none⟩) v.size cap)).run prog W1 = .ok (.string v) W1:=cE W1 w.heap.size 0 v.size cap v rfl λj x hx=>by
  have hj:j<v.size:=by simpa using (List.getElem?_eq_some_iff.1 hx).1
  have:=hq j hj
  rw[Nat.zero_add,this]
  have e:v[j]=x:=by have:=(List.getElem?_eq_some_iff.1 hx).2;exact(show v[j]=v.data.toList[j]'(by simpa using hj) from rfl).trans this
  rw[e]
 rw[<-hW1]
 clear hW1 hb0 hq kc
 go_loop [10] (λi=>∃ k:Nat,k<=v.size/\i = .int .i64 k) (λi=>v.size - (intOf i).toNat)
 case atStart=>exact⟨0,Nat.zero_le _,rfl⟩
 obtain⟨k,hk,rfl⟩:=hrel
 by_cases hlt:k<v.size
 ·have hv:=HV.out _ (cw hlt)
  have q:=HQ.out k hlt
  have hk1:(k:Int)<(v.size:Int):=by omega
  by_cases h65:(65:Int)<=(v[k].toNat:Int)
  ·have b1:decide ((v[k].toNat:Int) >= 65)=true:=decide_eq_true h65
   have b2:decide ((v[k].toNat:Int)<=90)=false:=decide_eq_false (by omega)
   go_wp2_with fail
   go_round
   case rel=>exact⟨k+1,by omega,by go_num⟩
   simp[intOf];omega
  have b1:decide ((v[k].toNat:Int) >= 65)=false:=decide_eq_false h65
  go_wp2_with fail
  go_round
  case rel=>exact⟨k+1,by omega,by go_num⟩
  simp[intOf];omega
 obtain rfl:k=v.size:=by omega
 go_wp2_with fail
 go_ret
 exact⟨rfl,f1⟩
open Go.RowKit Fm Ct
theorem yr (s:ByteArray)(w:World)(h1:1<=s.size)(h2:s.size<=20)(hv:∀ c∈s.data.toList,97<=c.toNat/\c.toNat<=122) :
  Calls prog 391 #[.string s] w λe w'=>e = .returned (.bool true)/\w=w':=by
 have HV:=hid hv
 have v0:=hv _ (cw (show 0<s.size by omega))
 have v1:=hv _ (cw (show s.size - 1<s.size by omega))
 have b0:((s[0].toNat:Int)==45)=false:=by simp;omega
 have b1:((s[s.size - 1].toNat:Int)==45)=false:=by simp;omega
 have hcast:((s.size:Int) - 1)=((s.size - 1:Nat):Int):=by omega
 have c1:decide ((s.size:Int)<1)=false:=decide_eq_false (by omega)
 have c2:decide ((s.size:Int) > 20)=false:=decide_eq_false (by omega)
 clear hv v0 v1
 go_enter func391,ntmps391
 go_wp2_with fail
 go_loop [28] (λi=>∃ k:Nat,k<=s.size/\i = .int .i64 k) (λi=>s.size - (intOf i).toNat)
 case atStart=>exact⟨0,Nat.zero_le _,rfl⟩
 obtain⟨k,hk,rfl⟩:=hrel
 by_cases hlt:k<s.size
 ·have hv:=HV.out _ (cw hlt)
  have d1:decide ((s[k].toNat:Int)<97)=false:=decide_eq_false (by omega)
  have d2:decide ((s[k].toNat:Int) > 122)=false:=decide_eq_false (by omega)
  go_wp2_with fail
  go_round
  case rel=>exact⟨k+1,by omega,by go_num⟩
  simp[intOf];omega
 obtain rfl:k=s.size:=by omega
 go_wp2_with fail
 go_ret
 exact⟨rfl,rfl⟩
theorem yA (s t:ByteArray)(w:World)(h1:s.size=2)(h2:t.size=2)(hb:(t.toList==s.toList)=false) :
  Calls prog 328 #[.string s,.string t] w λe w'=>e = .returned (.int .i64 (-1))/\w=w':=by
 have e1:(s.size:Int)=2:=by omega
 have e2:(t.size:Int)=2:=by omega
 go_enter func328,ntmps328
 go_wp2_with fail
 go_ret
 exact⟨rfl,rfl⟩
theorem tI (s t:ByteArray)(w:World)(h1:s.size=2)(h2:t.size=2)(hb:(t.toList==s.toList)=false) :
  Calls prog 399 #[.string s,.string t] w λe w'=>e = .returned (.int .i64 (-1))/\w=w':=by
 go_enter func399,ntmps399
 go_wp2_with fail
 refine(yA s t w h1 h2 hb).mono ?_
 rintro e w' ⟨rfl,rfl⟩
 go_wp2_with fail
 go_ret
 exact⟨rfl,rfl⟩
theorem qw (s t:ByteArray)(w:World)(h1:s.size=2)(h2:t.size=2)(hb:(t.toList==s.toList)=false) :
  Calls prog 396 #[.string s,.string t] w λe w'=>e = .returned (.bool false)/\w=w':=by
 go_enter func396,ntmps396
 go_wp2_with fail
 refine(tI s t w h1 h2 hb).mono ?_
 rintro e w' ⟨rfl,rfl⟩
 go_wp2_with fail
 go_ret
 exact⟨rfl,rfl⟩
theorem ym (s:ByteArray)(w:World)(h2:s.size=2)(hv:∀ c∈s.data.toList,97<=c.toNat/\c.toNat<=122)(hb:((⟨#[46,46]⟩:ByteArray).toList==s.toList)=false) :
  Calls prog 389 #[.string s] w λe w'=>e = .returned (.bool true)/\w=w':=by
 have HV:=hid hv
 have HC:=hid (λW=>qw s ⟨#[46,46]⟩ W h2 rfl hb)
 have h1:1<=s.size:=by omega
 have h3:s.size<=20:=by omega
 clear h2 hb
 have v0:=hv _ (cw (show 0<s.size by omega))
 have v1:=hv _ (cw (show s.size - 1<s.size by omega))
 have b0:((s[0].toNat:Int)==46)=false:=by simp;omega
 have b1:((s[s.size - 1].toNat:Int)==46)=false:=by simp;omega
 have hcast:((s.size:Int) - 1)=((s.size - 1:Nat):Int):=by omega
 have c1:decide ((s.size:Int)<1)=false:=decide_eq_false (by omega)
 have c2:decide ((s.size:Int) > 32)=false:=decide_eq_false (by omega)
 clear hv v0 v1
 go_enter func389,ntmps389
 go_wp2_with fail
 refine(HC _).mono ?_
 rintro e w' ⟨rfl,rfl⟩
 go_wp2_with fail
 go_loop [33] (λi=>∃ k:Nat,k<=s.size/\i = .int .i64 k) (λi=>s.size - (intOf i).toNat)
 case atStart=>exact⟨0,Nat.zero_le _,rfl⟩
 obtain⟨k,hk,rfl⟩:=hrel
 by_cases hlt:k<s.size
 ·have hv:=HV.out _ (cw hlt)
  have d1:decide ((s[k].toNat:Int) >= 97)=true:=decide_eq_true (by omega)
  have d2:decide ((s[k].toNat:Int)<=122)=true:=decide_eq_true (by omega)
  go_wp2_with fail
  go_round
  case rel=>exact⟨k+1,by omega,by go_num⟩
  simp[intOf];omega
 obtain rfl:k=s.size:=by omega
 go_wp2_with fail
 go_ret
 exact⟨rfl,rfl⟩
open Go.RowKit Fm Ct
structure ky (s a b:ByteArray)(L:List ByteArray):Prop where
 kK:qK s
 cut:s.data.toList=a.data.toList++64::b.data.toList
 na:(64:UInt8)∉a.data.toList
 a2:a.size=2
 av:∀ c∈a.data.toList,97<=c.toNat/\c.toNat<=122
 ad:((⟨#[46,46]⟩:ByteArray).toList==a.toList)=false
 pieces:Lib.splitB ⟨#[46]⟩ 0 (Lib.countB b ⟨#[46]⟩) b=L
 len:Lib.countB b ⟨#[46]⟩+1=L.length
 l2:2<=L.length
 l5:L.length<=5
 last:Lib.lastIndexByte s 64=2
 e1:s.extract 3 s.size=b
 e2:s.extract 0 3++b=s
 low:∀ c∈b.data.toList,¬ (65<=c.toNat/\c.toNat<=90)
 s3:3<=s.size
 lab:∀ l∈L,1<=l.size/\l.size<=20/\∀ c∈l.data.toList,97<=c.toNat/\c.toNat<=122
theorem xR (s a b:ByteArray)(L:List ByteArray)(w:World)(h:ky s a b L)(hG:Sh.Gl w) :
  cA 381 #[.string s] w (.tuple #[.string a,.string b,.bool true]):=by
 have hsz:s.size=a.size+b.size+1:=iQ h.cut
 have h64:=h.kK.s2
 have ha:=h.a2
 have HCut:=hid (qv s ⟨#[64]⟩ a b w rfl h.cut h.na (by omega) (by omega))
 have HLoc:=hid (λW=>ym a W h.a2 h.av h.ad)
 have HSp:=hid (λW (f:Fr [] w W)=>by
  obtain⟨m,hm⟩:=(hG.fr0 f).mx
  have hsp:=Sh.lv b ⟨#[46]⟩ m W (by omega) hm (by decide)
  rw[h.pieces,h.len] at hsp
  exact hsp)
 have HLab:=hid h.lab
 have l2:=h.l2
 have l5:=h.l5
 have c1:decide ((s.size:Int) > 64)=false:=decide_eq_false (by omega)
 clear h hG hsz ha
 go_enter func381,ntmps381
 go_wp2_with fail
 refine uu HCut λwc fc=>?_
 go_wp2_with fail
 refine(HLoc _).mono ?_
 rintro e w' ⟨rfl,rfl⟩
 go_wp2_with fail
 refine uu (HSp wc fc) λw1 hw1=>?_
 have f1:Fr [] w w1:=by rw[hw1];exact fc.alloc _
 have HQ:=hid (show ∀ (k:Nat) (x:ByteArray),L[k]? = some x->w1.cell? ⟨wc.heap.size,k,none⟩=some (.string x) from λk x hx=>by
  rw[hw1]
  have:=(Holds.new wc 9 (L.map Value.string).toArray).cell k
  rw[this]
  simp[hx])
 have hlt1:wc.heap.size<w1.heap.size:=by rw[hw1];simp
 have d1:decide ((L.length:Int)<2)=false:=decide_eq_false (by omega)
 clear hw1
 go_wp2_with fail
 go_loop [2,3,28] (λx y i=>x = .string a/\y = .string b/\∃ k:Nat,k<=L.length/\i = .int .i64 k) (λ_ _ i=>L.length - (intOf i).toNat)
 case atStart=>exact⟨rfl,rfl,0,Nat.zero_le _,rfl⟩
 obtain⟨rfl,rfl,k,hk,rfl⟩:=hrel
 by_cases hlt:k<L.length
 ·have hx:L[k]? = some L[k]:=List.getElem?_eq_getElem hlt
  have hl:=HLab.out _ (List.getElem_mem hlt)
  obtain⟨x,hx'⟩:∃ x,L[k]=x:=⟨_,rfl⟩
  rw[hx'] at hx hl
  have q:=HQ.out k x hx
  have HB:=hid (yr x w1 hl.1 hl.2.1 hl.2.2)
  have hk1:(k:Int)<(L.length:Int):=by omega
  clear hx hl hx'
  go_wp2_with fail
  refine HB.mono ?_
  rintro e w' ⟨rfl,rfl⟩
  go_wp2_with fail
  go_round
  case rel=>exact⟨rfl,rfl,k+1,by omega,by go_num⟩
  simp[intOf];omega
 obtain rfl:k=L.length:=by omega
 go_wp2_with fail
 refine bodyPost_ret (results_tmp3 (t:=2) (u:=3) (v:=4) rfl _ _ _) rfl ?_
 exact⟨rfl,f1⟩
theorem DA (s a b:ByteArray)(L:List ByteArray)(w:World)(h:ky s a b L)(hG:Sh.Gl w) :
  cA 365 #[.string s] w (.bool true):=by
 go_enter func365,ntmps365
 go_wp2_with fail
 refine uu (xR s a b L w h hG) λw' f=>?_
 go_wp2_with fail
 go_ret
 exact⟨rfl,f⟩
theorem vA (s a b:ByteArray)(L:List ByteArray)(w:World)(h:ky s a b L)(hG:Sh.Gl w) :
  cA 352 #[.string s] w (.tuple #[.string s,.int .i64 0]):=by
 have h64:=h.kK.s2
 have hsz:s.size=a.size+b.size+1:=iQ h.cut
 have HL:=hid (λW=>Sh.Bk s 64 W (by omega))
 have HE:=hid (And.intro h.last (And.intro h.e1 h.e2))
 have HF:=hid (λW=>by
  have:=BD b W (by omega) h.low
  rw[<-h.e1] at this
  exact this)
 have HI:=hid (λW (f:Fr [] w W)=>DA s a b L W h (hG.fr0 f))
 have HN:=hid (dF s w h.kK hG)
 have h3:=h.s3
 have hex:(s.extract 0 3).size<=s.size:=by rw[ByteArray.size_extract];omega
 have c1:∀ W,(Op.stringOp .add (s.extract 0 3) (s.extract 3 s.size)).run prog W = .ok (.string s) W:=λW=>by rw[h.e1,run_string_add_sum W _ _ (by omega),h.e2]
 clear hex
 clear h hG hsz
 go_enter func352,ntmps352
 go_wp2_with fail
 refine uu HN λw1 f1=>?_
 go_wp2_with fail
 refine(HL _).mono ?_
 rintro e w' ⟨rfl,rfl⟩
 rw[HE.1]
 have hs3:(3:Int)<=(s.size:Int):=by omega
 go_wp2_with fail
 go_region_held3 (λ_=>True) (first|exact True.intro|go_keep)
  (first|(go_at_call 364;refine uu (HF _) λw2 f2=>?_;have hS:=True.intro))
 have F2:=hid (f1.trans ((Fr.refl [] _).drew.trans f2))
 clear f1 f2
 go_wp2_with fail
 refine uu (HI _ F2) λw3 f3=>?_
 go_wp2_with fail
 go_ret2
 exact⟨rfl,F2.trans f3⟩
end Fd
