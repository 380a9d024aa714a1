/- Walks. -/
import Derived.Test.YtocppjcocnckmaaGreatDoorM08
import Derived.Test.YtocppjcocnckmaaGreatDoorM13
import Derived.Deep.QuietTactic
import Derived.BigQuiet
set_option maxRecDepth 100000
set_option maxHeartbeats 8000000
set_option linter.all false
open Go.Lib (hid)
namespace Go.Proofs.YtocppjcocnckmaaGreatDoor
open Go.Proofs.Tryz
namespace Oi
open Go.RowKit
abbrev Ent:=ByteArray × Value
def cs (x:Ent):List Value:=[.string x.1,x.2]
theorem bh (x:Ent):(cs x).length=2:=rfl
def keys (l:List Ent):List ByteArray:=l.map (·.1)
def dw (l:List Ent)(k:ByteArray):Bool:=(keys l).any λx=>decide (x=k)
theorem dK {l:List Ent}{k:ByteArray} : dw l k=true ↔ k∈keys l:=by simp[dw]
theorem eW {l:List Ent}{i:Nat}{x:Ent}(h:l[i]? = some x):(keys l)[i]? = some x.1:=by simp[keys,h]
structure aQ (w:World)(B r:Nat)(l:List Ent):Prop where
 srt:Srt (keys l)
 len:l.length<=1000
 one:∀ x∈l,x.2.oneCell'=true
 at_:∃ v,Holds w r 216 #[v]/\Own w B 332 2 v l.length (flat cs l)
theorem aQ.fr0 {w w':World}{B r:Nat}{l:List Ent}(h:aQ w B r l)(hf:Fr [] w w'):aQ w' B r l:=by
 obtain⟨v,h1,h2⟩:=h.at_
 exact⟨h.srt,h.len,h.one,v,h1.fr hf (by simp),h2.fr0 hf⟩
theorem aQ.frx {w w':World}{B r:Nat}{l:List Ent}{Ts:List TypeId}{S:List Nat}(h:aQ w B r l)(hf:FrX B Ts S w w')(h1:216∉Ts)(h2:332∉Ts)
  (hS:∀ x,x∈S->∃ u,u≠216/\u≠332/\cB w x=some u):aQ w' B r l:=by
 obtain⟨v,q1,q2⟩:=h.at_
 refine⟨h.srt,h.len,h.one,v,q1.frx hf h1 (q1.AW λx hx=>?_),q2.frx hf h2 λg hg hx=>?_⟩
 ·obtain⟨u,a,_,b⟩:=hS x hx
  exact⟨u,a,b⟩
 obtain⟨u,_,a,b⟩:=hS g hx
 rw[(q2.ty hg).1] at b
 cases b
 exact a rfl
theorem dU:(prog.info? 332).map (λi=>(i.zero,i.size,i.bytes))=some (some (.agg #[.string ByteArray.empty,.int .i64 0]),2,24):=by kernel_rfl
theorem eZ (w:World)(key k:ByteArray)(v:Value):Calls prog 268 #[.agg #[.string key,v],.string k] w λe w'=>e = .returned (.int .i64 (Lib.compareBytes key.data.toList k.data.toList))/\Fr [] w w':=by
 go_enter func268,ntmps268
 go_wp2_with fail
 refine(gy key k _).mono ?_
 rintro e w' ⟨rfl,rfl⟩
 go_wp2
 go_ret
 exact⟨rfl,rZ.alloc _⟩
theorem gN (w:World)(B:Nat)(v:Value)(l:List Ent)(k:ByteArray)(hs:Srt (keys l))(hl:l.length<=1000)(h:Own w B 332 2 v l.length (flat cs l)) :
  Calls prog 267 #[v,.string k,.func (.func 268) #[] #[]] w λe w'=>e = .returned (.tuple #[.int .i64 (idx (keys l) k),.bool (dw l k)])/\Fr [] w w':=by
 obtain⟨a,c,rfl⟩:=h.form
 have hkl:(keys l).length=l.length:=by simp[keys]
 have HL:=hid hkl
 have HS:=hid hs
 clear hkl hs
 go_enter func267,ntmps267
 go_wp2
 go_loopw [9,10] (λi j wr=>∃ a b:Nat,a<=b/\b<=l.length/\i = .int .i64 a/\j = .int .i64 b/\Lo (keys l) k a/\Hi (keys l) k b/\Fr [] w wr) (λi j _=>(intOf j).toNat - (intOf i).toNat)
 case atStart=>exact⟨0,l.length,Nat.zero_le _,Nat.le_refl _,rfl,rfl,kM _ _,HL.out ▸ uI _ _,rZ⟩
 obtain⟨a',b,hab,hbn,rfl,rfl,hlo,hhi,fr⟩:=hrel
 by_cases hlt:a'<b
 ·have hlt':(a':Int)<(b:Int):=by omega
  obtain⟨m,hm⟩:∃ m:Nat,m=(a'+b) / 2:=⟨_,rfl⟩
  have hm1:a'<=m:=by omega
  have hm2:m<b:=by omega
  have hx:l[m]? = some l[m]:=List.getElem?_eq_getElem (by omega)
  obtain⟨x,hx'⟩:∃ x,l[m]'(by omega)=x:=⟨_,rfl⟩
  rw[hx'] at hx
  clear hx'
  obtain⟨g,c2,hg,hv,hr,hgl,hcell⟩:=(h.fr0 fr).cell bh rfl hx
  cases hv
  have q0:wr.cell? ⟨g,m*2,none⟩=some (.string x.1):=hcell 0 _ (by omega) rfl
  have q1:wr.cell? ⟨g,m*2+1,none⟩=some x.2:=hcell 1 _ (by omega) rfl
  have hkx:=eW hx
  have hmi:((a':Int)+(b:Int)) / 2=(m:Int):=by omega
  have hmn:(m:Int)<(l.length:Int):=by omega
  have HK:=hid hkx
  have HLo:=hid hlo
  have HHi:=hid hhi
  clear hm hx hcell hkx hr hlo hhi
  by_cases hc:Lib.compareBytes x.1.data.toList k.data.toList<0
  ·have HC:=hid (lV.1 hc)
   go_wp2_with fail
   refine uu (eZ _ x.1 k x.2) λw' f2=>?_
   go_wp2_with fail
   go_roundw
   case rel=>exact⟨m+1,b,by omega,hbn,by go_num,rfl,pV HS HK HC,HHi,fr.trans f2⟩
   simp[intOf];omega
  have HC:=hid (λh=>hc (lV.2 h))
  go_wp2_with fail
  refine uu (eZ _ x.1 k x.2) λw' f2=>?_
  go_wp2_with fail
  go_roundw
  case rel=>exact⟨a',m,hm1,by omega,rfl,rfl,HLo,qg HS HK HC,fr.trans f2⟩
  simp[intOf];omega
 obtain rfl:a'=b:=by omega
 have hiq:=idx_eq (by rw[HL];exact hbn) hlo hhi
 have HI:=hid hiq
 by_cases hlt2:a'<l.length
 ·have hx:l[a']? = some l[a']:=List.getElem?_eq_getElem hlt2
  obtain⟨x,hx'⟩:∃ x,l[a']'(by omega)=x:=⟨_,rfl⟩
  rw[hx'] at hx
  clear hx'
  obtain⟨g,c2,hg,hv,hr,hgl,hcell⟩:=(h.fr0 fr).cell bh rfl hx
  cases hv
  have q0:wr.cell? ⟨g,a'*2,none⟩=some (.string x.1):=hcell 0 _ (by omega) rfl
  have q1:wr.cell? ⟨g,a'*2+1,none⟩=some x.2:=hcell 1 _ (by omega) rfl
  have hkx:=eW hx
  have hmn:(a':Int)<(l.length:Int):=by omega
  have hkk:dw l k=decide (x.1=k):=by
   rw[Bool.eq_iff_iff,dK,decide_eq_true_eq]
   constructor
   ·intro hm
    have:=iZ HS hm
    rw[hiq,hkx] at this
    exact Option.some.inj this
   rintro rfl
   exact List.mem_of_getElem? hkx
  have HK:=hid hkk
  have HX:=hid (qA (a:=x.1) (b:=k))
  clear hiq hx hcell hkx hr hlo hhi hkk
  go_wp2_with fail
  refine uu (eZ _ x.1 k x.2) λw' f2=>?_
  go_wp2_with fail
  go_ret2
  refine⟨?_,fr.trans f2⟩
  rw[HI,HK,<-HX]
  rfl
 obtain rfl:a'=l.length:=by omega
 have hkk:dw l k=false:=by
  rw[<-Bool.not_eq_true,dK]
  intro hm
  have:=iZ HS hm
  rw[hiq] at this
  have:=(List.getElem?_eq_some_iff.1 this).1
  rw[HL] at this
  omega
 have HK:=hid hkk
 clear hiq hkk hlo hhi
 go_wp2
 go_ret2
 exact⟨by rw[HI,HK];rfl,fr⟩
theorem bp (w:World)(B r:Nat)(l:List Ent)(k:ByteArray)(h:aQ w B r l) :
  Calls prog 234 #[.pointer (some ⟨r,0,none⟩),.string k] w λe w'=>e = .returned (.tuple #[.int .i64 (idx (keys l) k),.bool (dw l k)])/\Fr [] w w':=by
 obtain⟨v,h1,h2⟩:=h.at_
 have c0:=h1.cell 0
 have hs:=hid h.srt
 have hl:=h.len
 go_enter func234,ntmps234
 go_wp2_with fail
 refine uu (gN w B v l k hs.out hl h2) λw' f1=>?_
 go_wp2_with fail
 go_ret2
 exact⟨rfl,f1⟩
theorem nR (w:World)(B r:Nat)(l:List Ent)(k:ByteArray)(h:aQ w B r l)(hk:dw l k=false) :
  Calls prog 198 #[.pointer (some ⟨r,0,none⟩),.string k] w λe w'=>e = .returned (.tuple #[.int .i64 0,.bool false])/\Fr [] w w':=by
 have HK:=hid hk
 clear hk
 go_enter func198,ntmps198
 go_wp2_with fail
 refine uu (bp w B r l k h) λw' f1=>?_
 rw[HK]
 go_wp2_with fail
 go_ret2
 exact⟨rfl,f1⟩
theorem kS (w:World)(B r:Nat)(l:List Ent)(k:ByteArray)(x:Ent)(h:aQ w B r l)(hk:dw l k=true)(hx:l[idx (keys l) k]? = some x) :
  Calls prog 198 #[.pointer (some ⟨r,0,none⟩),.string k] w λe w'=>e = .returned (.tuple #[x.2,.bool true])/\Fr [] w w':=by
 have HK:=hid hk
 clear hk
 go_enter func198,ntmps198
 go_wp2_with fail
 refine uu (bp w B r l k h) λw' f1=>?_
 rw[HK]
 obtain⟨v,h1,h2⟩:=(h.fr0 f1).at_
 obtain⟨g,c2,hg,rfl,hr,hgl,hcell⟩:=h2.cell bh rfl hx
 have c0:=h1.cell 0
 have hm:=(List.getElem?_eq_some_iff.1 hx).1
 have hmn:(idx (keys l) k:Int)<(l.length:Int):=by omega
 obtain⟨m,hm'⟩:∃ m,idx (keys l) k=m:=⟨_,rfl⟩
 rw[hm'] at hx hm hmn hcell ⊢
 have q0:w'.cell? ⟨g,m*2,none⟩=some (.string x.1):=hcell 0 _ (by omega) rfl
 have q1:w'.cell? ⟨g,m*2+1,none⟩=some x.2:=hcell 1 _ (by omega) rfl
 clear hm' hx hcell hr h h2
 go_wp2_with fail
 go_ret2
 exact⟨rfl,f1⟩
theorem cQ {x:Ent}(h:x.2.oneCell'=true):∀ u∈cs x,u.oneCell'=true:=by
 intro u hu
 simp only[cs,List.mem_cons,List.not_mem_nil,or_false] at hu
 rcases hu with rfl|rfl
 ·rfl
 exact h
theorem gS (w:World)(B:Nat)(v:Value)(l:List Ent)(x:Ent)(vb n:Nat)(h:Own w B 332 2 v n (flat cs l))(hb:Cells w (some ⟨vb,0,none⟩) (cs x))(h1:x.2.oneCell'=true)(hl:n<=1000)(hB:B<=w.heap.size) :
  Calls prog 237 #[v,.int .i64 n,.slice (some ⟨vb,0,none⟩) 1 1] w λe w'=>∃ v',e = .returned v'/\Own w' B 332 2 v' (n+1) (flat cs l++cs x)/\Fr (ay v).toList w w'/\(ay v'=ay v∨∃ g,ay v'=some g/\w.heap.size<=g):=by
 obtain⟨i5,hi,hz0,hz1,hz2⟩:=info_parts dU
 have hs:=h.sl
 have h0:∀ g,ay v=some g->B<=g:=λg hg=>(h.ty hg).2
 have H0:=hid h0
 have H1:=hid h1
 clear h0 h1
 rcases h with⟨rfl,rfl,_⟩|⟨g,cap,hg,rfl,hr⟩
 ·go_enter func237,ntmps237
  go_wp2_with (at_builtin;refine af rfl (.tmp 23) (.tmp 24) 214 rfl i5 _ 24 underlying214 hi hz0 hz1 hz2 rfl (by decide) _ _ rfl hs _ 1 1 (cs x) rfl rfl hb (cQ H1) (by unfold maxLen;omega) (by omega) ?_;intro v' w2 own' hs1 hf1 ho1 hm1)
  go_ret
  obtain⟨k1,k2⟩:=bn hB H0.out hs1 ho1 (hm1 (by omega))
  exact⟨v',rfl,k1,hf1,k2 ▸ ho1⟩
 have hle:=hr.le
 go_enter func237,ntmps237
 go_wp2_with (at_builtin;refine af rfl (.tmp 23) (.tmp 24) 214 rfl i5 _ 24 underlying214 hi hz0 hz1 hz2 rfl (by decide) _ _ rfl hs _ 1 1 (cs x) rfl rfl hb (cQ H1) (by unfold maxLen;omega) (by omega) ?_;intro v' w2 own' hs1 hf1 ho1 hm1)
 all_goals
  go_ret
  obtain⟨k1,k2⟩:=bn hB H0.out hs1 ho1 (hm1 (by omega))
  exact⟨v',rfl,k1,hf1,k2 ▸ ho1⟩
theorem iW (w:World)(B r:Nat)(l:List Ent)(k:ByteArray)(z:Int)(h:aQ w B r l)(hk:∀ x∈l,kl x.1<kl k)(hl:l.length<1000)(hB:B<=w.heap.size)(hr:B<=r) :
  Calls prog 202 #[.pointer (some ⟨r,0,none⟩),.string k,.int .i64 z] w λe w'=>e = .returned (.bool true)/\aQ w' B r (l++[(k,.int .i64 z)])/\FrX B [332] [r] w w':=by
 have hno:dw l k=false:=by
  rw[<-Bool.not_eq_true,dK]
  intro hm
  obtain⟨x,hx,rfl⟩:=List.mem_map.1 hm
  exact bG _ (hk x hx)
 have hidx:idx (keys l) k=l.length:=idx_eq (by simp[keys]) (λt y hy _=>by
  obtain⟨x,hx,rfl⟩:=List.mem_map.1 (List.mem_of_getElem? hy)
  exact hk x hx) (λt y hy ht=>by
  have:=(List.getElem?_eq_some_iff.1 hy).1
  simp[keys] at this
  omega)
 have hsrt:Srt (keys (l++[(k,.int .i64 z)])):=by
  have:=h.srt
  unfold Srt keys at *
  rw[List.map_append,List.pairwise_append]
  refine⟨this,by simp,?_⟩
  intro a ha b hb
  simp at hb
  subst hb
  obtain⟨x,hx,rfl⟩:=List.mem_map.1 ha
  exact hk x hx
 have HN:=hid hno
 have HI:=hid hidx
 have HS:=hid hsrt
 have HO:=hid h.one
 clear hno hidx hsrt hk
 go_enter func202,ntmps202
 go_wp2_with fail
 refine uu (bp w B r l k h) λw1 f1=>?_
 rw[HN,HI]
 obtain⟨v,h1,h2⟩:=(h.fr0 f1).at_
 have c0:=h1.cell 0
 have hB1:=f1.size
 have f2:Fr [] w1 (w1.alloc (.cells #[.string k,.int .i64 z] 332)):=rZ.alloc _
 have hb:=Holds.new w1 332 #[.string k,.int .i64 z]
 have hty:=λg (hg:ay v=some g)=>h2.ty hg
 have HT:=hid hty
 clear hty
 go_wp2_with fail
 refine(gS _ B v l (k,.int .i64 z) _ l.length (h2.fr0 f2) (λj u hu=>⟨_,rfl,by rw[dZ,Nat.zero_add,hb.cell j];simpa[cs] using hu⟩) rfl (by omega) (by simp;omega)).mono ?_
 rintro e w2 ⟨v',rfl,q1,q2,q3⟩
 obtain⟨a',c',rfl⟩:=q1.form
 have hrv:∀ g,ay v=some g->r≠g:=λg hg e=>by
  have:=(HT g hg).1
  rw[<-e,h1.ty] at this
  cases this
 have h1':=(h1.fr f2 (by simp)).fr q2 (by intro hx;exact hrv r (by simpa using hx) rfl)
 have d0:=h1'.frozen 0
 have d1:=h1'.cell 0
 clear c0
 go_wp2_with fail
 go_ret
 have hne:∀ g,ay (.slice a' (l.length+1) c')=some g->r≠g:=λg hg=>by
  rcases q3 with q3|⟨g',a,b⟩
  ·exact hrv g (q3 ▸ hg)
  rw[a] at hg
  cases hg
  have:=h1.lt
  simp at b
  omega
 refine⟨rfl,⟨HS,by simp;omega,?_,_,h1'.set 0 _,?_⟩,?_⟩
 ·intro x hx
  rcases List.mem_append.1 hx with hx|hx
  ·exact HO x hx
  simp at hx
  subst hx
  rfl
 ·have e1:flat cs (l++[(k,.int .i64 z)])=flat cs l++cs (k,.int .i64 z):=by rw[aP,bS]
  rw[e1,List.length_append]
  exact q1.fr ((Fr.refl [r] w2).setCell (by simp) _) (λg hg=>by simpa using (hne g hg).symm)
 have g1:FrX B [332] [r] w w1:=FrX.aA f1
 have g2:FrX B [332] [r] w1 w2:=(FrX.aA f2).trans (FrX.aB q2 (λx hx=>(HT x (by simpa using hx)).2) (λx hx=>⟨332,by simp,(h2.fr0 f2).ty (by simpa using hx) |>.1⟩))
 have g3:FrX B [332] [r] w2 (w2.setCell ⟨r,0,none⟩ (.slice a' (l.length+1) c')):=FrX.bY ((Fr.refl [r] w2).setCell (by simp) _) (by simpa using hr)
 exact g1.trans (g2.trans g3)
end Oi
namespace Rk
open Go.RowKit
def pc (p:Nat):List Value:=[.pointer (some ⟨p,0,none⟩)]
theorem AK (p:Nat):(pc p).length=1:=rfl
theorem Gd:(prog.info? 172).map (λi=>(i.zero,i.size,i.bytes))=some (some (.pointer none),1,8):=by kernel_rfl
structure fy (w:World)(B g n j:Nat)(l:List Oi.Ent):Prop where
 n1:1<=n
 n16:n<=16
 jn:j<n
 at_:∃ (vs:Value) (ps:List Nat),ps.length=n/\Holds w g 171 #[vs]/\Own w B 172 1 vs n (flat pc ps)/\ps.Nodup/\(∀ p,p∈ps->B<=p) /\
  (∀ p,ps[j]? = some p->Oi.aQ w B p l)/\∀ (i:Nat) p,ps[i]? = some p->i≠j->Holds w p 216 #[.slice none 0 0]
abbrev Ts:List TypeId:=[171,172,216,332]
theorem fy.fr0 {w w':World}{B g n j:Nat}{l:List Oi.Ent}(h:fy w B g n j l)(hf:Fr [] w w'):fy w' B g n j l:=by
 obtain⟨a,b,c,vs,ps,h1,h2,h3,h4,h5,h6,h7⟩:=h
 exact⟨a,b,c,vs,ps,h1,h2.fr hf (by simp),h3.fr0 hf,h4,h5,λp hp=>(h6 p hp).fr0 hf,λi p hp hi=>(h7 i p hp hi).fr hf (by simp)⟩
theorem fy.frx {w w':World}{B g n j:Nat}{l:List Oi.Ent}{Us:List TypeId}(h:fy w B g n j l)(hf:FrX B Us [] w w')(hU:∀ t,t∈Ts->t∉Us):fy w' B g n j l:=by
 obtain⟨a,b,c,vs,ps,h1,h2,h3,h4,h5,h6,h7⟩:=h
 exact⟨a,b,c,vs,ps,h1,h2.frx hf (hU _ (by simp)) (by simp),h3.bf hf (hU _ (by simp)),h4,h5,λp hp=>(h6 p hp).frx hf (hU _ (by simp)) (hU _ (by simp)) (by simp),λi p hp hi=>(h7 i p hp hi).frx hf (hU _ (by simp)) (by simp)⟩
def cD (k:ByteArray)(n:Nat):Nat:=(Fv.cK k.data.toList % (n:Int)).toNat
theorem tL (k:ByteArray){n:Nat}(h:1<=n):cD k n<n/\Fv.cK k.data.toList % (n:Int)=(cD k n:Int):=by
 unfold cD
 have h1:=Int.emod_nonneg (Fv.cK k.data.toList) (show (n:Int)≠0 by omega)
 have h2:=Int.emod_lt_of_pos (Fv.cK k.data.toList) (show 0<(n:Int) by omega)
 omega
theorem ix (w:World)(B g n:Nat)(l:List Oi.Ent)(k:ByteArray)(h:fy w B g n (cD k n) l)(hk:k.size<=1000) :
  Calls prog 197 #[.pointer (some ⟨g,0,none⟩),.string k] w λe w'=>(∃ p,e = .returned (.pointer (some ⟨p,0,none⟩))/\∀ vs ps,Holds w g 171 #[vs]->Own w B 172 1 vs n (flat pc ps)->ps.length=n->ps[cD k n]? = some p)/\∃ m,w'=w.drewN m:=by
 obtain⟨n1,n16,jn,vs,ps,h1,h2,h3,h4,h5,h6,h7⟩:=h
 obtain⟨_,hsh⟩:=tL k n1
 have hx:ps[cD k n]? = some ps[cD k n]:=List.getElem?_eq_getElem (by omega)
 obtain⟨p,hp⟩:∃ p,ps[cD k n]'(by omega)=p:=⟨_,rfl⟩
 rw[hp] at hx
 clear hp
 obtain⟨m,hm⟩:∃ m,cD k n=m:=⟨_,rfl⟩
 rw[hm] at hsh hx jn
 obtain⟨gq,cq,hgq,rfl,hr,hgl,hcell⟩:=h3.cell AK h1.symm hx
 have q0:w.cell? ⟨gq,m,none⟩=some (.pointer (some ⟨p,0,none⟩)):=by have:=hcell 0 _ (by omega) rfl;simpa using this
 have c0:=h2.cell 0
 simp at c0
 have hu:∀ vs' ps',Holds w g 171 #[vs']->Own w B 172 1 vs' n (flat pc ps')->ps'.length=n->ps'[cD k n]? = some p:=by
  intro vs' ps' a b c
  have e:=a.cell 0
  rw[c0] at e
  simp at e
  subst e
  have hx':ps'[m]? = some ps'[m]:=List.getElem?_eq_getElem (by omega)
  obtain⟨_,_,_,hv,_,_,hcell'⟩:=b.cell AK c.symm hx'
  have q1:=hcell' 0 _ (by omega) rfl
  cases hv
  simp only[Nat.mul_one,Nat.add_zero] at q1
  rw[q0] at q1
  rw[hm,hx']
  simp at q1
  rw[<-q1]
 have HU:=hid hu
 have HS:=hid hsh
 have hjn:(m:Int)<(n:Int):=by omega
 have hkm:k.size<=maxLen:=by unfold maxLen;omega
 have HC:=hid (λx:Nat=>(by have:=Fv.ix k n (w.drewN x) hkm (by omega) (by omega);rw[HS] at this;exact this:Calls prog 233 #[.string k,.int .i64 n] (w.drewN x) λe w'=>e = .returned (.int .i64 m)/\w.drewN x=w'))
 clear hm h2 h3 h4 h5 h6 h7 hr hcell hx hu hsh
 go_enter func197,ntmps197
 go_wp2_with fail
 go_quiet ((go_at_call 233;exact bB (HC _)))
 go_wp2_with fail
 go_ret
 exact⟨⟨p,rfl,HU⟩,_,rfl⟩
theorem qp (w:World)(B g n:Nat)(l:List Oi.Ent)(k:ByteArray)(h:fy w B g n (cD k n) l)(hk:k.size<=1000)(hno:Oi.dw l k=false) :
  Calls prog 150 #[.pointer (some ⟨g,0,none⟩),.string k] w λe w'=>e = .returned (.int .i64 (-1))/\Fr [] w w':=by
 have HN:=hid hno
 clear hno
 go_enter func150,ntmps150
 go_wp2_with fail
 refine(ix w B g n l k h hk).mono ?_
 rintro e w1 ⟨⟨p,rfl,hu⟩,m,rfl⟩
 obtain⟨n1,n16,jn,vs,ps,h1,h2,h3,h4,h5,h6,h7⟩:=h
 have hp:=h6 p (hu vs ps h2 h3 h1)
 have f1:Fr [] w (w.drewN m):=rZ.drewN m
 have HP:=hid (hp.fr0 f1)
 clear hu h6 h7 hp h2 h3 h4 h5
 go_wp2_with fail
 refine uu (Oi.nR _ B p l k HP HN) λw2 f2=>?_
 go_wp2_with fail
 go_ret
 exact⟨rfl,f1.trans f2⟩
theorem BG (w:World)(B g n:Nat)(k:ByteArray)(id:Int)(h:fy w B g n (cD k n) [(k,.int .i64 id)])(hk:k.size<=1000) :
  Calls prog 150 #[.pointer (some ⟨g,0,none⟩),.string k] w λe w'=>e = .returned (.int .i64 id)/\Fr [] w w':=by
 have hyes:Oi.dw [(k,.int .i64 id)] k=true:=by simp[Oi.dw,Oi.keys]
 have hx:([(k,.int .i64 id)]:List Oi.Ent)[idx (Oi.keys [(k,.int .i64 id)]) k]? = some (k,.int .i64 id):=by
  have:idx (Oi.keys [(k,.int .i64 id)]) k=0:=idx_eq (by simp) (kM _ _) (λt x hx _=>by
   match t,hx with
   | 0,hx=>simp[Oi.keys] at hx;subst hx;exact bG _)
  rw[this]
  rfl
 have HN:=hid hyes
 have HX:=hid hx
 clear hyes hx
 go_enter func150,ntmps150
 go_wp2_with fail
 refine(ix w B g n _ k h hk).mono ?_
 rintro e w1 ⟨⟨p,rfl,hu⟩,m,rfl⟩
 obtain⟨n1,n16,jn,vs,ps,h1,h2,h3,h4,h5,h6,h7⟩:=h
 have hp:=h6 p (hu vs ps h2 h3 h1)
 have f1:Fr [] w (w.drewN m):=rZ.drewN m
 have HP:=hid (hp.fr0 f1)
 clear hu h6 h7 hp h2 h3 h4 h5
 go_wp2_with fail
 refine uu (Oi.kS _ B p _ k _ HP HN HX) λw2 f2=>?_
 go_wp2_with fail
 go_ret
 exact⟨rfl,f1.trans f2⟩
theorem fy.FG {w w':World}{B g n j:Nat}{l l':List Oi.Ent}{vs:Value}{ps:List Nat}{p:Nat}(n1:1<=n)(n16:n<=16)(jn:j<n)(h1:ps.length=n)(h2:Holds w g 171 #[vs])(h3:Own w B 172 1 vs n (flat pc ps))(h4:ps.Nodup)(h5:∀ p,p∈ps->B<=p)
  (h7:∀ (i:Nat) p,ps[i]? = some p->i≠j->Holds w p 216 #[.slice none 0 0]) (hp:ps[j]? = some p) (hm:Oi.aQ w' B p l') (hty:cB w p=some 216) (hf:FrX B [332] [p] w w'):fy w' B g n j l':=by
 refine⟨n1,n16,jn,vs,ps,h1,h2.frx hf (by decide) (λhx=>?_),h3.frx hf (by decide) (λq hq hx=>?_),h4,h5,λq hq=>?_,λi q hq hi=>?_⟩
 ·simp at hx
  subst hx
  rw[h2.ty] at hty
  cases hty
 ·simp at hx
  subst hx
  rw[(h3.ty hq).1] at hty
  cases hty
 ·rw[hp] at hq
  cases hq
  exact hm
 refine(h7 i q hq hi).frx hf (by decide) (λhx=>?_)
 simp at hx
 subst hx
 have a:=List.getElem?_eq_some_iff.1 hq
 have b:=List.getElem?_eq_some_iff.1 hp
 rcases Nat.lt_or_gt_of_ne hi with h|h
 ·exact List.pairwise_iff_getElem.1 h4 i j a.1 b.1 h (a.2.trans b.2.symm)
 exact List.pairwise_iff_getElem.1 h4 j i b.1 a.1 h (b.2.trans a.2.symm)
theorem qI (w:World)(B g n:Nat)(k:ByteArray)(id:Int)(h:fy w B g n (cD k n) [])(hk:k.size<=1000)(hiq:0<=id)(hB:B<=w.heap.size) :
  Calls prog 155 #[.pointer (some ⟨g,0,none⟩),.string k,.int .i64 id] w λe w'=>e = .returned (.bool true)/\fy w' B g n (cD k n) [(k,.int .i64 id)]/\FrX B Ts [] w w':=by
 go_enter func155,ntmps155
 go_wp2_with fail
 refine uu (qp w B g n [] k h hk rfl) λw0 f0=>?_
 have h0:=h.fr0 f0
 clear h
 go_wp2_with fail
 refine(ix w0 B g n [] k h0 hk).mono ?_
 rintro e w1 ⟨⟨p,rfl,hu⟩,m,rfl⟩
 obtain⟨n1,n16,jn,vs,ps,h1,h2,h3,h4,h5,h6,h7⟩:=h0
 have hpj:=hu vs ps h2 h3 h1
 have f1:Fr [] w0 (w0.drewN m):=rZ.drewN m
 have HP:=hid ((h6 p hpj).fr0 f1)
 have HR:=hid (λw' l'=>fy.FG (w':=w') (l:=[]) (l':=l') n1 n16 jn h1 (h2.fr f1 (by simp)) (h3.fr0 f1) h4 h5 (λi q a b=>(h7 i q a b).fr f1 (by simp)) hpj)
 have HB:=hid (h5 p (List.mem_of_getElem? hpj))
 have hsz:=(f0.trans f1).size
 clear hu h6 h7 h2 h3 h4 h5 hpj
 go_wp2_with fail
 refine(Oi.iW _ B p [] k id HP.out (by simp) (by simp) (by omega) HB.out).mono ?_
 rintro e w2 ⟨rfl,q1,q2⟩
 go_wp2_with fail
 go_ret
 obtain⟨v,hv,_⟩:=HP.at_
 refine⟨rfl,HR _ _ (by simpa using q1) hv.ty q2,?_⟩
 exact(FrX.aA (f0.trans f1)).trans ((q2.mono (T:=[p]) (by simp) (λ_ h=>h)).jY (λx hx=>.inr (.inr ⟨216,by simp,by simp at hx;subst hx;exact hv.ty⟩)))
theorem Dm (w:World):Calls prog 99 #[] w λe w'=>∃ r,e = .returned (.pointer (some ⟨r,0,none⟩))/\w.heap.size<=r/\Holds w' r 216 #[.slice none 0 0]/\Fr [] w w':=by
 go_enter func99,ntmps99
 go_wp2
 go_ret
 exact⟨_,rfl,Nat.le_refl _,Holds.new _ _ _,rZ.alloc _⟩
theorem bZ (w:World)(B:Nat)(n j:Nat)(n1:1<=n)(n16:n<=16)(hj:j<n)(hB:B<=w.heap.size) :
  Calls prog 65 #[.int .i64 n] w λe w'=>∃ g,e = .returned (.pointer (some ⟨g,0,none⟩))/\w.heap.size<=g/\fy w' B g n j []/\Fr [] w w':=by
 obtain⟨i3,hi,hz0,hz1,hz2⟩:=info_parts Gd
 have hm:¬ (n:Int)<1:=by omega
 go_enter func65,ntmps65
 go_wp2
 go_loopw [8] (λi wr=>∃ (k:Nat) (vs:Value) (ps:List Nat),k<=n/\i = .int .i64 k/\ps.length=k/\Holds wr w.heap.size 171 #[vs]/\Own wr w.heap.size 172 1 vs k (flat pc ps)/\ps.Nodup/\(∀ p,p∈ps->w.heap.size<=p/\Holds wr p 216 #[.slice none 0 0])/\Fr [] w wr) (λi _=>n - (intOf i).toNat)
 case atStart=>exact⟨0,.slice none 0 0,[],Nat.zero_le _,rfl,rfl,Holds.new _ _ _,Own.nil _ _ _ _,by simp,by simp,rZ.alloc _⟩
 obtain⟨k,vs,ps,hk,rfl,hpl,h1,h2,hnd,hps,fr⟩:=hrel
 by_cases hlt:k<n
 ·obtain⟨av,cv,rfl⟩:=h2.form
  have c0:=h1.cell 0
  simp at c0
  have hk1:(k:Int)<(n:Int):=by omega
  have hwl:=h1.lt
  have HT:=hid (λq (hq:ay (.slice av k cv)=some q)=>h2.ty hq)
  have HG:=hid (show w.heap.size∉(ay (.slice av k cv)).toList from λhx=>by
   have:=(h2.ty (g:=w.heap.size) (by simpa using hx)).1
   rw[h1.ty] at this
   cases this)
  have H1:=hid h1
  have H2:=hid h2
  have HP:=hid hps
  clear h1 h2 hps
  go_wp2_with fail
  go_region_law (first
   | (refine bu rfl (.tmp 14) (.tmp 16) 169 rfl i3 _ 8 underlying169 hi hz0 hz1 hz2 rfl (by decide) _ (ay (.slice av k cv)) rfl (H2.sl.fr0 (f2.alloc (.cells #[.pointer (some ⟨r,0,none⟩)] 172))) _ 1 1 [.pointer (some ⟨r,0,none⟩)] rfl rfl (Cells.one (aE (cs:=#[.pointer (some ⟨r,0,none⟩)]) (t:=172) rfl)) (by simp[Value.oneCell']) (by unfold maxLen;omega) (by omega) ?_;intro v3 w3 own3 hs3 hf3 ho3 hm3;obtain⟨a3,c3,rfl⟩:=hs3.form;have f3:Fr (ay (.slice av k cv)).toList wr w3:=(f2.mono (by simp)).trans ((rZ.alloc _).trans hf3);have r1:=H1.fr f3 HG;have d1:=r1.cell 0;have t1:=r1.frozen 0;simp at d1)
   | (go_simp;go_at_call 99;refine(Dm _).mono ?_;rintro e w2 ⟨r,rfl,hr2,q2,f2'⟩;have f2:Fr [] wr w2:=((Fr.refl [] wr).drew).trans f2';have e0:=(H1.fr f2 (by simp)).cell 0;have hwl2:=(H1.fr f2 (by simp)).lt;simp at e0))
  all_goals
   go_wp2_with fail
   go_roundw
   case rel =>
    have hsz:=fr.size
    have hsz2:=f2.size
    obtain⟨o3,e3⟩:=bn (B:=w.heap.size) (v:=.slice av k cv) (w:=w2.alloc (.cells #[.pointer (some ⟨r,0,none⟩)] 172)) (by simp;omega) (λq hq=>(HT.out q hq).2) hs3 ho3 (hm3 (by omega))
    have hng:∀ q,ay (.slice a3 (k+1) c3)=some q->q≠w.heap.size:=λq hq=>by
     rw[e3] at hq
     rcases ho3 with h'|⟨x,h',hx⟩
     ·rintro rfl
      exact HG (by rw[<-h'];simpa using hq)
     rw[h'] at hq
     cases hq
     simp at hx
     omega
    have hold:∀ q t cs,Holds wr q t cs->t≠172->q≠w.heap.size->Holds (w3.setCell ⟨w.heap.size,0,none⟩ (.slice a3 (k+1) c3)) q t cs:=λq t cs hq ht hne=>by
     refine(hq.fr f3 (λhx=>?_)).far hne _
     have:=(HT q (by simpa using hx)).1
     rw[hq.ty] at this
     cases this
     exact ht rfl
    have yF:Holds (w3.setCell ⟨w.heap.size,0,none⟩ (.slice a3 (k+1) c3)) r 216 #[.slice none 0 0]:=by
     have hr2':wr.heap.size<=r:=by simpa using hr2
     refine(((q2.alloc _).fr hf3 (λhx=>?_)).far (by simp;omega) _)
     have h':=HT.out r (by simpa using hx)
     have hlt:r<wr.heap.size:=by
      rcases H2 with⟨hv,_⟩|⟨_,_,_,hv,hrow⟩
      ·rw[hv] at hx;simp[ay] at hx
      rw[hv] at hx;simp[ay] at hx;subst hx;exact hrow.lt
     omega
    refine⟨k+1,.slice a3 (k+1) c3,ps++[r],by omega,by go_num,by simp[hpl],by simpa using r1.set 0 (.slice a3 (k+1) c3),?_,?_,?_,fr.step ((f3.mono (T:=w.heap.size::(ay (.slice av k cv)).toList) (λq hq=>List.mem_cons_of_mem _ hq)).setCell (p:=⟨w.heap.size,0,none⟩) (List.mem_cons_self ..) _) (λq hq=>.inr (by
     rcases List.mem_cons.1 hq with rfl|hq
     ·exact Nat.le_refl _
     exact(HT q (by simpa using hq)).2))⟩
    ·have e:flat pc (ps++[r])=flat pc ps++[.pointer (some ⟨r,0,none⟩)]:=by rw[aP,bS];rfl
     rw[e]
     exact o3.fr ((Fr.refl [w.heap.size] w3).setCell (by simp) _) (λq hq=>by simpa using hng q hq)
    ·rw[List.nodup_append]
     refine⟨hnd,by simp,λa ha b hb=>?_⟩
     simp at hb
     subst hb
     have:=(HP a ha).2.lt
     simp at hr2
     omega
    intro p hp
    rcases List.mem_append.1 hp with hp|hp
    ·obtain⟨a,b⟩:=HP.out p hp
     refine⟨a,hold p _ _ b (by decide) (λe=>?_)⟩
     have:=b.ty
     rw[e,H1.ty] at this
     cases this
    simp at hp
    subst hp
    exact⟨by simp at hr2;omega,yF⟩
   simp[intOf];omega
 obtain rfl:k=n:=by omega
 go_wp2
 go_ret
 refine⟨_,rfl,Nat.le_refl _,⟨n1,n16,hj,vs,ps,hpl,h1,?_,hnd,λp hp=>Nat.le_trans hB (hps p hp).1,λp hp=>?_,λi p hp _=>(hps p (List.mem_of_getElem? hp)).2⟩,fr⟩
 ·rcases h2 with h|⟨g,c,hg,hv,hr⟩
  ·exact .inl h
  exact .inr ⟨g,c,by omega,hv,hr⟩
 exact⟨List.Pairwise.nil,by simp,by simp,_,(hps p (List.mem_of_getElem? hp)).2,Own.nil _ _ _ _⟩
end Rk
namespace Ob
open Go.RowKit
abbrev Ent:=ByteArray × Value
def cs (x:Ent):List Value:=[.string x.1,x.2]
theorem bh (x:Ent):(cs x).length=2:=rfl
def keys (l:List Ent):List ByteArray:=l.map (·.1)
def dw (l:List Ent)(k:ByteArray):Bool:=(keys l).any λx=>decide (x=k)
theorem dK {l:List Ent}{k:ByteArray} : dw l k=true ↔ k∈keys l:=by simp[dw]
theorem eW {l:List Ent}{i:Nat}{x:Ent}(h:l[i]? = some x):(keys l)[i]? = some x.1:=by simp[keys,h]
structure aQ (w:World)(B r:Nat)(l:List Ent):Prop where
 srt:Srt (keys l)
 len:l.length<=1000
 one:∀ x∈l,x.2.oneCell'=true
 at_:∃ v,Holds w r 176 #[v]/\Own w B 334 2 v l.length (flat cs l)
theorem aQ.fr0 {w w':World}{B r:Nat}{l:List Ent}(h:aQ w B r l)(hf:Fr [] w w'):aQ w' B r l:=by
 obtain⟨v,h1,h2⟩:=h.at_
 exact⟨h.srt,h.len,h.one,v,h1.fr hf (by simp),h2.fr0 hf⟩
theorem aQ.frx {w w':World}{B r:Nat}{l:List Ent}{Ts:List TypeId}{S:List Nat}(h:aQ w B r l)(hf:FrX B Ts S w w')(h1:176∉Ts)(h2:334∉Ts)
  (hS:∀ x,x∈S->∃ u,u≠176/\u≠334/\cB w x=some u):aQ w' B r l:=by
 obtain⟨v,q1,q2⟩:=h.at_
 refine⟨h.srt,h.len,h.one,v,q1.frx hf h1 (q1.AW λx hx=>?_),q2.frx hf h2 λg hg hx=>?_⟩
 ·obtain⟨u,a,_,b⟩:=hS x hx
  exact⟨u,a,b⟩
 obtain⟨u,_,a,b⟩:=hS g hx
 rw[(q2.ty hg).1] at b
 cases b
 exact a rfl
theorem dU:(prog.info? 334).map (λi=>(i.zero,i.size,i.bytes))=some (some (.agg #[.string ByteArray.empty,.pointer none]),2,24):=by kernel_rfl
theorem bZ (w:World)(B:Nat):Calls prog 66 #[] w λe w'=>∃ r,e = .returned (.pointer (some ⟨r,0,none⟩))/\w.heap.size<=r/\aQ w' B r []/\Fr [] w w':=by
 go_enter func66,ntmps66
 go_wp2
 go_ret
 exact⟨_,rfl,Nat.le_refl _,⟨List.Pairwise.nil,by simp,by simp,_,Holds.new _ _ _,Own.nil _ _ _ _⟩,rZ.alloc _⟩
theorem eZ (w:World)(key k:ByteArray)(v:Value):Calls prog 270 #[.agg #[.string key,v],.string k] w λe w'=>e = .returned (.int .i64 (Lib.compareBytes key.data.toList k.data.toList))/\Fr [] w w':=by
 go_enter func270,ntmps270
 go_wp2_with fail
 refine(gy key k _).mono ?_
 rintro e w' ⟨rfl,rfl⟩
 go_wp2
 go_ret
 exact⟨rfl,rZ.alloc _⟩
theorem gN (w:World)(B:Nat)(v:Value)(l:List Ent)(k:ByteArray)(hs:Srt (keys l))(hl:l.length<=1000)(h:Own w B 334 2 v l.length (flat cs l)) :
  Calls prog 269 #[v,.string k,.func (.func 270) #[] #[]] w λe w'=>e = .returned (.tuple #[.int .i64 (idx (keys l) k),.bool (dw l k)])/\Fr [] w w':=by
 obtain⟨a,c,rfl⟩:=h.form
 have hkl:(keys l).length=l.length:=by simp[keys]
 have HL:=hid hkl
 have HS:=hid hs
 clear hkl hs
 go_enter func269,ntmps269
 go_wp2
 go_loopw [9,10] (λi j wr=>∃ a b:Nat,a<=b/\b<=l.length/\i = .int .i64 a/\j = .int .i64 b/\Lo (keys l) k a/\Hi (keys l) k b/\Fr [] w wr) (λi j _=>(intOf j).toNat - (intOf i).toNat)
 case atStart=>exact⟨0,l.length,Nat.zero_le _,Nat.le_refl _,rfl,rfl,kM _ _,HL.out ▸ uI _ _,rZ⟩
 obtain⟨a',b,hab,hbn,rfl,rfl,hlo,hhi,fr⟩:=hrel
 by_cases hlt:a'<b
 ·have hlt':(a':Int)<(b:Int):=by omega
  obtain⟨m,hm⟩:∃ m:Nat,m=(a'+b) / 2:=⟨_,rfl⟩
  have hm1:a'<=m:=by omega
  have hm2:m<b:=by omega
  have hx:l[m]? = some l[m]:=List.getElem?_eq_getElem (by omega)
  obtain⟨x,hx'⟩:∃ x,l[m]'(by omega)=x:=⟨_,rfl⟩
  rw[hx'] at hx
  clear hx'
  obtain⟨g,c2,hg,hv,hr,hgl,hcell⟩:=(h.fr0 fr).cell bh rfl hx
  cases hv
  have q0:wr.cell? ⟨g,m*2,none⟩=some (.string x.1):=hcell 0 _ (by omega) rfl
  have q1:wr.cell? ⟨g,m*2+1,none⟩=some x.2:=hcell 1 _ (by omega) rfl
  have hkx:=eW hx
  have hmi:((a':Int)+(b:Int)) / 2=(m:Int):=by omega
  have hmn:(m:Int)<(l.length:Int):=by omega
  have HK:=hid hkx
  have HLo:=hid hlo
  have HHi:=hid hhi
  clear hm hx hcell hkx hr hlo hhi
  by_cases hc:Lib.compareBytes x.1.data.toList k.data.toList<0
  ·have HC:=hid (lV.1 hc)
   go_wp2_with fail
   refine uu (eZ _ x.1 k x.2) λw' f2=>?_
   go_wp2_with fail
   go_roundw
   case rel=>exact⟨m+1,b,by omega,hbn,by go_num,rfl,pV HS HK HC,HHi,fr.trans f2⟩
   simp[intOf];omega
  have HC:=hid (λh=>hc (lV.2 h))
  go_wp2_with fail
  refine uu (eZ _ x.1 k x.2) λw' f2=>?_
  go_wp2_with fail
  go_roundw
  case rel=>exact⟨a',m,hm1,by omega,rfl,rfl,HLo,qg HS HK HC,fr.trans f2⟩
  simp[intOf];omega
 obtain rfl:a'=b:=by omega
 have hiq:=idx_eq (by rw[HL];exact hbn) hlo hhi
 have HI:=hid hiq
 by_cases hlt2:a'<l.length
 ·have hx:l[a']? = some l[a']:=List.getElem?_eq_getElem hlt2
  obtain⟨x,hx'⟩:∃ x,l[a']'(by omega)=x:=⟨_,rfl⟩
  rw[hx'] at hx
  clear hx'
  obtain⟨g,c2,hg,hv,hr,hgl,hcell⟩:=(h.fr0 fr).cell bh rfl hx
  cases hv
  have q0:wr.cell? ⟨g,a'*2,none⟩=some (.string x.1):=hcell 0 _ (by omega) rfl
  have q1:wr.cell? ⟨g,a'*2+1,none⟩=some x.2:=hcell 1 _ (by omega) rfl
  have hkx:=eW hx
  have hmn:(a':Int)<(l.length:Int):=by omega
  have hkk:dw l k=decide (x.1=k):=by
   rw[Bool.eq_iff_iff,dK,decide_eq_true_eq]
   constructor
   ·intro hm
    have:=iZ HS hm
    rw[hiq,hkx] at this
    exact Option.some.inj this
   rintro rfl
   exact List.mem_of_getElem? hkx
  have HK:=hid hkk
  have HX:=hid (qA (a:=x.1) (b:=k))
  clear hiq hx hcell hkx hr hlo hhi hkk
  go_wp2_with fail
  refine uu (eZ _ x.1 k x.2) λw' f2=>?_
  go_wp2_with fail
  go_ret2
  refine⟨?_,fr.trans f2⟩
  rw[HI,HK,<-HX]
  rfl
 obtain rfl:a'=l.length:=by omega
 have hkk:dw l k=false:=by
  rw[<-Bool.not_eq_true,dK]
  intro hm
  have:=iZ HS hm
  rw[hiq] at this
  have:=(List.getElem?_eq_some_iff.1 this).1
  rw[HL] at this
  omega
 have HK:=hid hkk
 clear hiq hkk hlo hhi
 go_wp2
 go_ret2
 exact⟨by rw[HI,HK];rfl,fr⟩
theorem bp (w:World)(B r:Nat)(l:List Ent)(k:ByteArray)(h:aQ w B r l) :
  Calls prog 235 #[.pointer (some ⟨r,0,none⟩),.string k] w λe w'=>e = .returned (.tuple #[.int .i64 (idx (keys l) k),.bool (dw l k)])/\Fr [] w w':=by
 obtain⟨v,h1,h2⟩:=h.at_
 have c0:=h1.cell 0
 have hs:=hid h.srt
 have hl:=h.len
 go_enter func235,ntmps235
 go_wp2_with fail
 refine uu (gN w B v l k hs.out hl h2) λw' f1=>?_
 go_wp2_with fail
 go_ret2
 exact⟨rfl,f1⟩
theorem nR (w:World)(B r:Nat)(l:List Ent)(k:ByteArray)(h:aQ w B r l)(hk:dw l k=false) :
  Calls prog 199 #[.pointer (some ⟨r,0,none⟩),.string k] w λe w'=>e = .returned (.tuple #[.pointer none,.bool false])/\Fr [] w w':=by
 have HK:=hid hk
 clear hk
 go_enter func199,ntmps199
 go_wp2_with fail
 refine uu (bp w B r l k h) λw' f1=>?_
 rw[HK]
 go_wp2_with fail
 go_ret2
 exact⟨rfl,f1⟩
theorem kS (w:World)(B r:Nat)(l:List Ent)(k:ByteArray)(x:Ent)(h:aQ w B r l)(hk:dw l k=true)(hx:l[idx (keys l) k]? = some x) :
  Calls prog 199 #[.pointer (some ⟨r,0,none⟩),.string k] w λe w'=>e = .returned (.tuple #[x.2,.bool true])/\Fr [] w w':=by
 have HK:=hid hk
 clear hk
 go_enter func199,ntmps199
 go_wp2_with fail
 refine uu (bp w B r l k h) λw' f1=>?_
 rw[HK]
 obtain⟨v,h1,h2⟩:=(h.fr0 f1).at_
 obtain⟨g,c2,hg,rfl,hr,hgl,hcell⟩:=h2.cell bh rfl hx
 have c0:=h1.cell 0
 have hm:=(List.getElem?_eq_some_iff.1 hx).1
 have hmn:(idx (keys l) k:Int)<(l.length:Int):=by omega
 obtain⟨m,hm'⟩:∃ m,idx (keys l) k=m:=⟨_,rfl⟩
 rw[hm'] at hx hm hmn hcell ⊢
 have q0:w'.cell? ⟨g,m*2,none⟩=some (.string x.1):=hcell 0 _ (by omega) rfl
 have q1:w'.cell? ⟨g,m*2+1,none⟩=some x.2:=hcell 1 _ (by omega) rfl
 clear hm' hx hcell hr h h2
 go_wp2_with fail
 go_ret2
 exact⟨rfl,f1⟩
theorem cQ {x:Ent}(h:x.2.oneCell'=true):∀ u∈cs x,u.oneCell'=true:=by
 intro u hu
 simp only[cs,List.mem_cons,List.not_mem_nil,or_false] at hu
 rcases hu with rfl|rfl
 ·rfl
 exact h
theorem gS (w:World)(B:Nat)(v:Value)(l:List Ent)(x:Ent)(vb n:Nat)(h:Own w B 334 2 v n (flat cs l))(hb:Cells w (some ⟨vb,0,none⟩) (cs x))(h1:x.2.oneCell'=true)(hl:n<=1000)(hB:B<=w.heap.size) :
  Calls prog 236 #[v,.int .i64 n,.slice (some ⟨vb,0,none⟩) 1 1] w λe w'=>∃ v',e = .returned v'/\Own w' B 334 2 v' (n+1) (flat cs l++cs x)/\Fr (ay v).toList w w'/\(ay v'=ay v∨∃ g,ay v'=some g/\w.heap.size<=g):=by
 obtain⟨i5,hi,hz0,hz1,hz2⟩:=info_parts dU
 have hs:=h.sl
 have h0:∀ g,ay v=some g->B<=g:=λg hg=>(h.ty hg).2
 have H0:=hid h0
 have H1:=hid h1
 clear h0 h1
 rcases h with⟨rfl,rfl,_⟩|⟨g,cap,hg,rfl,hr⟩
 ·go_enter func236,ntmps236
  go_wp2_with (at_builtin;refine af rfl (.tmp 23) (.tmp 24) 174 rfl i5 _ 24 underlying174 hi hz0 hz1 hz2 rfl (by decide) _ _ rfl hs _ 1 1 (cs x) rfl rfl hb (cQ H1) (by unfold maxLen;omega) (by omega) ?_;intro v' w2 own' hs1 hf1 ho1 hm1)
  go_ret
  obtain⟨k1,k2⟩:=bn hB H0.out hs1 ho1 (hm1 (by omega))
  exact⟨v',rfl,k1,hf1,k2 ▸ ho1⟩
 have hle:=hr.le
 go_enter func236,ntmps236
 go_wp2_with (at_builtin;refine af rfl (.tmp 23) (.tmp 24) 174 rfl i5 _ 24 underlying174 hi hz0 hz1 hz2 rfl (by decide) _ _ rfl hs _ 1 1 (cs x) rfl rfl hb (cQ H1) (by unfold maxLen;omega) (by omega) ?_;intro v' w2 own' hs1 hf1 ho1 hm1)
 all_goals
  go_ret
  obtain⟨k1,k2⟩:=bn hB H0.out hs1 ho1 (hm1 (by omega))
  exact⟨v',rfl,k1,hf1,k2 ▸ ho1⟩
theorem iW (w:World)(B r:Nat)(l:List Ent)(k:ByteArray)(z:Addr)(h:aQ w B r l)(hk:∀ x∈l,kl x.1<kl k)(hl:l.length<1000)(hB:B<=w.heap.size)(hr:B<=r) :
  Calls prog 201 #[.pointer (some ⟨r,0,none⟩),.string k,.pointer (some z)] w λe w'=>e = .returned (.bool true)/\aQ w' B r (l++[(k,.pointer (some z))])/\FrX B [334] [r] w w':=by
 have hno:dw l k=false:=by
  rw[<-Bool.not_eq_true,dK]
  intro hm
  obtain⟨x,hx,rfl⟩:=List.mem_map.1 hm
  exact bG _ (hk x hx)
 have hidx:idx (keys l) k=l.length:=idx_eq (by simp[keys]) (λt y hy _=>by
  obtain⟨x,hx,rfl⟩:=List.mem_map.1 (List.mem_of_getElem? hy)
  exact hk x hx) (λt y hy ht=>by
  have:=(List.getElem?_eq_some_iff.1 hy).1
  simp[keys] at this
  omega)
 have hsrt:Srt (keys (l++[(k,.pointer (some z))])):=by
  have:=h.srt
  unfold Srt keys at *
  rw[List.map_append,List.pairwise_append]
  refine⟨this,by simp,?_⟩
  intro a ha b hb
  simp at hb
  subst hb
  obtain⟨x,hx,rfl⟩:=List.mem_map.1 ha
  exact hk x hx
 have HN:=hid hno
 have HI:=hid hidx
 have HS:=hid hsrt
 have HO:=hid h.one
 clear hno hidx hsrt hk
 go_enter func201,ntmps201
 go_wp2_with fail
 refine uu (bp w B r l k h) λw1 f1=>?_
 rw[HN,HI]
 obtain⟨v,h1,h2⟩:=(h.fr0 f1).at_
 have c0:=h1.cell 0
 have hB1:=f1.size
 have f2:Fr [] w1 (w1.alloc (.cells #[.string k,.pointer (some z)] 334)):=rZ.alloc _
 have hb:=Holds.new w1 334 #[.string k,.pointer (some z)]
 have hty:=λg (hg:ay v=some g)=>h2.ty hg
 have HT:=hid hty
 clear hty
 go_wp2_with fail
 refine(gS _ B v l (k,.pointer (some z)) _ l.length (h2.fr0 f2) (λj u hu=>⟨_,rfl,by rw[dZ,Nat.zero_add,hb.cell j];simpa[cs] using hu⟩) rfl (by omega) (by simp;omega)).mono ?_
 rintro e w2 ⟨v',rfl,q1,q2,q3⟩
 obtain⟨a',c',rfl⟩:=q1.form
 have hrv:∀ g,ay v=some g->r≠g:=λg hg e=>by
  have:=(HT g hg).1
  rw[<-e,h1.ty] at this
  cases this
 have h1':=(h1.fr f2 (by simp)).fr q2 (by intro hx;exact hrv r (by simpa using hx) rfl)
 have d0:=h1'.frozen 0
 have d1:=h1'.cell 0
 clear c0
 go_wp2_with fail
 go_ret
 have hne:∀ g,ay (.slice a' (l.length+1) c')=some g->r≠g:=λg hg=>by
  rcases q3 with q3|⟨g',a,b⟩
  ·exact hrv g (q3 ▸ hg)
  rw[a] at hg
  cases hg
  have:=h1.lt
  simp at b
  omega
 refine⟨rfl,⟨HS,by simp;omega,?_,_,h1'.set 0 _,?_⟩,?_⟩
 ·intro x hx
  rcases List.mem_append.1 hx with hx|hx
  ·exact HO x hx
  simp at hx
  subst hx
  rfl
 ·have e1:flat cs (l++[(k,.pointer (some z))])=flat cs l++cs (k,.pointer (some z)):=by rw[aP,bS]
  rw[e1,List.length_append]
  exact q1.fr ((Fr.refl [r] w2).setCell (by simp) _) (λg hg=>by simpa using (hne g hg).symm)
 have g1:FrX B [334] [r] w w1:=FrX.aA f1
 have g2:FrX B [334] [r] w1 w2:=(FrX.aA f2).trans (FrX.aB q2 (λx hx=>(HT x (by simpa using hx)).2) (λx hx=>⟨334,by simp,(h2.fr0 f2).ty (by simpa using hx) |>.1⟩))
 have g3:FrX B [334] [r] w2 (w2.setCell ⟨r,0,none⟩ (.slice a' (l.length+1) c')):=FrX.bY ((Fr.refl [r] w2).setCell (by simp) _) (by simpa using hr)
 exact g1.trans (g2.trans g3)
end Ob
namespace Oc
open Go.RowKit
abbrev Ent:=ByteArray × Int × ByteArray
def cs (x:Ent):List Value:=[.string x.1,.int .i64 x.2.1,.string x.2.2]
theorem bh (x:Ent):(cs x).length=3:=rfl
def keys (l:List Ent):List ByteArray:=l.map (·.1)
def dw (l:List Ent)(k:ByteArray):Bool:=(keys l).any λx=>decide (x=k)
theorem dK {l:List Ent}{k:ByteArray} : dw l k=true ↔ k∈keys l:=by simp[dw]
theorem eW {l:List Ent}{i:Nat}{x:Ent}(h:l[i]? = some x):(keys l)[i]? = some x.1:=by simp[keys,h]
structure aQ (w:World)(B r:Nat)(l:List Ent):Prop where
 srt:Srt (keys l)
 len:l.length<=1000
 one:∀ x∈l,(cs x).length=3
 at_:∃ v,Holds w r 314 #[v]/\Own w B 312 3 v l.length (flat cs l)
theorem aQ.fr0 {w w':World}{B r:Nat}{l:List Ent}(h:aQ w B r l)(hf:Fr [] w w'):aQ w' B r l:=by
 obtain⟨v,h1,h2⟩:=h.at_
 exact⟨h.srt,h.len,h.one,v,h1.fr hf (by simp),h2.fr0 hf⟩
theorem aQ.frx {w w':World}{B r:Nat}{l:List Ent}{Ts:List TypeId}{S:List Nat}(h:aQ w B r l)(hf:FrX B Ts S w w')(h1:314∉Ts)(h2:312∉Ts)
  (hS:∀ x,x∈S->∃ u,u≠314/\u≠312/\cB w x=some u):aQ w' B r l:=by
 obtain⟨v,q1,q2⟩:=h.at_
 refine⟨h.srt,h.len,h.one,v,q1.frx hf h1 (q1.AW λx hx=>?_),q2.frx hf h2 λg hg hx=>?_⟩
 ·obtain⟨u,a,_,b⟩:=hS x hx
  exact⟨u,a,b⟩
 obtain⟨u,_,a,b⟩:=hS g hx
 rw[(q2.ty hg).1] at b
 cases b
 exact a rfl
theorem dU:(prog.info? 312).map (λi=>(i.zero,i.size,i.bytes))=some (some (.agg #[.string ByteArray.empty,.int .i64 0,.string ByteArray.empty]),3,40):=by kernel_rfl
theorem bZ (w:World)(B:Nat):Calls prog 203 #[] w λe w'=>∃ r,e = .returned (.pointer (some ⟨r,0,none⟩))/\w.heap.size<=r/\aQ w' B r []/\Fr [] w w':=by
 go_enter func203,ntmps203
 go_wp2
 go_ret
 exact⟨_,rfl,Nat.le_refl _,⟨List.Pairwise.nil,by simp,by simp,_,Holds.new _ _ _,Own.nil _ _ _ _⟩,rZ.alloc _⟩
theorem eZ (w:World)(key k:ByteArray)(v1:Int)(v2:ByteArray):Calls prog 253 #[.agg #[.string key,.int .i64 v1,.string v2],.string k] w λe w'=>e = .returned (.int .i64 (Lib.compareBytes key.data.toList k.data.toList))/\Fr [] w w':=by
 go_enter func253,ntmps253
 go_wp2_with fail
 refine(gy key k _).mono ?_
 rintro e w' ⟨rfl,rfl⟩
 go_wp2
 go_ret
 exact⟨rfl,rZ.alloc _⟩
theorem gN (w:World)(B:Nat)(v:Value)(l:List Ent)(k:ByteArray)(hs:Srt (keys l))(hl:l.length<=1000)(h:Own w B 312 3 v l.length (flat cs l)) :
  Calls prog 252 #[v,.string k,.func (.func 253) #[] #[]] w λe w'=>e = .returned (.tuple #[.int .i64 (idx (keys l) k),.bool (dw l k)])/\Fr [] w w':=by
 obtain⟨a,c,rfl⟩:=h.form
 have hkl:(keys l).length=l.length:=by simp[keys]
 have HL:=hid hkl
 have HS:=hid hs
 clear hkl hs
 go_enter func252,ntmps252
 go_wp2
 go_loopw [9,10] (λi j wr=>∃ a b:Nat,a<=b/\b<=l.length/\i = .int .i64 a/\j = .int .i64 b/\Lo (keys l) k a/\Hi (keys l) k b/\Fr [] w wr) (λi j _=>(intOf j).toNat - (intOf i).toNat)
 case atStart=>exact⟨0,l.length,Nat.zero_le _,Nat.le_refl _,rfl,rfl,kM _ _,HL.out ▸ uI _ _,rZ⟩
 obtain⟨a',b,hab,hbn,rfl,rfl,hlo,hhi,fr⟩:=hrel
 by_cases hlt:a'<b
 ·have hlt':(a':Int)<(b:Int):=by omega
  obtain⟨m,hm⟩:∃ m:Nat,m=(a'+b) / 2:=⟨_,rfl⟩
  have hm1:a'<=m:=by omega
  have hm2:m<b:=by omega
  have hx:l[m]? = some l[m]:=List.getElem?_eq_getElem (by omega)
  obtain⟨x,hx'⟩:∃ x,l[m]'(by omega)=x:=⟨_,rfl⟩
  rw[hx'] at hx
  clear hx'
  obtain⟨g,c2,hg,hv,hr,hgl,hcell⟩:=(h.fr0 fr).cell bh rfl hx
  cases hv
  have q0:wr.cell? ⟨g,m*3,none⟩=some (.string x.1):=hcell 0 _ (by omega) rfl
  have q1:wr.cell? ⟨g,m*3+1,none⟩=some (.int .i64 x.2.1):=hcell 1 _ (by omega) rfl
  have q2:wr.cell? ⟨g,m*3+2,none⟩=some (.string x.2.2):=hcell 2 _ (by omega) rfl
  have hkx:=eW hx
  have hmi:((a':Int)+(b:Int)) / 2=(m:Int):=by omega
  have hmn:(m:Int)<(l.length:Int):=by omega
  have HK:=hid hkx
  have HLo:=hid hlo
  have HHi:=hid hhi
  clear hm hx hcell hkx hr hlo hhi
  by_cases hc:Lib.compareBytes x.1.data.toList k.data.toList<0
  ·have HC:=hid (lV.1 hc)
   go_wp2_with fail
   refine uu (eZ _ x.1 k x.2.1 x.2.2) λw' f2=>?_
   go_wp2_with fail
   go_roundw
   case rel=>exact⟨m+1,b,by omega,hbn,by go_num,rfl,pV HS HK HC,HHi,fr.trans f2⟩
   simp[intOf];omega
  have HC:=hid (λh=>hc (lV.2 h))
  go_wp2_with fail
  refine uu (eZ _ x.1 k x.2.1 x.2.2) λw' f2=>?_
  go_wp2_with fail
  go_roundw
  case rel=>exact⟨a',m,hm1,by omega,rfl,rfl,HLo,qg HS HK HC,fr.trans f2⟩
  simp[intOf];omega
 obtain rfl:a'=b:=by omega
 have hiq:=idx_eq (by rw[HL];exact hbn) hlo hhi
 have HI:=hid hiq
 by_cases hlt2:a'<l.length
 ·have hx:l[a']? = some l[a']:=List.getElem?_eq_getElem hlt2
  obtain⟨x,hx'⟩:∃ x,l[a']'(by omega)=x:=⟨_,rfl⟩
  rw[hx'] at hx
  clear hx'
  obtain⟨g,c2,hg,hv,hr,hgl,hcell⟩:=(h.fr0 fr).cell bh rfl hx
  cases hv
  have q0:wr.cell? ⟨g,a'*3,none⟩=some (.string x.1):=hcell 0 _ (by omega) rfl
  have q1:wr.cell? ⟨g,a'*3+1,none⟩=some (.int .i64 x.2.1):=hcell 1 _ (by omega) rfl
  have q2:wr.cell? ⟨g,a'*3+2,none⟩=some (.string x.2.2):=hcell 2 _ (by omega) rfl
  have hkx:=eW hx
  have hmn:(a':Int)<(l.length:Int):=by omega
  have hkk:dw l k=decide (x.1=k):=by
   rw[Bool.eq_iff_iff,dK,decide_eq_true_eq]
   constructor
   ·intro hm
    have:=iZ HS hm
    rw[hiq,hkx] at this
    exact Option.some.inj this
   rintro rfl
   exact List.mem_of_getElem? hkx
  have HK:=hid hkk
  have HX:=hid (qA (a:=x.1) (b:=k))
  clear hiq hx hcell hkx hr hlo hhi hkk
  go_wp2_with fail
  refine uu (eZ _ x.1 k x.2.1 x.2.2) λw' f2=>?_
  go_wp2_with fail
  go_ret2
  refine⟨?_,fr.trans f2⟩
  rw[HI,HK,<-HX]
  rfl
 obtain rfl:a'=l.length:=by omega
 have hkk:dw l k=false:=by
  rw[<-Bool.not_eq_true,dK]
  intro hm
  have:=iZ HS hm
  rw[hiq] at this
  have:=(List.getElem?_eq_some_iff.1 this).1
  rw[HL] at this
  omega
 have HK:=hid hkk
 clear hiq hkk hlo hhi
 go_wp2
 go_ret2
 exact⟨by rw[HI,HK];rfl,fr⟩
theorem lN {l:List Ent}(hs:Srt (keys l)){k:ByteArray}(h:dw l k=true):∃ x,l[idx (keys l) k]? = some x/\x.1=k:=by
 have:=iZ hs (dK.1 h)
 simp only[keys,List.getElem?_map,Option.map_eq_some_iff] at this
 obtain⟨x,h1,h2⟩:=this
 exact⟨x,h1,h2⟩
theorem bp (w:World)(B r:Nat)(l:List Ent)(k:ByteArray)(h:aQ w B r l) :
  Calls prog 219 #[.pointer (some ⟨r,0,none⟩),.string k] w λe w'=>e = .returned (.tuple #[.int .i64 (idx (keys l) k),.bool (dw l k)])/\Fr [] w w':=by
 obtain⟨v,h1,h2⟩:=h.at_
 have c0:=h1.cell 0
 have hs:=hid h.srt
 have hl:=h.len
 go_enter func219,ntmps219
 go_wp2_with fail
 refine uu (gN w B v l k hs.out hl h2) λw' f1=>?_
 go_wp2_with fail
 go_ret2
 exact⟨rfl,f1⟩
theorem vR (W:World)(tmps:Array Value)(g:Nat)(k:Int)(s:ByteArray)(b:Bool)(hp:Holds W g 259 #[.int .i64 k,.string s])(h4:tmps[4]?.getD undef = .pointer (some ⟨g,0,none⟩))(h5:tmps[5]?.getD undef = .bool b) :
  (results f215 tmps).run prog W = .ok (.tuple #[.agg #[.int .i64 k,.string s],.bool b]) W:=by
 have q0:=hp.cell 0
 have q1:=hp.cell 1
 have hr:f215.results=#[.cell 4 259,.tmp 5]:=rfl
 simp at q0 q1
 simp[results,h4,h5,go_sem,q0,q1]
theorem nR (w:World)(B r:Nat)(l:List Ent)(k:ByteArray)(h:aQ w B r l)(hk:dw l k=false) :
  Calls prog 215 #[.pointer (some ⟨r,0,none⟩),.string k] w λe w'=>e = .returned (.tuple #[.agg #[.int .i64 0,.string ByteArray.empty],.bool false])/\Fr [] w w':=by
 have HK:=hid hk
 clear hk
 have f0:Fr [] w (w.alloc (.cells #[.int .i64 0,.string ⟨#[]⟩] 259)):=rZ.alloc _
 have b0:=Holds.new w 259 #[.int .i64 0,.string ⟨#[]⟩]
 go_enter func215,ntmps215
 go_wp2_with fail
 refine uu (bp _ B r l k (h.fr0 f0)) λw1 f1=>?_
 rw[HK]
 have b1:=b0.fr f1 (by simp)
 have c0:=b1.cell 0
 have c1:=b1.cell 1
 have z0:=b1.frozen 0
 have z1:=b1.frozen 1
 simp at c0 c1
 have hlt:w.heap.size<w1.heap.size:=b1.lt
 go_wp2_with fail
 exact bodyPost_ret (vR _ _ w.heap.size 0 ⟨#[]⟩ _ (((b1.set 0 _).set 1 _).alloc _) rfl rfl) rfl ⟨rfl,((((f0.trans f1).aw (Nat.le_refl _) _).aw (Nat.le_refl _) _).alloc _)⟩
theorem kS (w:World)(B r:Nat)(l:List Ent)(k:ByteArray)(x:Ent)(h:aQ w B r l)(hk:dw l k=true)(hx:l[idx (keys l) k]? = some x) :
  Calls prog 215 #[.pointer (some ⟨r,0,none⟩),.string k] w λe w'=>e = .returned (.tuple #[.agg #[.int .i64 x.2.1,.string x.2.2],.bool true])/\Fr [] w w':=by
 have HK:=hid hk
 clear hk
 have f0:Fr [] w (w.alloc (.cells #[.int .i64 0,.string ⟨#[]⟩] 259)):=rZ.alloc _
 have b0:=Holds.new w 259 #[.int .i64 0,.string ⟨#[]⟩]
 go_enter func215,ntmps215
 go_wp2_with fail
 refine uu (bp _ B r l k (h.fr0 f0)) λw' f1=>?_
 rw[HK]
 have b1:=b0.fr f1 (by simp)
 obtain⟨v,h1,h2⟩:=(h.fr0 (f0.trans f1)).at_
 obtain⟨g,c2,hg,rfl,hr,hgl,hcell⟩:=h2.cell bh rfl hx
 have c0:=h1.cell 0
 have z0:=b1.frozen 0
 have z1:=b1.frozen 1
 have y0:=b1.cell 0
 have y1:=b1.cell 1
 have hm:=(List.getElem?_eq_some_iff.1 hx).1
 have hmn:(idx (keys l) k:Int)<(l.length:Int):=by omega
 obtain⟨m,hm'⟩:∃ m,idx (keys l) k=m:=⟨_,rfl⟩
 rw[hm'] at hx hm hmn hcell ⊢
 have q1:w'.cell? ⟨g,m*3+1,none⟩=some (.int .i64 x.2.1):=hcell 1 _ (by omega) rfl
 have q2:w'.cell? ⟨g,m*3+2,none⟩=some (.string x.2.2):=hcell 2 _ (by omega) rfl
 clear hm' hx hcell hr h h2
 go_wp2_with fail
 exact bodyPost_ret (vR _ _ w.heap.size x.2.1 x.2.2 _ ((b1.set 0 _).set 1 _) rfl rfl) rfl ⟨rfl,(((f0.trans f1).aw (Nat.le_refl _) _).aw (Nat.le_refl _) _)⟩
theorem cQ {x:Ent}(_:(cs x).length=3):∀ u∈cs x,u.oneCell'=true:=by
 intro u hu
 simp only[cs,List.mem_cons,List.not_mem_nil,or_false] at hu
 rcases hu with rfl|rfl|rfl<;>rfl
theorem gS (w:World)(B:Nat)(v:Value)(l:List Ent)(x:Ent)(vb n:Nat)(h:Own w B 312 3 v n (flat cs l))(hb:Cells w (some ⟨vb,0,none⟩) (cs x))(h1:(cs x).length=3)(hl:n<=1000)(hB:B<=w.heap.size) :
  Calls prog 221 #[v,.int .i64 n,.slice (some ⟨vb,0,none⟩) 1 1] w λe w'=>∃ v',e = .returned v'/\Own w' B 312 3 v' (n+1) (flat cs l++cs x)/\Fr (ay v).toList w w'/\(ay v'=ay v∨∃ g,ay v'=some g/\w.heap.size<=g):=by
 obtain⟨i5,hi,hz0,hz1,hz2⟩:=info_parts dU
 have hs:=h.sl
 have h0:∀ g,ay v=some g->B<=g:=λg hg=>(h.ty hg).2
 have H0:=hid h0
 have H1:=hid h1
 clear h0 h1
 rcases h with⟨rfl,rfl,_⟩|⟨g,cap,hg,rfl,hr⟩
 ·go_enter func221,ntmps221
  go_wp2_with (at_builtin;refine af rfl (.tmp 23) (.tmp 24) 309 rfl i5 _ 40 underlying309 hi hz0 hz1 hz2 rfl (by decide) _ _ rfl hs _ 1 1 (cs x) rfl rfl hb (cQ H1) (by unfold maxLen;omega) (by omega) ?_;intro v' w2 own' hs1 hf1 ho1 hm1)
  go_ret
  obtain⟨k1,k2⟩:=bn hB H0.out hs1 ho1 (hm1 (by omega))
  exact⟨v',rfl,k1,hf1,k2 ▸ ho1⟩
 have hle:=hr.le
 go_enter func221,ntmps221
 go_wp2_with (at_builtin;refine af rfl (.tmp 23) (.tmp 24) 309 rfl i5 _ 40 underlying309 hi hz0 hz1 hz2 rfl (by decide) _ _ rfl hs _ 1 1 (cs x) rfl rfl hb (cQ H1) (by unfold maxLen;omega) (by omega) ?_;intro v' w2 own' hs1 hf1 ho1 hm1)
 all_goals
  go_ret
  obtain⟨k1,k2⟩:=bn hB H0.out hs1 ho1 (hm1 (by omega))
  exact⟨v',rfl,k1,hf1,k2 ▸ ho1⟩
theorem iW (w:World)(B r:Nat)(l:List Ent)(k:ByteArray)(z1:Int)(z2:ByteArray)(h:aQ w B r l)(hk:∀ x∈l,kl x.1<kl k)(hl:l.length<1000)(hB:B<=w.heap.size)(hr:B<=r) :
  Calls prog 170 #[.pointer (some ⟨r,0,none⟩),.string k,.agg #[.int .i64 z1,.string z2]] w λe w'=>e = .returned (.bool true)/\aQ w' B r (l++[(k,z1,z2)])/\FrX B [312] [r] w w':=by
 have hno:dw l k=false:=by
  rw[<-Bool.not_eq_true,dK]
  intro hm
  obtain⟨x,hx,rfl⟩:=List.mem_map.1 hm
  exact bG _ (hk x hx)
 have hidx:idx (keys l) k=l.length:=idx_eq (by simp[keys]) (λt y hy _=>by
  obtain⟨x,hx,rfl⟩:=List.mem_map.1 (List.mem_of_getElem? hy)
  exact hk x hx) (λt y hy ht=>by
  have:=(List.getElem?_eq_some_iff.1 hy).1
  simp[keys] at this
  omega)
 have hsrt:Srt (keys (l++[(k,z1,z2)])):=by
  have:=h.srt
  unfold Srt keys at *
  rw[List.map_append,List.pairwise_append]
  refine⟨this,by simp,?_⟩
  intro a ha b hb
  simp at hb
  subst hb
  obtain⟨x,hx,rfl⟩:=List.mem_map.1 ha
  exact hk x hx
 have HN:=hid hno
 have HI:=hid hidx
 have HS:=hid hsrt
 have HO:=hid h.one
 clear hno hidx hsrt hk
 have f0:Fr [] w (w.alloc (.cells #[.int .i64 z1,.string z2] 259)):=rZ.alloc _
 have b0:=Holds.new w 259 #[.int .i64 z1,.string z2]
 go_enter func170,ntmps170
 go_wp2_with fail
 refine uu (bp _ B r l k (h.fr0 f0)) λw1 f1'=>?_
 rw[HN,HI]
 have f1:=f0.trans f1'
 obtain⟨v,h1,h2⟩:=(h.fr0 f1).at_
 have hs0:=h2.form
 obtain⟨a0,c0',hv0⟩:=hs0
 subst hv0
 have b1:=b0.fr f1' (by simp)
 have y0:=b1.cell 0
 have y1:=b1.cell 1
 have c0:=h1.cell 0
 have z0:=h1.frozen 0
 simp at y0 y1 c0
 have hB1:=f1.size
 have hrl:=h1.lt
 have hbl:=b1.lt
 have hty:=λg (hg:ay (.slice a0 l.length c0')=some g)=>h2.ty hg
 have HT:=hid hty
 clear hty f0 b0 f1' b1
 go_wp2_with fail
 have f2:Fr [] w1 (w1.alloc (.cells #[.string k,.int .i64 z1,.string z2] 312)).drew:=(rZ.alloc _).drew
 have hb:Holds (w1.alloc (.cells #[.string k,.int .i64 z1,.string z2] 312)).drew w1.heap.size 312 #[.string k,.int .i64 z1,.string z2]:=(Holds.new _ _ _).drew
 have hins:=gS _ B _ l (k,z1,z2) w1.heap.size l.length (h2.fr0 f2) (λj u hu=>⟨_,rfl,by rw[dZ,Nat.zero_add,hb.cell j];simpa[cs] using hu⟩) rfl (by omega) (by simp;omega)
 have hrv:∀ g,ay (.slice a0 l.length c0')=some g->r≠g:=λg hg e=>by
  have:=(HT g hg).1
  rw[<-e,h1.ty] at this
  cases this
 have HH:=hid hins
 have HR:=hid hrv
 have h1f:=h1.fr f2 (by simp)
 clear hins hrv
 go_region_law (go_simp;go_at_call 221;refine HH.mono ?_;rintro e w2 ⟨v',rfl,q1,q2,q3⟩;obtain⟨a',c',rfl⟩:=q1.form;have h1':=h1f.fr q2 (by intro hx;exact HR r (by simpa using hx) rfl);have d0:=h1'.frozen 0;have d1:=h1'.cell 0;simp only[List.getElem?_toArray,List.getElem?_cons_zero] at d1)
 all_goals
  go_wp2_with fail
  go_ret
  have hne:∀ g,ay (.slice a' (l.length+1) c')=some g->r≠g:=λg hg=>by
   rcases q3 with q3|⟨g',a,b⟩
   ·exact HR g (q3 ▸ hg)
   rw[a] at hg
   cases hg
   simp at b
   omega
  refine⟨rfl,⟨HS,by simp;omega,?_,_,h1'.set 0 _,?_⟩,?_⟩
  ·intro x hx
   rfl
  ·have e1:flat cs (l++[(k,z1,z2)])=flat cs l++cs (k,z1,z2):=by rw[aP,bS]
   rw[e1,List.length_append]
   exact q1.fr ((Fr.refl [r] w2).setCell (by simp) _) (λg hg=>by simpa using (hne g hg).symm)
  have g1:FrX B [312] [r] w w1:=FrX.aA f1
  have g2:FrX B [312] [r] w1 w2:=(FrX.aA f2).trans (FrX.aB q2 (λx hx=>(HT x (by simpa using hx)).2) (λx hx=>⟨312,by simp,(h2.fr0 f2).ty (by simpa using hx) |>.1⟩))
  have g3:FrX B [312] [r] w2 (w2.setCell ⟨r,0,none⟩ (.slice a' (l.length+1) c')):=FrX.bY ((Fr.refl [r] w2).setCell (by simp) _) (by simpa using hr)
  exact g1.trans (g2.trans g3)
theorem mQ (w:World):(zeroValue 312).run prog w = .ok (.agg #[.string ByteArray.empty,.int .i64 0,.string ByteArray.empty]) w:=by kernel_rfl
theorem eH (w:World)(g cap k:Nat)(l:List Ent)(hr:Row w 312 3 g l.length cap (flat cs l))(hone:∀ u∈flat cs (l.drop (k+1)),u.oneCell'=true)(hk:k<l.length)(hl:l.length<=1000) :
  Calls prog 220 #[.slice (some ⟨g,0,none⟩) l.length cap,.int .i64 k,.int .i64 ((k:Int)+1)] w λe w'=>e = .returned (.slice (some ⟨g,0,none⟩) (l.length - 1) cap)/\Row w' 312 3 g (l.length - 1) cap (flat cs (l.take k++l.drop (k+1)))/\Fr [g] w w':=by
 obtain⟨i2,hi,hz0,hz1,hz2⟩:=info_parts dU
 obtain⟨n,hn⟩:∃ n,n=l.length:=⟨_,rfl⟩
 have hle:=hr.le
 have hcm:=hr.lW
 unfold maxLen at hcm
 rw[<-hn] at hle hr hk hl ⊢
 have hnews:Cells w (some ⟨g,(k+1)*3,none⟩) (flat cs (l.drop (k+1))):=by
  have:=hr.cells.drop ((k+1)*3)
  rw[lP bh]
  simpa using this
 have hlen:(flat cs (l.drop (k+1))).length=(n - (k+1))*3:=by rw[gw bh,List.length_drop,<-hn]
 obtain⟨A,hA,hsrc⟩:∃ A:Addr,(if cap=k+1 then some (⟨g,0,none⟩:Addr) else some ⟨g,(k+1)*3,none⟩)=some A/\Cells w (some A) (flat cs (l.drop (k+1))):=by
  by_cases h:cap=k+1
  ·refine⟨⟨g,0,none⟩,by simp[h],?_⟩
   have e0:flat cs (l.drop (k+1))=[]:=List.eq_nil_of_length_eq_zero (by omega)
   rw[e0]
   exact Cells.nil _
  exact⟨_,by simp[h],hnews⟩
 have hkc:k<=cap:=by omega
 have hkc1:k+1<=cap:=by omega
 have hi0:(0:Int)<=(k:Int)+1:=by omega
 have hi1:(k:Int)+1<=(n:Int):=by omega
 have H1:=hid hn
 have H2:=hid hlen
 have H3:=hid hone
 clear hn hlen hone hnews
 go_enter func220,ntmps220
 go_wp2_with fail
 go_region_law ((refine eR rfl (.tmp 22) (.tmp 25) 309 rfl i2 underlying309 hi hz1 hr.drew k (by omega) (by simp[Act.eval,Act.put]) A (n - (k+1)) (cap - (k+1)) (flat cs (l.drop (k+1))) (by simp[Act.eval,Act.put]) H2.out (hsrc.fr0 ((Fr.refl [] w).drew)) H3.out (by omega) ?_;intro w1 hr1 f1))
 have e1:k+(n - (k+1))=n - 1:=by omega
 have e2:(flat cs l).take (k*3)++flat cs (l.drop (k+1))=flat cs (l.take k++l.drop (k+1)):=by rw[aP,iJ bh]
 rw[e1,e2] at hr1
 rw[e1]
 clear e1 e2 hA hsrc hkc hkc1 hi0 hi1
 obtain⟨m,hm⟩:∃ m,m=n - 1:=⟨_,rfl⟩
 have e3:n=m+1:=by omega
 rw[<-hm] at hr1 ⊢
 have HM:=hid hm
 subst e3
 clear hm
 have hA2:(if cap=m then some (⟨g,0,none⟩:Addr) else some ⟨g,m*3,none⟩)=some ⟨g,m*3,none⟩:=by rw[if_neg (by omega)]
 have hj0:(m:Int)<=(m:Int)+1:=by omega
 have hj1:m+1<=cap:=hle
 have hj2:m<=m+1:=by omega
 obtain⟨w2,hrun,hr2,f2⟩:=ep (sz:=3) 309 0 (.agg #[.string ByteArray.empty,.int .i64 0,.string ByteArray.empty]) underlying309 mQ (by kernel_rfl) (by kernel_rfl) hr1 (m*3) 1 (cap - m) (by omega) (by omega)
 go_wp2
 go_ret
 exact⟨rfl,hr2,((Fr.refl [g] w).drew).trans (f1.trans f2)⟩
def kY (l:List Ent)(i:Nat):List Ent:=l.take i++l.drop (i+1)
theorem yM {l:List Ent}(h:Srt (keys l))(i:Nat):Srt (keys (kY l i)):=by
 have hs:(kY l i).Sublist l:=by
  unfold kY
  rw[show l.take i++l.drop (i+1)=l.eraseIdx i from (List.eraseIdx_eq_take_drop_succ l i).symm]
  exact List.eraseIdx_sublist l i
 exact h.sublist (hs.map _)
theorem DS (w:World)(B r:Nat)(l:List Ent)(k:ByteArray)(h:aQ w B r l)(hk:dw l k=true)(hB:B<=w.heap.size)(hr:B<=r) :
  Calls prog 169 #[.pointer (some ⟨r,0,none⟩),.string k] w λe w'=>e = .returned (.bool true)/\aQ w' B r (kY l (idx (keys l) k))/\FrX B [312] [r] w w':=by
 obtain⟨x,hx,_⟩:=lN h.srt hk
 have HK:=hid hk
 have HS:=hid h.srt
 have HO:=hid h.one
 clear hk
 go_enter func169,ntmps169
 go_wp2_with fail
 refine uu (bp w B r l k h) λw1 f1=>?_
 rw[HK]
 obtain⟨v,h1,h2⟩:=(h.fr0 f1).at_
 have hm:=(List.getElem?_eq_some_iff.1 hx).1
 obtain⟨m,hm'⟩:∃ m,idx (keys l) k=m:=⟨_,rfl⟩
 rw[hm'] at hx hm ⊢
 obtain⟨g,c,hg,rfl,hrow⟩:=h2.pos (by omega)
 have c0:=h1.cell 0
 have hl:=h.len
 have hty:=h2.ty (g:=g) rfl
 have hrg:r≠g:=λe=>by
  have:=hty.1
  rw[<-e,h1.ty] at this
  cases this
 have HM:=hid hm'
 clear hm' hx h h2
 go_wp2_with fail
 refine(eH w1 g c m l hrow (λu hu=>?_) hm hl).mono ?_
 ·simp only[flat,List.mem_flatMap] at hu
  obtain⟨y,hy,hu⟩:=hu
  exact cQ (HO y (List.mem_of_mem_drop hy)) u hu
 rintro e w2 ⟨rfl,hrow2,f2⟩
 have h1':=h1.fr f2 (by simpa using hrg)
 have d0:=h1'.frozen 0
 have d1:=h1'.cell 0
 clear c0
 go_wp2_with fail
 go_ret
 have hlen:(kY l m).length=l.length - 1:=by simp[kY];omega
 rw[HM]
 refine⟨rfl,⟨yM HS.out m,by omega,?_,_,h1'.set 0 _,?_⟩,?_⟩
 ·intro y hy
  unfold kY at hy
  rcases List.mem_append.1 hy with hy|hy
  ·exact HO y (List.mem_of_mem_take hy)
  exact HO y (List.mem_of_mem_drop hy)
 ·rw[hlen]
  exact .inr ⟨g,c,hg,rfl,hrow2.far (λe=>hrg e.symm) _⟩
 have g1:FrX B [312] [r] w w1:=FrX.aA f1
 have g2:FrX B [312] [r] w1 w2:=FrX.aB f2 (by simpa using hg) (λx hx=>⟨312,by simp,by simp at hx;subst hx;exact hty.1⟩)
 have g3:FrX B [312] [r] w2 (w2.setCell ⟨r,0,none⟩ (.slice (some ⟨g,0,none⟩) (l.length - 1) c)):=FrX.bY ((Fr.refl [r] w2).setCell (by simp) _) (by simpa using hr)
 exact g1.trans (g2.trans g3)
end Oc
namespace Co
open Go.RowKit
def ent (c:M.Cd):Oc.Ent:=(c.uid,c.version,c.text)
def bK (l:List M.Cd):List Oc.Ent:=l.map ent
structure bX (w:World)(B g:Nat)(c:M.Col):Prop where
 at_:∃ m r,B<=m/\B<=r/\Holds w g 257 #[.pointer (some ⟨m,0,none⟩),.pointer (some ⟨r,0,none⟩),.int .i64 c.aD,.int .i64 c.bytes,.int .i64 c.az,.int .i64 c.aG]/\Oc.aQ w B m (bK c.ah)/\Rg.bC w B r c.aj c.log
abbrev Ts:List TypeId:=[257,314,312,318,262]
theorem bX.fr0 {w w':World}{B g:Nat}{c:M.Col}(h:bX w B g c)(hf:Fr [] w w'):bX w' B g c:=by
 obtain⟨m,r,h1,h2,h3,h4,h5⟩:=h
 exact⟨m,r,h1,h2,h3.fr hf (by simp),h4.fr0 hf,h5.fr0 hf⟩
theorem bX.frx {w w':World}{B g:Nat}{c:M.Col}{Us:List TypeId}(h:bX w B g c)(hf:FrX B Us [] w w')(ht:∀ t,t∈Ts->t∉Us):bX w' B g c:=by
 obtain⟨m,r,h1,h2,h3,h4,h5⟩:=h
 exact⟨m,r,h1,h2,h3.frx hf (ht _ (by simp)) (by simp),h4.frx hf (ht _ (by simp)) (ht _ (by simp)) (by simp),h5.frx hf (ht _ (by simp)) (ht _ (by simp))⟩
theorem fY (a b:ByteArray):(a==b)=decide (a=b):=by
 obtain⟨a⟩:=a
 obtain⟨b⟩:=b
 have:((ByteArray.mk a==ByteArray.mk b):Bool)=(a==b):=rfl
 rw[this]
 by_cases h:a=b
 ·simp[h]
 rw[beq_eq_false_iff_ne.2 h]
 simp[h]
theorem iI (l:List M.Cd)(u:ByteArray):Oc.dw (bK l) u=(M.bR l u).isSome:=by
 unfold Oc.dw Oc.keys bK M.bR
 induction l with
 | nil=>rfl
 | cons c l ih =>
  rw[List.find?_cons,fY]
  simp only[List.map_cons,List.any_cons,ent]
  cases decide (c.uid=u) with
  | true=>rfl
  | false=>simpa[ent] using ih
theorem qj {l:List M.Cd}{u:ByteArray}{c:M.Cd}(hs:Srt (Oc.keys (bK l)))(h:M.bR l u=some c):c.uid=u/\(bK l)[idx (Oc.keys (bK l)) u]? = some (ent c):=by
 have hk:Oc.dw (bK l) u=true:=by rw[iI,h];rfl
 obtain⟨x,hx,hxu⟩:=Oc.lN hs hk
 have hc:=List.mem_of_find?_eq_some h
 have hcu:c.uid=u:=by
  have:=List.find?_some h
  simp only[fY] at this
  exact of_decide_eq_true this
 refine⟨hcu,?_⟩
 obtain⟨i,hi,hie⟩:=List.mem_iff_getElem.1 hc
 have q2:(Oc.keys (bK l))[i]? = some u:=by
  simp[Oc.keys,bK,ent,List.getElem?_eq_getElem hi,hie,hcu]
 have q1:=Oc.eW hx
 rw[hxu] at q1
 have hii:idx (Oc.keys (bK l)) u=i:=by
  rcases Nat.lt_trichotomy (idx (Oc.keys (bK l)) u) i with h'|h'|h'
  ·exact absurd (iq hs q1 q2 h') (bG _)
  ·exact h'
  exact absurd (iq hs q2 q1 h') (bG _)
 rw[hii]
 simp[bK,List.getElem?_eq_getElem hi,hie]
def vOf (o:Option M.Cd):Int:=(o.map (·.version)).getD 0
def tOf (o:Option M.Cd):ByteArray:=(o.map (·.text)).getD ByteArray.empty
theorem rS (w:World)(B m:Nat)(l:List M.Cd)(u:ByteArray)(h:Oc.aQ w B m (bK l)) :
  Calls prog 215 #[.pointer (some ⟨m,0,none⟩),.string u] w λe w'=>e = .returned (.tuple #[.agg #[.int .i64 (vOf (M.bR l u)),.string (tOf (M.bR l u))],.bool (M.bR l u).isSome])/\Fr [] w w':=by
 cases hc:M.bR l u with
 | none=>exact Oc.nR w B m _ u h (by rw[iI,hc];rfl)
 | some c=>exact Oc.kS w B m _ u (ent c) h (by rw[iI,hc];rfl) (qj h.srt hc).2
theorem jL (w:World)(B g:Nat)(c:M.Col)(u:ByteArray)(h:bX w B g c) :
  Calls prog 163 #[.pointer (some ⟨g,0,none⟩),.string u] w λe w'=>e = .returned (.tuple #[.int .i64 (vOf (M.bR c.ah u)),.string (tOf (M.bR c.ah u)),.bool (M.bR c.ah u).isSome])/\Fr [] w w':=by
 obtain⟨m,r,hm,hr,h1,h2,h3⟩:=h
 have c0:=h1.cell 0
 simp at c0
 clear h3
 generalize vOf (M.bR c.ah u)=v,tOf (M.bR c.ah u)=t,(M.bR c.ah u).isSome=b,rS w B m c.ah u h2=hcall
 clear h2
 go_enter func163,ntmps163
 go_wp2_with fail
 refine uu hcall λw1 f1=>?_
 go_wp2_with fail
 go_quiet (fail)
 go_wp2_with fail
 go_ret3
 exact⟨rfl,(f1.alloc _).drewN _⟩
theorem uD (w:World)(B g:Nat)(c:M.Col)(h:bX w B g c) :
  Calls prog 165 #[.pointer (some ⟨g,0,none⟩)] w λe w'=>e = .returned (.int .i64 c.az)/\w=w':=by
 obtain⟨m,r,hm,hr,h1,h2,h3⟩:=h
 have c0:=h1.cell 4
 simp at c0
 clear h2 h3
 go_enter func165,ntmps165
 go_wp2_with fail
 go_ret
 exact⟨rfl,rfl⟩
theorem rR (w:World)(B m:Nat)(l:List M.Cd)(h:Oc.aQ w B m (bK l)) :
  Calls prog 218 #[.pointer (some ⟨m,0,none⟩)] w λe w'=>e = .returned (.int .i64 l.length)/\w=w':=by
 obtain⟨_,hl,_,v,h1,h2⟩:=h
 obtain⟨a,cap,rfl⟩:=h2.form
 have c0:=h1.cell 0
 have he:(bK l).length=l.length:=by simp[bK]
 rw[he] at c0 hl
 simp at c0
 clear h2
 go_enter func218,ntmps218
 go_wp2_with fail
 go_ret
 exact⟨rfl,rfl⟩
theorem ig (w:World)(B g:Nat)(c:M.Col)(h:bX w B g c) :
  Calls prog 168 #[.pointer (some ⟨g,0,none⟩)] w λe w'=>e = .returned (.int .i64 c.ah.length)/\w=w':=by
 obtain⟨m,r,hm,hr,h1,h2,h3⟩:=h
 have c0:=h1.cell 0
 simp at c0
 clear h3
 go_enter func168,ntmps168
 go_wp2_with fail
 refine(rR w B m _ h2).mono ?_
 rintro e w1 ⟨rfl,rfl⟩
 go_wp2_with fail
 go_ret
 exact⟨rfl,rfl⟩
theorem bZ (w:World)(B:Nat)(birth:Int)(ah log:Int)(hc:1<=ah)(hl:1<=log)(hB:B<=w.heap.size) :
  Calls prog 156 #[.int .i64 birth,.int .i64 ah,.int .i64 log] w λe w'=>∃ g,e = .returned (.pointer (some ⟨g,0,none⟩))/\w.heap.size<=g/\bX w' B g { aj:=log,aD:=ah,az:=birth,aG:=birth }/\Fr [] w w':=by
 go_enter func156,ntmps156
 go_wp2_with fail
 refine(Oc.bZ w B).mono ?_
 rintro e w1 ⟨m,rfl,hm,q1,f1⟩
 go_wp2_with fail
 refine(Rg.bZ w1 B log hl).mono ?_
 rintro e w2 ⟨r,rfl,hr,q2,f2⟩
 have hmx:max ah 1=ah:=by omega
 have s1:=f1.size
 have s2:=f2.size
 go_wp2_with fail
 go_ret
 refine⟨_,rfl,by omega,⟨m,r,by omega,by omega,?_,?_,?_⟩,(f1.trans f2).alloc _⟩
 ·have:=Holds.new w2 257 #[.pointer (some ⟨m,0,none⟩),.pointer (some ⟨r,0,none⟩),.int .i64 ah,.int .i64 0,.int .i64 birth,.int .i64 birth]
  simpa[hmx] using this
 ·exact(q1.fr0 f2).fr0 (rZ.alloc _)
 exact q2.fr0 (rZ.alloc _)
end Co
