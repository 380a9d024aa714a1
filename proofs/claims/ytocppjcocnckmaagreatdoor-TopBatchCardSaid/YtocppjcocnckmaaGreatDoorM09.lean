/- Walks. -/
import Derived.Test.YtocppjcocnckmaaGreatDoorM08
import Derived.Deep.QuietTactic
import Derived.BigQuiet
set_option maxRecDepth 100000
set_option maxHeartbeats 8000000
set_option linter.all false
open Go.Lib (hid)
namespace Go.Proofs.YtocppjcocnckmaaGreatDoor
open Go.Proofs.Tryz
namespace Li
open Go.RowKit
abbrev El:=Int
def cs (x:El):List Value:=[.int .i64 x]
theorem bh (x:El):(cs x).length=1:=rfl
theorem dU:(prog.info? 3).map (λi=>(i.zero,i.size,i.bytes))=some (some (.int .i64 0),1,8):=by kernel_rfl
def bL (p:El->Bool)(l:List El):Int:=match l.findIdx? p with|some k=>(k:Int)|none=>-1
theorem dV {p:El->Bool}{l:List El}{k:Nat}{x:El}(h:∀ (j:Nat) y,l[j]? = some y->j<k->p y=false)(hx:l[k]? = some x)(hp:p x=true):bL p l=(k:Int):=by
 have hk:=List.getElem?_eq_some_iff.1 hx
 have:l.findIdx? p=some k:=by
  rw[List.findIdx?_eq_some_iff_getElem]
  refine⟨hk.1,by rw[hk.2];exact hp,λj hj=>?_⟩
  have:=h j (l[j]'(Nat.lt_trans hj hk.1)) (List.getElem?_eq_getElem _) hj
  rw[this]
  decide
 rw[bL,this]
theorem eL {p:El->Bool}{l:List El}(h:∀ (j:Nat) y,l[j]? = some y->p y=false):bL p l = -1:=by
 have:l.findIdx? p=none:=by
  rw[List.findIdx?_eq_none_iff]
  intro x hx
  obtain⟨j,hj⟩:=List.getElem?_of_mem hx
  exact h j x hj
 rw[bL,this]
theorem gT (p:El->Bool)(l:List El):decide (bL p l >= 0)=l.any p:=by
 unfold bL
 cases h:l.findIdx? p with
 | none =>
  rw[List.findIdx?_eq_none_iff] at h
  have:l.any p=false:=by rw[List.any_eq_false];intro x hx;rw[h x hx];decide
  rw[this]
  rfl
 | some k =>
  rw[List.findIdx?_eq_some_iff_getElem] at h
  obtain⟨hk,hp,_⟩:=h
  have:l.any p=true:=List.any_eq_true.2 ⟨_,List.getElem_mem hk,hp⟩
  rw[this]
  simp
theorem dr (w:World)(B:Nat)(v:Value)(l:List El)(p:El->Bool)(b:Nat)(h:Own w B 3 1 v l.length (flat cs l))(hl:l.length<=1000)
  (hp:∀ w',Fr [] w w'->∀ x,x∈l->Calls prog 173 #[.int .i64 x,.pointer (some ⟨b,0,none⟩)] w' λe w''=>e = .returned (.bool (p x))/\Fr [] w' w'') :
  Calls prog 222 #[v,.func (.func 173) #[] #[.pointer (some ⟨b,0,none⟩)]] w λe w'=>e = .returned (.int .i64 (bL p l))/\Fr [] w w':=by
 obtain⟨a,c,rfl⟩:=h.form
 have HP:=hid hp
 clear hp
 go_enter func222,ntmps222
 go_wp2
 go_loopw [5,8] (λ_ i wr=>∃ k:Nat,k<=l.length/\i = .int .i64 k/\(∀ (j:Nat) y,l[j]? = some y->j<k->p y=false)/\Fr [] w wr) (λ_ i _=>l.length - (intOf i).toNat)
 case atStart=>exact⟨0,Nat.zero_le _,rfl,λ_ _ _ h=>by omega,rZ⟩
 obtain⟨k,hk,rfl,hno,fr⟩:=hrel
 by_cases hlt:k<l.length
 ·have hx:l[k]? = some l[k]:=List.getElem?_eq_getElem hlt
  obtain⟨x,hx'⟩:∃ x,l[k]=x:=⟨_,rfl⟩
  rw[hx'] at hx
  clear hx'
  have hk1:(k:Int)<(l.length:Int):=by omega
  obtain⟨g,c2,hg,hv,hr,hgl,hcell⟩:=(h.fr0 fr).cell bh rfl hx
  cases hv
  have q0:wr.cell? ⟨g,k,none⟩=some (.int .i64 x):=by have:=hcell 0 _ (by omega) rfl;simpa using this
  have hcall:=HP.out wr fr x (List.mem_of_getElem? hx)
  have HX:=hid hx
  have HN:=hid hno
  have HC:=hid hcall
  clear hx hno hcall hr hcell
  cases hb:p x
  ·have HB:=hid hb
   clear hb
   go_wp2_with fail
   refine uu HC λw' f2=>?_
   rw[HB]
   go_wp2_with fail
   go_roundw
   case rel=>exact⟨k+1,by omega,by go_num,λj y hy hj=>by
    by_cases e:j=k
    ·subst e
     rw[HX] at hy
     cases hy
     exact HB
    exact HN.out j y hy (by omega),fr.trans f2⟩
   simp[intOf];omega
  have HB:=hid hb
  have HF:=hid (dV HN HX hb)
  clear hb
  go_wp2_with fail
  refine uu HC λw' f2=>?_
  rw[HB]
  go_wp2_with fail
  go_ret
  exact⟨bM HF.symm,fr.trans f2⟩
 obtain rfl:k=l.length:=by omega
 have HF:=hid (eL (p:=p) (l:=l) λj y hy=>hno j y hy (List.getElem?_eq_some_iff.1 hy).1)
 clear hno
 go_wp2
 go_ret
 exact⟨bM HF.symm,fr⟩
theorem yB (w:World)(B:Nat)(v:Value)(l:List El)(who:Int)(h:Own w B 3 1 v l.length (flat cs l))(hl:l.length<=1000) :
  Calls prog 231 #[v,.int .i64 who] w λe w'=>e = .returned (.int .i64 (bL (λx=>who==x) l))/\w=w':=by
 obtain⟨a,c,rfl⟩:=h.form
 go_enter func231,ntmps231
 go_wp2
 go_loop [5,8] (λ_ i=>∃ k:Nat,k<=l.length/\i = .int .i64 k/\(∀ (j:Nat) y,l[j]? = some y->j<k->(who==y)=false)) (λ_ i=>l.length - (intOf i).toNat)
 case atStart=>exact⟨0,Nat.zero_le _,rfl,λ_ _ _ h=>by omega⟩
 obtain⟨k,hk,rfl,hno⟩:=hrel
 by_cases hlt:k<l.length
 ·have hx:l[k]? = some l[k]:=List.getElem?_eq_getElem hlt
  obtain⟨x,hx'⟩:∃ x,l[k]=x:=⟨_,rfl⟩
  rw[hx'] at hx
  clear hx'
  have hk1:(k:Int)<(l.length:Int):=by omega
  obtain⟨g,c2,hg,hv,hr,hgl,hcell⟩:=h.cell bh rfl hx
  cases hv
  have q0:w.cell? ⟨g,k,none⟩=some (.int .i64 x):=by have:=hcell 0 _ (by omega) rfl;simpa using this
  have HX:=hid hx
  have HN:=hid hno
  clear hx hno hr hcell
  cases hb:who==x
  ·go_wp2
   go_round
   case rel=>exact⟨k+1,by omega,by go_num,λj y hy hj=>by
    by_cases e:j=k
    ·subst e
     rw[HX] at hy
     cases hy
     exact hb
    exact HN.out j y hy (by omega)⟩
   simp[intOf];omega
  have HF:=hid (dV (p:=λx=>who==x) HN HX hb)
  go_wp2
  go_ret
  exact⟨bM HF.symm,rfl⟩
 obtain rfl:k=l.length:=by omega
 have HF:=hid (eL (p:=λx=>who==x) (l:=l) λj y hy=>hno j y hy (List.getElem?_eq_some_iff.1 hy).1)
 clear hno
 go_wp2
 go_ret
 exact⟨bM HF.symm,rfl⟩
theorem qy (w:World)(B:Nat)(v:Value)(l:List El)(who:Int)(h:Own w B 3 1 v l.length (flat cs l))(hl:l.length<=1000) :
  Calls prog 188 #[v,.int .i64 who] w λe w'=>e = .returned (.bool (l.any λx=>who==x))/\w=w':=by
 have HI:=hid (yB w B v l who h hl)
 obtain⟨a,c,rfl⟩:=h.form
 have HA:=hid (gT (λx=>who==x) l)
 go_enter func188,ntmps188
 go_wp2_with fail
 refine HI.mono ?_
 rintro e w' ⟨rfl,rfl⟩
 go_wp2_with fail
 go_ret
 exact⟨dI (by rw[<-HA]),rfl⟩
theorem mQ (w:World):(zeroValue 3).run prog w = .ok (.int .i64 0) w:=by kernel_rfl
theorem iK {p:El->Bool}{l:List El}{j:Nat}{x:El}(h:l[j]? = some x):(l.take (j+1)).filter (λy=>!p y)=(l.take j).filter (λy=>!p y)++if p x then [] else [x]:=by
 rw[List.take_add_one,h,Option.toList_some,List.filter_append]
 cases hp:p x<;>simp[hp]
theorem nY (w:World)(B g cap:Nat)(l:List El)(p:El->Bool)(b:Nat)(hr:Row w 3 1 g l.length cap (flat cs l))(hgB:B<=g)(hl:l.length<=1000)
  (hp:∀ w',Fr [g] w w'->∀ x,x∈l->Calls prog 173 #[.int .i64 x,.pointer (some ⟨b,0,none⟩)] w' λe w''=>e = .returned (.bool (p x))/\Fr [] w' w'') :
  Calls prog 172 #[.slice (some ⟨g,0,none⟩) l.length cap,.func (.func 173) #[] #[.pointer (some ⟨b,0,none⟩)]] w λe w'=>e = .returned (.slice (some ⟨g,0,none⟩) (l.filter λy=>!p y).length cap)/\Row w' 3 1 g (l.filter λy=>!p y).length cap (flat cs (l.filter λy=>!p y))/\Fr [g] w w':=by
 have hle:=hr.le
 have hcm:=hr.lW
 unfold maxLen at hcm
 have hI:=dr w B (.slice (some ⟨g,0,none⟩) l.length cap) l p b (.inr ⟨g,cap,hgB,rfl,hr⟩) hl (λw' f x hx=>hp w' (f.mono (by simp)) x hx)
 have HI:=hid hI
 have HP:=hid hp
 clear hI hp
 cases hf:l.findIdx? p with
 | none =>
  have hF:bL p l = -1:=by rw[bL,hf]
  have hE:(l.filter λy=>!p y)=l:=by
   rw[List.findIdx?_eq_none_iff] at hf
   rw[List.filter_eq_self]
   intro x hx
   rw[hf x hx]
   rfl
  rw[hE]
  have HF:=hid hF
  clear hF hE hf
  go_enter func172,ntmps172
  go_wp2_with fail
  refine uu HI λw1 f1=>?_
  rw[HF]
  go_wp2_with fail
  go_ret
  exact⟨rfl,hr.fr f1 (by simp),f1.mono (by simp)⟩
 | some m =>
  have hF:bL p l=(m:Int):=by rw[bL,hf]
  obtain⟨hm,hpm,hbef⟩:=List.findIdx?_eq_some_iff_getElem.1 hf
  have hT:(l.take m).filter (λy=>!p y)=l.take m:=by
   rw[List.filter_eq_self]
   intro x hx
   obtain⟨j,hj,rfl⟩:=List.mem_iff_getElem.1 hx
   have hjm:j<m:=by simp at hj;omega
   have:=hbef j hjm
   rw[List.getElem_take]
   simpa using this
  have hT1:(l.take (m+1)).filter (λy=>!p y)=l.take m:=by
   rw[iK (List.getElem?_eq_getElem hm),hT,hpm]
   simp
  have hne:((m:Int)==-1)=false:=by
   simp only[beq_eq_false_iff_ne,ne_eq]
   omega
  have HF:=hid hF
  have HT:=hid hT1
  clear hF hf hbef hpm hT hT1
  go_enter func172,ntmps172
  go_wp2_with fail
  refine uu HI λw1 f1=>?_
  rw[HF]
  have r1:=hr.fr f1 (by simp)
  go_wp2_with fail
  go_loopw [5,6,7] (λs i _ wr=>∃ (a j:Nat) (c:List El),a<j/\j<=l.length/\s = .int .i64 a/\i = .int .i64 j/\c.length=l.length/\Row wr 3 1 g l.length cap (flat cs c)/\c.take a=(l.take j).filter (λy=>!p y)/\a=((l.take j).filter (λy=>!p y)).length/\c.drop j=l.drop j/\Fr [g] w wr) (λ_ i _ _=>l.length - (intOf i).toNat)
  case atStart=>exact⟨m,m+1,l,by omega,by omega,rfl,rfl,rfl,r1,HT.symm,by rw[HT];simp;omega,rfl,f1.mono (by simp)⟩
  obtain⟨a,j,c,haj,hj,rfl,rfl,hcl,hrow,htk,hal,hdr,fr⟩:=hrel
  by_cases hlt:j<l.length
  ·have hx:l[j]? = some l[j]:=List.getElem?_eq_getElem hlt
   obtain⟨x,hx'⟩:∃ x,l[j]=x:=⟨_,rfl⟩
   rw[hx'] at hx
   clear hx'
   have hcx:c[j]? = some x:=by
    have:=congrArg (λl:List El=>l[0]?) hdr
    simpa[hx] using this
   have hk1:(j:Int)<(l.length:Int):=by omega
   have q0:wr.cell? ⟨g,j,none⟩=some (.int .i64 x):=hrow.cell (by have:=nT bh hcx (j:=0) (by omega);simpa[cs] using this)
   have hcall:=HP.out wr fr x (List.mem_of_getElem? hx)
   have hsucc:=iK (p:=p) hx
   have hdr2:c.drop (j+1)=l.drop (j+1):=by
    have:=congrArg (List.drop 1) hdr
    simpa[List.drop_drop,Nat.add_comm] using this
   have HD:=hid hdr2
   have HX:=hid hx
   have HK:=hid htk
   have HL:=hid hal
   have HC:=hid hcall
   have HCl:=hid hcl
   clear hx htk hal hcall hdr hdr2 hcx hcl
   cases hb:p x
   ·rw[hb] at hsucc
    have HS:=hid hsucc
    have HB:=hid hb
    clear hb hsucc
    have z0:=hrow.frozen a
    go_wp2_with fail
    refine uu HC λw2 f2=>?_
    rw[HB]
    have hrow2:=hrow.fr f2 (by simp)
    have z2:=hrow2.frozen a
    have hca:a<c.length:=by rw[HCl];omega
    have zc:w2.cell? ⟨g,a,none⟩=some (.int .i64 c[a]):=hrow2.cell (by have:=nT bh (List.getElem?_eq_getElem hca) (j:=0) (by omega);simpa[cs] using this)
    have ha1:(a:Int)<(l.length:Int):=by omega
    go_wp2_with fail
    go_roundw
    case rel=>exact⟨a+1,j+1,c.set a x,by omega,by omega,by go_num,by go_num,by simpa using HCl.out,by
      rw[nS bh (List.getElem?_eq_getElem hca) (j:=0) (by omega) (show cs x=(cs c[a]).set 0 _ from rfl)]
      simpa using hrow2.set a (.int .i64 x),by
      rw[HS,List.take_add_one,List.getElem?_set_self hca,List.take_set_of_le (Nat.le_refl _),HK];rfl,by
      rw[HS,List.length_append,<-HL];rfl,by
      rw[List.drop_set_of_lt (by omega),HD],(fr.trans (f2.mono (by simp))).setCell (by simp) _⟩
    simp[intOf];omega
   rw[hb] at hsucc
   have HS:=hid hsucc
   have HB:=hid hb
   clear hb hsucc
   go_wp2_with fail
   refine uu HC λw2 f2=>?_
   rw[HB]
   have hrow2:=hrow.fr f2 (by simp)
   go_wp2_with fail
   go_roundw
   case rel=>exact⟨a,j+1,c,by omega,by omega,rfl,by go_num,HCl,hrow2,by rw[HS,HK];simp,by rw[HS.out];simpa using HL.out,HD.out,fr.trans (f2.mono (by simp))⟩
   simp[intOf];omega
  obtain rfl:j=l.length:=by omega
  rw[List.take_length] at htk hal
  have hrow2:=hrow.less (k:=a) (by omega)
  have e2:(flat cs c).take (a*1)=flat cs (l.filter λy=>!p y):=by rw[<-htk,iJ bh]
  rw[e2] at hrow2
  have HL:=hid hal
  clear htk hal hdr e2 hcl
  have hA2:(if cap=a then some (⟨g,0,none⟩:Addr) else some ⟨g,a*1,none⟩)=some ⟨g,a*1,none⟩:=by rw[if_neg (by omega)]
  have hac:a<=cap:=by omega
  obtain⟨w2,hrun,hr2,f2⟩:=ep (sz:=1) 45 0 (.int .i64 0) underlying45 mQ (by kernel_rfl) (by kernel_rfl) hrow2 (a*1) (l.length - a) (cap - a) (by omega) (by omega)
  simp only[Nat.mul_one] at hrun hA2
  have hal2:(a:Int)<=(l.length:Int):=by omega
  go_wp2
  go_ret
  rw[<-HL]
  exact⟨rfl,hr2,fr.trans f2⟩
end Li
namespace La
open Go.RowKit
abbrev El:=Int × Bool
def cs (x:El):List Value:=[.int .i64 x.1,.bool x.2]
theorem bh (x:El):(cs x).length=2:=rfl
theorem cQ {x:El} : ∀ u∈cs x,u.oneCell'=true:=by
 intro u hu
 simp only[cs,List.mem_cons,List.not_mem_nil,or_false] at hu
 rcases hu with rfl|rfl<;>rfl
theorem dU:(prog.info? 244).map (λi=>(i.zero,i.size,i.bytes))=some (some (.agg #[.int .i64 0,.bool false]),2,16):=by kernel_rfl
def bL (p:El->Bool)(l:List El):Int:=match l.findIdx? p with|some k=>(k:Int)|none=>-1
theorem dV {p:El->Bool}{l:List El}{k:Nat}{x:El}(h:∀ (j:Nat) y,l[j]? = some y->j<k->p y=false)(hx:l[k]? = some x)(hp:p x=true):bL p l=(k:Int):=by
 have hk:=List.getElem?_eq_some_iff.1 hx
 have:l.findIdx? p=some k:=by
  rw[List.findIdx?_eq_some_iff_getElem]
  refine⟨hk.1,by rw[hk.2];exact hp,λj hj=>?_⟩
  have:=h j (l[j]'(Nat.lt_trans hj hk.1)) (List.getElem?_eq_getElem _) hj
  rw[this]
  decide
 rw[bL,this]
theorem eL {p:El->Bool}{l:List El}(h:∀ (j:Nat) y,l[j]? = some y->p y=false):bL p l = -1:=by
 have:l.findIdx? p=none:=by
  rw[List.findIdx?_eq_none_iff]
  intro x hx
  obtain⟨j,hj⟩:=List.getElem?_of_mem hx
  exact h j x hj
 rw[bL,this]
theorem gT (p:El->Bool)(l:List El):decide (bL p l >= 0)=l.any p:=by
 unfold bL
 cases h:l.findIdx? p with
 | none =>
  rw[List.findIdx?_eq_none_iff] at h
  have:l.any p=false:=by rw[List.any_eq_false];intro x hx;rw[h x hx];decide
  rw[this]
  rfl
 | some k =>
  rw[List.findIdx?_eq_some_iff_getElem] at h
  obtain⟨hk,hp,_⟩:=h
  have:l.any p=true:=List.any_eq_true.2 ⟨_,List.getElem_mem hk,hp⟩
  rw[this]
  simp
theorem dr (w:World)(B:Nat)(v:Value)(l:List El)(p:El->Bool)(b:Nat)(h:Own w B 244 2 v l.length (flat cs l))(hl:l.length<=1000)
  (hp:∀ w',Fr [] w w'->∀ x,x∈l->Calls prog 190 #[.agg #[.int .i64 x.1,.bool x.2],.pointer (some ⟨b,0,none⟩)] w' λe w''=>e = .returned (.bool (p x))/\Fr [] w' w'') :
  Calls prog 223 #[v,.func (.func 190) #[] #[.pointer (some ⟨b,0,none⟩)]] w λe w'=>e = .returned (.int .i64 (bL p l))/\Fr [] w w':=by
 obtain⟨a,c,rfl⟩:=h.form
 have HP:=hid hp
 clear hp
 go_enter func223,ntmps223
 go_wp2
 go_loopw [5,8] (λ_ i wr=>∃ k:Nat,k<=l.length/\i = .int .i64 k/\(∀ (j:Nat) y,l[j]? = some y->j<k->p y=false)/\Fr [] w wr) (λ_ i _=>l.length - (intOf i).toNat)
 case atStart=>exact⟨0,Nat.zero_le _,rfl,λ_ _ _ h=>by omega,rZ⟩
 obtain⟨k,hk,rfl,hno,fr⟩:=hrel
 by_cases hlt:k<l.length
 ·have hx:l[k]? = some l[k]:=List.getElem?_eq_getElem hlt
  obtain⟨x,hx'⟩:∃ x,l[k]=x:=⟨_,rfl⟩
  rw[hx'] at hx
  clear hx'
  have hk1:(k:Int)<(l.length:Int):=by omega
  obtain⟨g,c2,hg,hv,hr,hgl,hcell⟩:=(h.fr0 fr).cell bh rfl hx
  cases hv
  have q0:wr.cell? ⟨g,k*2,none⟩=some (.int .i64 x.1):=hcell 0 _ (by omega) rfl
  have q1:wr.cell? ⟨g,k*2+1,none⟩=some (.bool x.2):=hcell 1 _ (by omega) rfl
  have hcall:=HP.out wr fr x (List.mem_of_getElem? hx)
  have HX:=hid hx
  have HN:=hid hno
  have HC:=hid hcall
  clear hx hno hcall hr hcell
  cases hb:p x
  ·have HB:=hid hb
   clear hb
   go_wp2_with fail
   refine uu HC λw' f2=>?_
   rw[HB]
   go_wp2_with fail
   go_roundw
   case rel=>exact⟨k+1,by omega,by go_num,λj y hy hj=>by
    by_cases e:j=k
    ·subst e
     rw[HX] at hy
     cases hy
     exact HB
    exact HN.out j y hy (by omega),fr.trans f2⟩
   simp[intOf];omega
  have HB:=hid hb
  have HF:=hid (dV HN HX hb)
  clear hb
  go_wp2_with fail
  refine uu HC λw' f2=>?_
  rw[HB]
  go_wp2_with fail
  go_ret
  exact⟨bM HF.symm,fr.trans f2⟩
 obtain rfl:k=l.length:=by omega
 have HF:=hid (eL (p:=p) (l:=l) λj y hy=>hno j y hy (List.getElem?_eq_some_iff.1 hy).1)
 clear hno
 go_wp2
 go_ret
 exact⟨bM HF.symm,fr⟩
theorem jd (w:World)(B:Nat)(v:Value)(l:List El)(p:El->Bool)(b:Nat)(h:Own w B 244 2 v l.length (flat cs l))(hl:l.length<=1000)
  (hp:∀ w',Fr [] w w'->∀ x,x∈l->Calls prog 190 #[.agg #[.int .i64 x.1,.bool x.2],.pointer (some ⟨b,0,none⟩)] w' λe w''=>e = .returned (.bool (p x))/\Fr [] w' w'') :
  Calls prog 189 #[v,.func (.func 190) #[] #[.pointer (some ⟨b,0,none⟩)]] w λe w'=>e = .returned (.bool (l.any p))/\Fr [] w w':=by
 have HI:=hid (dr w B v l p b h hl hp)
 obtain⟨a,c,rfl⟩:=h.form
 have HA:=hid (gT p l)
 clear hp
 go_enter func189,ntmps189
 go_wp2_with fail
 refine uu HI λw' f2=>?_
 go_wp2_with fail
 go_ret
 exact⟨dI (by rw[<-HA]),f2⟩
theorem mQ (w:World):(zeroValue 244).run prog w = .ok (.agg #[.int .i64 0,.bool false]) w:=by kernel_rfl
theorem eH (w:World)(g cap k:Nat)(l:List El)(hr:Row w 244 2 g l.length cap (flat cs l))(hk:k<l.length)(hl:l.length<=1000) :
  Calls prog 208 #[.slice (some ⟨g,0,none⟩) l.length cap,.int .i64 k,.int .i64 ((k:Int)+1)] w λe w'=>e = .returned (.slice (some ⟨g,0,none⟩) (l.length - 1) cap)/\Row w' 244 2 g (l.length - 1) cap (flat cs (l.take k++l.drop (k+1)))/\Fr [g] w w':=by
 obtain⟨i2,hi,hz0,hz1,hz2⟩:=info_parts dU
 obtain⟨n,hn⟩:∃ n,n=l.length:=⟨_,rfl⟩
 have hle:=hr.le
 have hcm:=hr.lW
 unfold maxLen at hcm
 rw[<-hn] at hle hr hk hl ⊢
 have hnews:Cells w (some ⟨g,(k+1)*2,none⟩) (flat cs (l.drop (k+1))):=by
  have:=hr.cells.drop ((k+1)*2)
  rw[lP bh]
  simpa using this
 have hlen:(flat cs (l.drop (k+1))).length=(n - (k+1))*2:=by rw[gw bh,List.length_drop,<-hn]
 obtain⟨A,hA,hsrc⟩:∃ A:Addr,(if cap=k+1 then some (⟨g,0,none⟩:Addr) else some ⟨g,(k+1)*2,none⟩)=some A/\Cells w (some A) (flat cs (l.drop (k+1))):=by
  by_cases h:cap=k+1
  ·refine⟨⟨g,0,none⟩,by simp[h],?_⟩
   have e0:flat cs (l.drop (k+1))=[]:=List.eq_nil_of_length_eq_zero (by omega)
   rw[e0]
   exact Cells.nil _
  exact⟨_,by simp[h],hnews⟩
 have hkc:k<=cap:=by omega
 have hkc1:k+1<=cap:=by omega
 have hi0:(0:Int)<=(k:Int)+1:=by omega
 have hi1:(k:Int)+1<=(n:Int):=by omega
 have hone:=cm (λx=>cQ (x:=x)) (l.drop (k+1))
 have H1:=hid hn
 have H2:=hid hlen
 have H3:=hid hone
 clear hn hlen hone hnews
 go_enter func208,ntmps208
 go_wp2_with fail
 go_region_law ((refine eR rfl (.tmp 22) (.tmp 25) 240 rfl i2 underlying240 hi hz1 hr.drew k (by omega) (by simp[Act.eval,Act.put]) A (n - (k+1)) (cap - (k+1)) (flat cs (l.drop (k+1))) (by simp[Act.eval,Act.put]) H2.out (hsrc.fr0 ((Fr.refl [] w).drew)) H3.out (by omega) ?_;intro w1 hr1 f1))
 have e1:k+(n - (k+1))=n - 1:=by omega
 have e2:(flat cs l).take (k*2)++flat cs (l.drop (k+1))=flat cs (l.take k++l.drop (k+1)):=by rw[aP,iJ bh]
 rw[e1,e2] at hr1
 rw[e1]
 clear e1 e2 hA hsrc hkc hkc1 hi0 hi1
 obtain⟨m,hm⟩:∃ m,m=n - 1:=⟨_,rfl⟩
 have e3:n=m+1:=by omega
 rw[<-hm] at hr1 ⊢
 have HM:=hid hm
 subst e3
 clear hm
 have hA2:(if cap=m then some (⟨g,0,none⟩:Addr) else some ⟨g,m*2,none⟩)=some ⟨g,m*2,none⟩:=by rw[if_neg (by omega)]
 have hj0:(m:Int)<=(m:Int)+1:=by omega
 have hj1:m+1<=cap:=hle
 have hj2:m<=m+1:=by omega
 obtain⟨w2,hrun,hr2,f2⟩:=ep (sz:=2) 240 0 (.agg #[.int .i64 0,.bool false]) underlying240 mQ (by kernel_rfl) (by kernel_rfl) hr1 (m*2) 1 (cap - m) (by omega) (by omega)
 go_wp2
 go_ret
 exact⟨rfl,hr2,((Fr.refl [g] w).drew).trans (f1.trans f2)⟩
theorem mu (w:World)(g cap:Nat)(x:El)(q:List El)(hr:Row w 244 2 g (q.length+1) cap (flat cs (x::q)))(hl:q.length+1<=1000) :
  Calls prog 208 #[.slice (some ⟨g,0,none⟩) (q.length+1) cap,.int .i64 0,.int .i64 1] w λe w'=>e = .returned (.slice (some ⟨g,0,none⟩) q.length cap)/\Row w' 244 2 g q.length cap (flat cs q)/\Fr [g] w w':=by
 have:=eH w g cap 0 (x::q) hr (by simp) (by simpa using hl)
 simpa using this
end La
namespace M
theorem lK (q:List (Int × Bool))(r:List Int)(w:Int):mv q r w true=⟨r,w,true,q⟩:=by
 cases q<;>simp[mv]
theorem AZ (a:Int × Bool)(q:List (Int × Bool))(r:List Int)(w:Int)(ha:a.2=true)(hr:r≠[]):mv (a::q) r w false=⟨r,w,false,a::q⟩:=by
 have:0<r.length:=List.length_pos_iff.2 hr
 simp[mv,ha,this]
theorem A0 (a:Int × Bool)(q:List (Int × Bool))(w:Int)(ha:a.2=true):mv (a::q) [] w false=⟨[],a.1,true,q⟩:=by
 rw[mv]
 simp only[ha,Bool.false_eq_true,if_false,Bool.true_and,List.length_nil,Nat.lt_irrefl,decide_false,if_true]
 exact lK _ _ _
end M
namespace Lo
open Go.RowKit
structure df (w:World)(B g:Nat)(l:M.Lk):Prop where
 lr:l.an.length<=100
 lq:l.queue.length<=100
 at_:∃ vr vq,Holds w g 242 #[vr,.int .i64 l.writer,.bool l.writes,vq]/\Own w B 3 1 vr l.an.length (flat Li.cs l.an)/\Own w B 244 2 vq l.queue.length (flat La.cs l.queue)
theorem df.fr0 {w w':World}{B g:Nat}{l:M.Lk}(h:df w B g l)(hf:Fr [] w w'):df w' B g l:=by
 obtain⟨a,b,vr,vq,h1,h2,h3⟩:=h
 exact⟨a,b,vr,vq,h1.fr hf (by simp),h2.fr0 hf,h3.fr0 hf⟩
abbrev Ts:List TypeId:=[242,3,244]
theorem bZ (w:World)(B:Nat):Calls prog 157 #[] w λe w'=>∃ g,e = .returned (.pointer (some ⟨g,0,none⟩))/\w.heap.size<=g/\df w' B g {}/\Fr [] w w':=by
 go_enter func157,ntmps157
 go_wp2
 go_ret
 exact⟨_,rfl,Nat.le_refl _,⟨by simp,by simp,_,_,Holds.new _ _ _,Own.nil _ _ _ _,Own.nil _ _ _ _⟩,rZ.alloc _⟩
theorem cz (w:World)(b:Nat)(who:Int)(x:Int × Bool)(hc:w.cell? ⟨b,0,none⟩=some (.int .i64 who)) :
  Calls prog 190 #[.agg #[.int .i64 x.1,.bool x.2],.pointer (some ⟨b,0,none⟩)] w λe w'=>e = .returned (.bool (x.1==who))/\Fr [] w w':=by
 have hB:=block_lt_of_cell hc
 go_enter func190,ntmps190
 go_wp2
 go_ret
 exact⟨rfl,rZ.alloc _⟩
theorem Dg (w:World)(b:Nat)(who:Int)(x:Int)(hc:w.cell? ⟨b,0,none⟩=some (.int .i64 who)) :
  Calls prog 173 #[.int .i64 x,.pointer (some ⟨b,0,none⟩)] w λe w'=>e = .returned (.bool (x==who))/\Fr [] w w':=by
 go_enter func173,ntmps173
 go_wp2
 go_ret
 exact⟨rfl,rZ⟩
theorem contains_eq (l:List Int)(who:Int):(l.any λx=>who==x)=l.contains who:=by
 rw[List.contains_eq_any_beq]
theorem eK (w:World)(B g:Nat)(l:M.Lk)(who:Int)(h:df w B g l) :
  Calls prog 132 #[.pointer (some ⟨g,0,none⟩),.int .i64 who] w λe w'=>e = .returned (.int .i64 (l.state who))/\Fr [] w w':=by
 have f0:Fr [] w (w.alloc (.cells #[.int .i64 who] 3)):=rZ.alloc _
 have b0:=Holds.new w 3 #[.int .i64 who]
 obtain⟨lr,lq,vr,vq,h1,h2,h3⟩:=h.fr0 f0
 obtain⟨an,writer,writes,queue⟩:=l
 simp only at lr lq h1 h2 h3
 have hgl:=h.at_
 obtain⟨_,_,hg0,_,_⟩:=hgl
 have hlt:=hg0.lt
 clear hg0
 have c0:=h1.cell 0
 have c1:=h1.cell 1
 have c2:=h1.cell 2
 have c3:=h1.cell 3
 have y0:(w.alloc (.cells #[.int .i64 who] 3)).cell? ⟨w.heap.size,0,none⟩=some (.int .i64 who):=b0.cell 0
 simp at c0 c1 c2 c3
 obtain⟨ar,cr,rfl⟩:=h2.form
 obtain⟨aq,cq,rfl⟩:=h3.form
 have hall:=contains_eq an who
 have hany:(queue.any λx=>x.1==who)=queue.any (λa=>a.1==who):=rfl
 have HR:=hid hall
 clear hall hany
 have HI:=hid (λ(W:World) (f:Fr [] (w.alloc (.cells #[.int .i64 who] 3)) W)=>La.jd W B _ queue (λx=>x.1==who) w.heap.size (h3.fr0 f) (by omega) (λw' fw x _=>cz w' w.heap.size who x (fw.cell (f.cell y0 (by simp) (by simp)) (b0.fr f (by simp)).lt (by simp))))
 have hcq:∀ W,Fr [] (w.alloc (.cells #[.int .i64 who] 3)) W->Calls prog 188 #[.slice ar an.length cr,.int .i64 who] W λe w'=>e = .returned (.bool (an.contains who))/\W=w':=λW fW=>by
  rw[<-HR]
  exact Li.qy _ B _ an who (h2.fr0 fW) (by omega)
 have HF:=hid (λ(W:World) (f:Fr [] (w.alloc (.cells #[.int .i64 who] 3)) W)=>(⟨(h1.fr f (by simp)).cell 0,(h1.fr f (by simp)).cell 3,f.cell y0 (by simp) (by simp)⟩:W.cell? ⟨g,0,none⟩=_/\W.cell? ⟨g,3,none⟩=_/\W.cell? ⟨w.heap.size,0,none⟩=_))
 clear h1 h2 h3 h b0 y0
 have hst:M.Lk.state ⟨an,writer,writes,queue⟩ who=if writes&&writer==who then 3 else if an.contains who then 2 else if queue.any (λa=>a.1==who) then 1 else 0:=rfl
 cases hw:(writes&&writer==who)
 ·rw[hw] at hst
  simp only[Bool.false_eq_true,if_false] at hst
  cases hc:an.contains who
  ·rw[hc] at hst hcq
   simp only[Bool.false_eq_true,if_false] at hst
   clear hc
   have HC:=hid hcq
   clear hcq
   cases hq:queue.any (λa=>a.1==who)
   all_goals
    rw[hq] at hst
    simp only[Bool.false_eq_true,if_false,if_true] at hst
    have HS:=hid hst
    have HQ:=hid hq
    clear hst hq
    cases writes
    all_goals
     first|(simp only[Bool.true_and] at hw)|clear hw
     go_enter func132,ntmps132
     go_wp2_with fail
     go_quiet (fail)
     generalize hW:(w.alloc (.cells #[.int .i64 who] 3)).drewN nq=W
     have fW:Fr [] (w.alloc (.cells #[.int .i64 who] 3)) W:=by rw[<-hW];exact rZ.drewN _
     obtain⟨d0,d3,dy⟩:=HF.out W fW
     simp only[List.getElem?_toArray,List.getElem?_cons_zero,List.getElem?_cons_succ] at d0 d3
     clear hW c0 c3
     go_wp2_with fail
     go_quiet ((go_at_call 188;exact bB (HC _ (fW.drewN _))))
     go_wp2_with fail
     refine uu (HI _ (fW.drewN _)) λw' f2=>?_
     rw[HQ]
     go_wp2_with fail
     go_ret
     exact⟨bM HS.symm,((f0.trans (fW.drewN _)).trans f2)⟩
  rw[hc] at hst hcq
  simp only[if_true] at hst
  clear hc
  have HC:=hid hcq
  have HS:=hid hst
  clear hcq hst
  cases writes
  all_goals
   first|(simp only[Bool.true_and] at hw)|clear hw
   go_enter func132,ntmps132
   go_wp2_with fail
   go_quiet (fail)
   generalize hW:(w.alloc (.cells #[.int .i64 who] 3)).drewN nq=W
   have fW:Fr [] (w.alloc (.cells #[.int .i64 who] 3)) W:=by rw[<-hW];exact rZ.drewN _
   obtain⟨d0,d3,dy⟩:=HF.out W fW
   simp only[List.getElem?_toArray,List.getElem?_cons_zero,List.getElem?_cons_succ] at d0 d3
   clear hW c0 c3
   go_wp2_with fail
   go_quiet ((go_at_call 188;exact bB (HC _ (fW.drewN _))))
   go_wp2_with fail
   go_ret
   exact⟨bM HS.symm,f0.trans (fW.drewN _)⟩
 rw[hw] at hst
 simp only[if_true] at hst
 have HS:=hid hst
 cases writes
 ·simp at hw
 simp only[Bool.true_and] at hw
 clear hcq hst
 go_enter func132,ntmps132
 go_wp2_with fail
 go_quiet (fail)
 go_wp2_with fail
 go_ret
 exact⟨bM HS.symm,f0.drewN _⟩
def lenOf (v:Value):Nat:=match v with|.slice _ n _=>n|_=>0
theorem jC (w:World)(B g:Nat)(l:M.Lk)(h:df w B g l)(hB:B<=w.heap.size)(hg:B<=g)(hn:l.an.length+l.queue.length<=100) :
  Calls prog 160 #[.pointer (some ⟨g,0,none⟩)] w λe w'=>∃ a n c,e = .returned (.slice a n c)/\df w' B g l.move/\FrX B Ts [] w w':=by
 obtain⟨i3,hi,hz0,hz1,hz2⟩:=info_parts Li.dU
 obtain⟨_,_,vr0,vq0,k1,k2,k3⟩:=h
 have HB:=hid (show ∀ l':M.Lk,l'=⟨l'.an,l'.writer,l'.writes,l'.queue⟩ from λ_=>rfl)
 go_enter func160,ntmps160
 go_wp2
 go_loopw [3] (λv3 wr=>∃ (l':M.Lk) (n:Nat) (xs:List Value) (own:Option Nat) (vr vq:Value),(Holds wr g 242 #[vr,.int .i64 l'.writer,.bool l'.writes,vq]/\Own wr B 3 1 vr l'.an.length (flat Li.cs l'.an)/\Own wr B 244 2 vq l'.queue.length (flat La.cs l'.queue)/\∀ k,own=some k->ay vr≠some k)/\l'.move=l.move/\l'.an.length+l'.queue.length<=100/\Sl wr 3 1 v3 n xs own/\n+l'.queue.length<=100/\(∀ k,own=some k->w.heap.size<=k)/\(0<n->∃ k,own=some k)/\FrX B Ts [] w wr) (λv3 _=>200 - lenOf v3)
 case atStart=>exact⟨l,0,[],none,vr0,vq0,⟨k1,k2,k3,by simp⟩,rfl,hn,Sl.nil _ _ _,by omega,by simp,by simp,FrX.refl _ _ _ _⟩
 obtain⟨⟨an,writer,writes,queue⟩,n,xs,own,vr,vq,⟨h1,h2,h3,hov⟩,hmv,hln,hs,hnq,ho,hm,fr⟩:=hrel
 simp only at hln hnq h1 h2 h3
 have lr:an.length<=100:=by omega
 have lq:queue.length<=100:=by omega
 have hl:df wr B g ⟨an,writer,writes,queue⟩:=⟨lr,lq,vr,vq,h1,h2,h3⟩
 have HOV:=hid hov
 clear hov k1 k2 k3
 obtain⟨a3,c3,rfl⟩:=hs.form
 obtain⟨ar,cr,rfl⟩:=h2.form
 have c0:=h1.cell 0
 have c1:=h1.cell 1
 have c2:=h1.cell 2
 have c3':=h1.cell 3
 simp at c0 c1 c2
 match queue,hmv,hl,hln,hnq,lq,h1,h3,c3' with
 | [],hmv,hl,hln,hnq,lq,h1,h3,c3' =>
  obtain⟨aq,cq,rfl⟩:=h3.form
  simp at c3'
  have HE:=hid (show M.Lk.move ⟨an,writer,writes,[]⟩=⟨an,writer,writes,[]⟩ from rfl)
  have HM:=hid hmv
  clear hmv
  go_wp2
  go_ret
  exact⟨_,_,_,rfl,by rw[<-HM,HE];exact hl,fr⟩
 | (who,wt)::q,hmv,hl,hln,hnq,lq,h1,h3,c3' =>
  obtain⟨gq,cq,hgq,rfl,hrq⟩:=h3.pos (by simp)
  simp at c3' hln hnq lq
  have hgql:=hrq.lt
  have qa:wr.cell? ⟨gq,0,none⟩=some (.int .i64 who):=hrq.cell rfl
  have qb:wr.cell? ⟨gq,1,none⟩=some (.bool wt):=hrq.cell rfl
  have hql:(0:Int)<((q.length:Int)+1):=by omega
  cases writes
  ·by_cases hbrk:wt=true/\an≠[]
   ·obtain⟨rfl,hne⟩:=hbrk
    have hrl:(0:Int)<(an.length:Int):=by have:=List.length_pos_iff.2 hne;omega
    have HE:=hid (show M.Lk.move ⟨an,writer,false,(who,true)::q⟩=⟨an,writer,false,(who,true)::q⟩ from M.AZ _ _ _ _ rfl hne)
    have HM:=hid hmv
    have hgl:=h1.lt
    clear hmv hne
    go_wp2
    go_ret
    exact⟨_,_,_,rfl,by rw[<-HM,HE];exact hl.fr0 (rZ.alloc _),fr.alloc _⟩
   have hgl:=h1.lt
   have hgg:g≠gq:=λe=>by
    have:=hrq.ty
    rw[<-e,h1.ty] at this
    cases this
   have hown2:∀ k,own=some k->k≠g/\k≠gq:=λk hk=>by
    obtain⟨c',hv,hrow⟩:=(hk ▸ hs).cI
    refine⟨λe=>?_,λe=>?_⟩
    ·have:=hrow.ty
     rw[e,h1.ty] at this
     cases this
    have:=hrow.ty
    rw[e,hrq.ty] at this
    cases this
   have HO2:=hid hown2
   have HM:=hid hmv
   have f1:Fr [] wr (wr.alloc (.cells #[.int .i64 who,.bool wt] 244)):=rZ.alloc _
   have ba:=Holds.new wr 244 #[.int .i64 who,.bool wt]
   clear hmv hown2
   cases wt
   ·go_wp2_with fail
    refine(La.mu _ gq cq (who,false) q (hrq.fr f1 (by simp)) (by omega)).mono ?_
    rintro e w2 ⟨rfl,hrq2,f2⟩
    have f12:Fr [gq] wr w2:=(f1.mono (by simp)).trans f2
    have p1:=h1.fr f12 (by simpa using hgg)
    have ba2:=ba.fr f2 (by simp;omega)
    have hs2:=hs.fr f12 (λk hk=>by simpa using (HO2.out k (by simpa using hk)).2) hm
    have h22:=h2.fr f12 (λk hk=>by
     have:=(h2.ty hk).1
     simp only[List.mem_singleton]
     rintro rfl
     rw[hrq.ty] at this
     cases this)
    have d3:=p1.cell 3
    have z3:=p1.frozen 3
    have y0:=ba2.cell 0
    have y1:=ba2.cell 1
    simp at d3 y0 y1
    have hal:=ba2.lt
    clear c0 c1 c2 c3' qa qb
    obtain⟨W3,hW3⟩:∃ W3,W3=w2.setCell ⟨g,3,none⟩ (.slice (some ⟨gq,0,none⟩) q.length cq):=⟨_,rfl⟩
    have p3:Holds W3 g 242 #[.slice ar an.length cr,.int .i64 writer,.bool false,.slice (some ⟨gq,0,none⟩) q.length cq]:=by rw[hW3];simpa using p1.set 3 (.slice (some ⟨gq,0,none⟩) q.length cq)
    have f3:Fr [g,gq] wr W3:=by rw[hW3];exact(f12.mono (by simp)).setCell (by simp) _
    have hs3:Sl W3 3 1 (.slice a3 n c3) n xs own:=by rw[hW3];exact hs2.far hm p1 (by decide) 3 _
    have h23:Own W3 B 3 1 (.slice ar an.length cr) an.length (flat Li.cs an):=by
     rw[hW3]
     exact h22.fr ((Fr.refl [g] w2).setCell (by simp) _) (λk hk=>by
      have:=(h22.ty hk).1
      simp only[List.mem_singleton]
      rintro rfl
      rw[p1.ty] at this
      cases this)
    have hrq3:Row W3 244 2 gq q.length cq (flat La.cs q):=by rw[hW3];exact hrq2.far (λe=>hgg e.symm) _
    have ba3:Holds W3 wr.heap.size 244 #[.int .i64 who,.bool false]:=by rw[hW3];exact ba2.far (by simp;omega) _
    have hgl3:=p3.lt
    have hn4:∀ k,own=some k->k≠g/\k≠gq/\k≠wr.heap.size/\ay (.slice ar an.length cr)≠some k:=λk hk=>by
     obtain⟨x1,x2⟩:=HO2.out k hk
     have:=(hk ▸ hs).cI
     obtain⟨c',_,hrow⟩:=this
     have:=hrow.lt
     exact⟨x1,x2,by omega,HOV k hk⟩
    have HN4:=hid hn4
    have HG:=hid (show g∉(ay (.slice ar an.length cr)).toList from λhk=>by
     have:=(h2.ty (g:=g) (by simpa using hk)).1
     rw[h1.ty] at this
     cases this)
    clear hn4
    have H4:=hid (λ(S:List Nat) (W4:World) (f:Fr S W3 W4) (hS:∀ k,k∈S->k≠g/\k≠gq/\k≠wr.heap.size/\ay (.slice ar an.length cr)≠some k)=>(⟨p3.fr f (λhx=>(hS g hx).1 rfl),h23.fr f (λk hk hx=>(hS k hx).2.2.2 hk),hrq3.fr f (λhx=>(hS gq hx).2.1 rfl),ba3.fr f (λhx=>(hS _ hx).2.2.1 rfl)⟩:Holds W4 g 242 _/\Own W4 B 3 1 _ an.length (flat Li.cs an)/\Row W4 244 2 gq q.length cq _/\Holds W4 wr.heap.size 244 _))
    clear hs2 h22 hrq2 ba2
    go_wp2_with (at_builtin;go_loud (refine af rfl (.tmp 42) (.tmp 45) 45 rfl i3 _ 8 underlying45 hi hz0 hz1 hz2 rfl (by decide) _ own rfl ((by rw[<-hW3];exact hs3.fr0 ((Fr.refl [] W3).alloc _))) _ 1 1 [.int .i64 who] rfl rfl (Cells.one (aE (t:=3) (cs:=#[.int .i64 who]) (by simp))) (by simp[Value.oneCell']) (by unfold maxLen;omega) (by omega) ?_;rw[<-hW3];intro v4 w4 own4 hs4 hf4 ho4 hm4;clear d3 y0 y1 z3;obtain⟨a4,c4,rfl⟩:=hs4.form; have f4:Fr own.toList W3 w4:=((Fr.refl _ W3).alloc _).trans hf4;obtain⟨p4,h24,hrq4,ba4⟩:=H4.out _ w4 f4 (λk hk=>HN4 k (by simpa using hk));have e0:=p4.cell 0;have t0:=p4.frozen 0;have y0:=ba4.cell 0;have y1:=ba4.cell 1;simp at e0 y0 y1))
    have hgl4:=p4.lt
    have hal4:=ba4.lt
    have HSl:=hid (h24.sl.fr0 (((Fr.refl [] w4).alloc (.cells #[.int .i64 who] 3)).drew))
    go_region_law ((refine bu rfl (.tmp 61) (.tmp 64) 45 rfl i3 _ 8 underlying45 hi hz0 hz1 hz2 rfl (by decide) _ (ay (.slice ar an.length cr)) rfl HSl _ 1 1 [.int .i64 who] rfl rfl (Cells.one ((aE (t:=3) (cs:=#[.int .i64 who]) (by simp)).drew)) (by simp[Value.oneCell']) (by unfold maxLen;omega) (by omega) ?_;intro v5 w5 own5 hs5 hf5 ho5 hm5;obtain⟨a5,c5,rfl⟩:=hs5.form;have f5:Fr (ay (.slice ar an.length cr)).toList w4 w5:=((((Fr.refl _ w4).alloc _).drew)).trans hf5;have p5:=p4.fr f5 HG;have d5:=p5.cell 0;have t5:=p5.frozen 0;simp at d5))
    all_goals
     go_wp2_with fail
     go_roundw
     case rel =>
      have hB4:B<=w4.heap.size:=by have:=f4.size;have:=f3.size;have:=fr.size;omega
      obtain⟨o5,e5⟩:=bn (v:=.slice ar an.length cr) (w:=(w4.alloc (.cells #[.int .i64 who] 3)).drew) (by simp;omega) (λk hk=>(h2.ty hk).2) hs5 ho5 (hm5 (by omega))
      have hng:∀ k,ay (.slice ar an.length cr)=some k->k≠g/\k≠gq:=λk hk=>by
       have:=(h2.ty hk).1
       refine⟨λe=>?_,λe=>?_⟩
       ·rw[e,h1.ty] at this;cases this
       rw[e,hrq.ty] at this;cases this
      have hn5:∀ k,ay (.slice a5 (an.length+1) c5)=some k->k≠g/\own4≠some k:=λk hk=>by
       rw[e5] at hk
       refine⟨?_,?_⟩
       ·rcases ho5 with h|⟨x,h,hx⟩
        ·exact(hng k (h ▸ hk)).1
        rw[h] at hk
        cases hk
        simp at hx
        omega
       intro h4k
       have hk4:k<w4.heap.size:=by
        have:=(h4k ▸ hs4).cI
        obtain⟨_,_,hrow⟩:=this
        exact hrow.lt
       rcases ho5 with h|⟨x,h,hx⟩
       ·rw[h] at hk
        rcases ho4 with h'|⟨x,h',hx⟩
        ·exact(HN4 k (h' ▸ h4k)).2.2.2 hk
        rw[h'] at h4k
        cases h4k
        have:=(h23.ty hk)
        have hlt:k<W3.heap.size:=by
         rcases h23 with⟨hv,_⟩|⟨gx,cx,_,hv,hrow⟩
         ·rw[hv] at hk;cases hk
         rw[hv] at hk;cases hk;exact hrow.lt
        simp at hx
        omega
       rw[h] at hk
       cases hk
       simp at hx
       omega
      refine⟨⟨an++[who],writer,false,q⟩,n+1,xs++[.int .i64 who],own4,.slice a5 (an.length+1) c5,.slice (some ⟨gq,0,none⟩) q.length cq,⟨?_,?_,?_,λk hk hx=>(hn5 k hx).2 hk⟩,?_,by simp;omega,?_,(show n+1+q.length<=100 by omega),?_,λ_=>hm4 (by omega),?_⟩
      ·simpa using p5.set 0 (.slice a5 (an.length+1) c5)
      ·have e:flat Li.cs (an++[who])=flat Li.cs an++[.int .i64 who]:=by rw[aP,bS];rfl
       simp only[List.length_append,List.length_cons,List.length_nil,e]
       exact o5.fr ((Fr.refl [g] w5).setCell (by simp) _) (λk hk=>by simpa using (hn5 k hk).1)
      ·exact .inr ⟨gq,cq,hgq,rfl,(hrq4.fr f5 (λhx=>(hng gq (by simpa using hx)).2 rfl)).far (λe=>hgg e.symm) _⟩
      ·rw[<-HM]
       simp[M.Lk.move,M.mv]
      ·have hs5':=hs4.fr f5 (λk hk hx=>by
        rcases ho4 with h'|⟨x,h',hx'⟩
        ·exact(HN4 k (by rw[<-h'];simpa using hk)).2.2.2 (by simpa using hx)
        rw[h'] at hk
        simp at hk
        subst hk
        have hlt:k<W3.heap.size:=by
         rcases h23 with⟨hv,_⟩|⟨gx,cx,_,hv,hrow⟩
         ·rw[hv] at hx;simp[ay] at hx
         rw[hv] at hx;simp[ay] at hx;subst hx;exact hrow.lt
        simp at hx'
        omega) (λ_=>hm4 (by omega))
       exact hs5'.far (λ_=>hm4 (by omega)) p5 (by decide) 0 _
      ·intro k hk
       rcases ho4 with h'|⟨x,h',hx'⟩
       ·exact ho k (h' ▸ hk)
       rw[h'] at hk
       cases hk
       have:=f3.size
       have:=fr.size
       simp at hx'
       omega
      have t3:∀ x,x∈[g,gq]->∃ t,t∈Ts/\cB wr x=some t:=λx hx=>by
       simp only[List.mem_cons,List.not_mem_nil,or_false] at hx
       rcases hx with rfl|rfl
       ·exact⟨_,by simp,h1.ty⟩
       exact⟨_,by simp,hrq.ty⟩
      have g1:FrX B Ts [] w W3:=fr.trans (FrX.aB f3 (λx hx=>by simp only[List.mem_cons,List.not_mem_nil,or_false] at hx;rcases hx with rfl|rfl<;>assumption) t3)
      have g2:FrX B Ts [] w w4:=g1.step (FrX.bY (Ts:=Ts) f4 (λx hx=>by have:=ho x (by simpa using hx);omega)) (λ_ h=>h) (λx hx=>.inr (ho x (by simpa using hx)))
      have g3:FrX B Ts [] w w5:=g2.trans (FrX.aB f5 (λx hx=>(h24.ty (by simpa using hx)).2) (λx hx=>⟨_,by simp,(h24.ty (by simpa using hx)).1⟩))
      exact g3.trans (FrX.aB ((Fr.refl [g] w5).setCell (by simp) _) (by simpa using hg) (λx hx=>⟨242,by simp,by simp at hx;subst hx;exact p5.ty⟩))
     simp[lenOf];omega
   have hre:an=[]:=Classical.byContradiction λhne=>hbrk ⟨rfl,hne⟩
   have hr0:(an.length:Int)<=0:=by rw[hre];simp
   have HRE:=hid hre
   clear hre
   go_wp2_with fail
   refine(La.mu _ gq cq (who,true) q (hrq.fr f1 (by simp)) (by omega)).mono ?_
   rintro e w2 ⟨rfl,hrq2,f2⟩
   have f12:Fr [gq] wr w2:=(f1.mono (by simp)).trans f2
   have p1:=h1.fr f12 (by simpa using hgg)
   have ba2:=ba.fr f2 (by simp;omega)
   have hs2:=hs.fr f12 (λk hk=>by simpa using (HO2.out k (by simpa using hk)).2) hm
   have h22:=h2.fr f12 (λk hk=>by
    have:=(h2.ty hk).1
    simp only[List.mem_singleton]
    rintro rfl
    rw[hrq.ty] at this
    cases this)
   have d3:=p1.cell 3
   have z3:=p1.frozen 3
   have y0:=ba2.cell 0
   have y1:=ba2.cell 1
   simp at d3 y0 y1
   have hal:=ba2.lt
   clear c0 c1 c2 c3' qa qb
   obtain⟨W3,hW3⟩:∃ W3,W3=w2.setCell ⟨g,3,none⟩ (.slice (some ⟨gq,0,none⟩) q.length cq):=⟨_,rfl⟩
   have p3:Holds W3 g 242 #[.slice ar an.length cr,.int .i64 writer,.bool false,.slice (some ⟨gq,0,none⟩) q.length cq]:=by rw[hW3];simpa using p1.set 3 (.slice (some ⟨gq,0,none⟩) q.length cq)
   have f3:Fr [g,gq] wr W3:=by rw[hW3];exact(f12.mono (by simp)).setCell (by simp) _
   have hs3:Sl W3 3 1 (.slice a3 n c3) n xs own:=by rw[hW3];exact hs2.far hm p1 (by decide) 3 _
   have h23:Own W3 B 3 1 (.slice ar an.length cr) an.length (flat Li.cs an):=by
    rw[hW3]
    exact h22.fr ((Fr.refl [g] w2).setCell (by simp) _) (λk hk=>by
     have:=(h22.ty hk).1
     simp only[List.mem_singleton]
     rintro rfl
     rw[p1.ty] at this
     cases this)
   have hrq3:Row W3 244 2 gq q.length cq (flat La.cs q):=by rw[hW3];exact hrq2.far (λe=>hgg e.symm) _
   have ba3:Holds W3 wr.heap.size 244 #[.int .i64 who,.bool true]:=by rw[hW3];exact ba2.far (by simp;omega) _
   have hgl3:=p3.lt
   have hn4:∀ k,own=some k->k≠g/\k≠gq/\k≠wr.heap.size/\ay (.slice ar an.length cr)≠some k:=λk hk=>by
    obtain⟨x1,x2⟩:=HO2.out k hk
    have:=(hk ▸ hs).cI
    obtain⟨c',_,hrow⟩:=this
    have:=hrow.lt
    exact⟨x1,x2,by omega,HOV k hk⟩
   have HN4:=hid hn4
   have HG:=hid (show g∉(ay (.slice ar an.length cr)).toList from λhk=>by
    have:=(h2.ty (g:=g) (by simpa using hk)).1
    rw[h1.ty] at this
    cases this)
   clear hn4
   have H4:=hid (λ(S:List Nat) (W4:World) (f:Fr S W3 W4) (hS:∀ k,k∈S->k≠g/\k≠gq/\k≠wr.heap.size/\ay (.slice ar an.length cr)≠some k)=>(⟨p3.fr f (λhx=>(hS g hx).1 rfl),h23.fr f (λk hk hx=>(hS k hx).2.2.2 hk),hrq3.fr f (λhx=>(hS gq hx).2.1 rfl),ba3.fr f (λhx=>(hS _ hx).2.2.1 rfl)⟩:Holds W4 g 242 _/\Own W4 B 3 1 _ an.length (flat Li.cs an)/\Row W4 244 2 gq q.length cq _/\Holds W4 wr.heap.size 244 _))
   clear hs2 h22 hrq2 ba2
   go_wp2_with (at_builtin;go_loud (refine af rfl (.tmp 42) (.tmp 45) 45 rfl i3 _ 8 underlying45 hi hz0 hz1 hz2 rfl (by decide) _ own rfl ((by rw[<-hW3];exact hs3.fr0 ((Fr.refl [] W3).alloc _))) _ 1 1 [.int .i64 who] rfl rfl (Cells.one (aE (t:=3) (cs:=#[.int .i64 who]) (by simp))) (by simp[Value.oneCell']) (by unfold maxLen;omega) (by omega) ?_;rw[<-hW3];intro v4 w4 own4 hs4 hf4 ho4 hm4;clear d3 y0 y1 z3;obtain⟨a4,c4,rfl⟩:=hs4.form; have f4:Fr own.toList W3 w4:=((Fr.refl _ W3).alloc _).trans hf4;obtain⟨p4,h24,hrq4,ba4⟩:=H4.out _ w4 f4 (λk hk=>HN4 k (by simpa using hk));have e1:=p4.cell 1;have t1:=p4.frozen 1;have e2:=p4.cell 2;have t2:=p4.frozen 2;have y0:=ba4.cell 0;have y1:=ba4.cell 1;simp at e1 e2 y0 y1))
   go_roundw
   case rel =>
    have hB4:B<=w4.heap.size:=by have:=f4.size;have:=f3.size;have:=fr.size;omega
    refine⟨⟨an,who,true,q⟩,n+1,xs++[.int .i64 who],own4,.slice ar an.length cr,.slice (some ⟨gq,0,none⟩) q.length cq,⟨?_,?_,?_,?_⟩,?_,(show an.length+q.length<=100 by omega),?_,(show n+1+q.length<=100 by omega),?_,λ_=>hm4 (by omega),?_⟩
    ·simpa using (p4.set 1 (.int .i64 who)).set 2 (.bool true)
    ·exact h24.fr (((Fr.refl [g] w4).setCell (by simp) _).setCell (by simp) _) (λk hk=>by
      have:=(h24.ty hk).1
      simp only[List.mem_singleton]
      rintro rfl
      rw[p4.ty] at this
      cases this)
    ·exact .inr ⟨gq,cq,hgq,rfl,(hrq4.far (λe=>hgg e.symm) _).far (λe=>hgg e.symm) _⟩
    ·intro k hk hx
     rcases ho4 with h'|⟨x,h',hx'⟩
     ·exact(HN4 k (h' ▸ hk)).2.2.2 hx
     rw[h'] at hk
     cases hk
     have hlt:k<W3.heap.size:=by
      rcases h23 with⟨hv,_⟩|⟨gx,cx,_,hv,hrow⟩
      ·rw[hv] at hx;cases hx
      rw[hv] at hx;cases hx;exact hrow.lt
     simp at hx'
     omega
    ·rw[<-HM]
     show M.mv q an who true=M.mv ((who,true)::q) an writer false
     rw[HRE,M.A0 _ _ _ rfl,M.lK]
    ·exact(hs4.far (λ_=>hm4 (by omega)) p4 (by decide) 1 _).far (λ_=>hm4 (by omega)) (p4.set 1 _) (by decide) 2 _
    ·intro k hk
     rcases ho4 with h'|⟨x,h',hx'⟩
     ·exact ho k (h' ▸ hk)
     rw[h'] at hk
     cases hk
     have:=f3.size
     have:=fr.size
     simp at hx'
     omega
    have t3:∀ x,x∈[g,gq]->∃ t,t∈Ts/\cB wr x=some t:=λx hx=>by
     simp only[List.mem_cons,List.not_mem_nil,or_false] at hx
     rcases hx with rfl|rfl
     ·exact⟨_,by simp,h1.ty⟩
     exact⟨_,by simp,hrq.ty⟩
    have g1:FrX B Ts [] w W3:=fr.trans (FrX.aB f3 (λx hx=>by simp only[List.mem_cons,List.not_mem_nil,or_false] at hx;rcases hx with rfl|rfl<;>assumption) t3)
    have g2:FrX B Ts [] w w4:=g1.step (FrX.bY (Ts:=Ts) f4 (λx hx=>by have:=ho x (by simpa using hx);omega)) (λ_ h=>h) (λx hx=>.inr (ho x (by simpa using hx)))
    exact g2.trans (FrX.aB (((Fr.refl [g] w4).setCell (by simp) _).setCell (by simp) _) (by simpa using hg) (λx hx=>⟨242,by simp,by simp at hx;subst hx;exact p4.ty⟩))
   simp[lenOf];omega
  have HE:=hid (show M.Lk.move ⟨an,writer,true,(who,wt)::q⟩=⟨an,writer,true,(who,wt)::q⟩ from M.lK _ _ _)
  have HM:=hid hmv
  clear hmv
  go_wp2
  go_ret
  exact⟨_,_,_,rfl,by rw[<-HM,HE];exact hl,fr⟩
open Go.RowKit
theorem Ea (w:World)(B g:Nat)(l:M.Lk)(who:Int)(wt:Bool)(h:df w B g l)(hB:B<=w.heap.size)(hg:B<=g)(hn:l.an.length+l.queue.length<=99) :
  Calls prog 114 #[.pointer (some ⟨g,0,none⟩),.int .i64 who,.bool wt] w λe w'=>(∃ b,e = .returned (.bool b))/\df w' B g (l.ask who wt)/\FrX B Ts [] w w':=by
 obtain⟨i3,hi,hz0,hz1,hz2⟩:=info_parts La.dU
 by_cases hst:l.state who=0
 ·have HS:=hid hst
  have HA:=hid (show l.ask who wt=M.Lk.move { l with queue:=l.queue++[(who,wt)] } by unfold M.Lk.ask;rw[if_pos hst])
  clear hst
  go_enter func114,ntmps114
  go_wp2_with fail
  refine uu (eK w B g l who h) λw1 f1=>?_
  rw[HS]
  have hl1:=h.fr0 f1
  obtain⟨lr,lq,vr,vq,h1,h2,h3⟩:=hl1
  obtain⟨ar,cr,rfl⟩:=h2.form
  obtain⟨aq,cq,rfl⟩:=h3.form
  have c3:=h1.cell 3
  have z3:=h1.frozen 3
  simp at c3
  have hgl:=h1.lt
  have hgo:g∉(ay (.slice aq l.queue.length cq)).toList:=λhk=>by
   have:=(h3.ty (g:=g) (by simpa using hk)).1
   rw[h1.ty] at this
   cases this
  have HG:=hid hgo
  have HT:=hid (λk (hk:ay (.slice aq l.queue.length cq)=some k)=>h3.ty hk)
  have hsz:=f1.size
  clear hgo
  go_wp2_with (at_builtin;refine af rfl (.tmp 15) (.tmp 19) 240 rfl i3 _ 16 underlying240 hi hz0 hz1 hz2 rfl (by decide) _ (ay (.slice aq l.queue.length cq)) rfl (h3.sl.fr0 ((Fr.refl [] w1).alloc _)) _ 1 1 [.int .i64 who,.bool wt] rfl rfl (λj u hu=>⟨_,rfl,by rw[dZ,Nat.zero_add,(aE (cs:=#[.int .i64 who,.bool wt]) (t:=244) (n:=w1.heap.size) rfl).cell j];simpa using hu⟩) (by simp[Value.oneCell']) (by unfold maxLen;omega) (by omega) ?_;intro v2 w2 own2 hs2 hf2 ho2 hm2;obtain⟨a2,c2,rfl⟩:=hs2.form;have f2:Fr (ay (.slice aq l.queue.length cq)).toList w1 w2:=((Fr.refl _ w1).alloc _).trans hf2;have p2:=h1.fr f2 HG;have d3:=p2.cell 3;have t3:=p2.frozen 3;simp at d3;clear c3 z3)
  have hql:B<=w1.heap.size:=by omega
  obtain⟨o2,e2⟩:=bn (v:=.slice aq l.queue.length cq) (w:=w1.alloc (.cells #[.int .i64 who,.bool wt] 244)) (by simp;omega) (λk hk=>(HT.out k hk).2) hs2 ho2 (hm2 (by omega))
  have hng:∀ k,ay (.slice a2 (l.queue.length+1) c2)=some k->k≠g:=λk hk=>by
   rw[e2] at hk
   rcases ho2 with h'|⟨x,h',hx⟩
   ·rintro rfl
    exact HG (by rw[<-h'];simpa using hk)
   rw[h'] at hk
   cases hk
   simp at hx
   omega
  obtain⟨W3,hW3⟩:∃ W3,W3=w2.setCell ⟨g,3,none⟩ (.slice a2 (l.queue.length+1) c2):=⟨_,rfl⟩
  have f3:Fr [g] w2 W3:=by rw[hW3];exact rZ.setCell (by simp) _
  have hl3:df W3 B g { l with queue:=l.queue++[(who,wt)] }:=by
   refine⟨lr,by simp;omega,.slice ar l.an.length cr,.slice a2 (l.queue.length+1) c2,?_,?_,?_⟩
   ·rw[hW3];simpa using p2.set 3 (.slice a2 (l.queue.length+1) c2)
   ·refine(h2.fr f2 (λk hk hx=>?_)).fr f3 (λk hk=>?_)
    ·have a:=(h2.ty hk).1
     have b:=(HT k (by simpa using hx)).1
     rw[a] at b
     cases b
    have a:=(h2.ty hk).1
    simp only[List.mem_singleton]
    rintro rfl
    rw[h1.ty] at a
    cases a
   have e:flat La.cs (l.queue++[(who,wt)])=flat La.cs l.queue++[.int .i64 who,.bool wt]:=by rw[aP,bS];rfl
   simp only[List.length_append,List.length_cons,List.length_nil,e]
   exact o2.fr f3 (λk hk=>by simpa using hng k hk)
  have g3:FrX B Ts [] w W3:=by
   have a1:FrX B Ts [] w w1:=FrX.aA f1
   have a2:FrX B Ts [] w w2:=a1.trans (FrX.aB f2 (λx hx=>(HT x (by simpa using hx)).2) (λx hx=>⟨_,by simp,(HT.out x (by simpa using hx)).1⟩))
   exact a2.trans (FrX.aB f3 (by simpa using hg) (λx hx=>⟨242,by simp,by simp at hx;subst hx;exact p2.ty⟩))
  have hB3:B<=W3.heap.size:=by have:=g3.size;omega
  rw[<-hW3]
  refine(jC W3 B g _ hl3 hB3 hg (by simp;omega)).mono ?_
  rintro e w4 ⟨a4,n4,c4,rfl,hl4,g4⟩
  rw[<-HA] at hl4
  clear d3 t3 hW3
  go_wp2_with fail
  refine uu (eK w4 B g _ who hl4) λw5 f5=>?_
  go_wp2_with fail
  go_ret
  exact⟨⟨_,rfl⟩,hl4.fr0 f5,(g3.trans g4).trans (FrX.aA f5)⟩
 have hA:l.ask who wt=l:=by unfold M.Lk.ask;rw[if_neg hst]
 have hb:(l.state who != 0)=true:=by simpa using hst
 rw[hA]
 clear hA hst
 have HB:=hid hb
 clear hb
 go_enter func114,ntmps114
 go_wp2_with fail
 refine uu (eK w B g l who h) λw1 f1=>?_
 have hb:=HB.out
 generalize l.state who=z at hb ⊢
 go_wp2_with fail
 go_ret
 exact⟨⟨_,rfl⟩,h.fr0 f1,FrX.aA f1⟩
theorem yp (w:World)(B g:Nat)(l:M.Lk)(who:Int)(h:df w B g l)(hB:B<=w.heap.size)(hg:B<=g)(hn:l.an.length+l.queue.length<=100)(hst:l.state who=3∨l.state who=2) :
  Calls prog 119 #[.pointer (some ⟨g,0,none⟩),.int .i64 who] w λe w'=>(∃ a n c,e = .returned (.slice a n c))/\df w' B g (l.leave who)/\FrX B Ts [] w w':=by
 have f0:Fr [] w (w.alloc (.cells #[.int .i64 who] 3)):=rZ.alloc _
 have b0:=Holds.new w 3 #[.int .i64 who]
 rcases hst with hst|hst
 ·have HS:=hid hst
  have HA:=hid (show l.leave who=M.Lk.move { l with writes:=false } by unfold M.Lk.leave;rw[if_pos hst])
  clear hst
  go_enter func119,ntmps119
  go_wp2_with fail
  refine uu (eK _ B g l who (h.fr0 f0)) λw1 f1=>?_
  rw[HS]
  have f01:=f0.trans f1
  obtain⟨lr,lq,vr,vq,h1,h2,h3⟩:=h.fr0 f01
  have d2:=h1.cell 2
  have t2:=h1.frozen 2
  simp at d2
  go_wp2_with fail
  obtain⟨W3,hW3⟩:∃ W3,W3=w1.setCell ⟨g,2,none⟩ (.bool false):=⟨_,rfl⟩
  have f3:Fr [g] w1 W3:=by rw[hW3];exact rZ.setCell (by simp) _
  have hl3:df W3 B g { l with writes:=false }:=by
   refine⟨lr,lq,vr,vq,?_,?_,?_⟩
   ·rw[hW3];simpa using h1.set 2 (.bool false)
   ·refine h2.fr f3 (λk hk=>?_)
    have a:=(h2.ty hk).1
    simp only[List.mem_singleton]
    rintro rfl
    rw[h1.ty] at a
    cases a
   refine h3.fr f3 (λk hk=>?_)
   have a:=(h3.ty hk).1
   simp only[List.mem_singleton]
   rintro rfl
   rw[h1.ty] at a
   cases a
  have g3:FrX B Ts [] w W3:=(FrX.aA f01).trans (FrX.aB f3 (by simpa using hg) (λx hx=>⟨242,by simp,by simp at hx;subst hx;exact h1.ty⟩))
  have hB3:B<=W3.heap.size:=by have:=g3.size;omega
  rw[<-hW3]
  refine(jC W3 B g _ hl3 hB3 hg hn).mono ?_
  rintro e w4 ⟨a4,n4,c4,rfl,hl4,g4⟩
  rw[<-HA] at hl4
  clear d2 t2 hW3
  go_wp2_with fail
  go_ret
  exact⟨⟨_,_,_,rfl⟩,hl4,g3.trans g4⟩
 have HS:=hid hst
 have HA:=hid (show l.leave who=M.Lk.move { l with an:=l.an.filter (λx=>x != who) } by unfold M.Lk.leave;rw[if_neg (by rw[hst];decide),if_pos hst])
 have hne:l.an≠[]:=λe=>by
  unfold M.Lk.state at hst
  rw[e] at hst
  simp only[List.contains_nil,Bool.false_eq_true,if_false] at hst
  split at hst
  ·cases hst
  split at hst<;>cases hst
 have hpos:=List.length_pos_iff.2 hne
 clear hst hne
 go_enter func119,ntmps119
 go_wp2_with fail
 refine uu (eK _ B g l who (h.fr0 f0)) λw1 f1=>?_
 rw[HS]
 have f01:=f0.trans f1
 have b1:=b0.fr f1 (by simp)
 obtain⟨lr,lq,vr,vq,h1,h2,h3⟩:=h.fr0 f01
 obtain⟨gr,cr,hgr,rfl,hrow⟩:=h2.pos hpos
 have d0:=h1.cell 0
 have t0:=h1.frozen 0
 have y0:=b1.cell 0
 simp at d0 y0
 have hgg:g≠gr:=λe=>by
  have:=hrow.ty
  rw[<-e,h1.ty] at this
  cases this
 have hgrw:gr<w.heap.size:=by
  obtain⟨_,_,vr',vq',k1,k2,k3⟩:=h
  have e:vr' = .slice (some ⟨gr,0,none⟩) l.an.length cr:=by
   have a:=(k1.fr f01 (by simp)).cell 0
   have b:=h1.cell 0
   rw[a] at b
   simpa using b
  subst e
  rcases k2 with⟨hv,_⟩|⟨_,_,_,hv,hrow'⟩
  ·cases hv
  cases hv;exact hrow'.lt
 go_wp2_with fail
 refine(Li.nY w1 B gr cr l.an (λx=>x==who) w.heap.size hrow hgr (by omega) (λw' fw x _=>Dg w' w.heap.size who x (fw.cell y0 b1.lt (by simp;omega)))).mono ?_
 rintro e w2 ⟨rfl,hrow2,f2⟩
 have p2:=h1.fr f2 (by simpa using hgg)
 have d0':=p2.cell 0
 have t0':=p2.frozen 0
 simp at d0'
 clear d0 t0
 go_wp2_with fail
 obtain⟨m,hm⟩:∃ m,m=(l.an.filter λy=>!(y==who)).length:=⟨_,rfl⟩
 obtain⟨W3,hW3⟩:∃ W3,W3=w2.setCell ⟨g,0,none⟩ (.slice (some ⟨gr,0,none⟩) (l.an.filter λy=>!(y==who)).length cr):=⟨_,rfl⟩
 have f3:Fr [g] w2 W3:=by rw[hW3];exact rZ.setCell (by simp) _
 have hfl:(l.an.filter λy=>!(y==who))=l.an.filter (λx=>x != who):=rfl
 have hlen:=List.length_filter_le (λy=>!(y==who)) l.an
 have hl3:df W3 B g { l with an:=l.an.filter (λx=>x != who) }:=by
  refine⟨(show (l.an.filter λy=>!(y==who)).length<=100 by omega),lq,.slice (some ⟨gr,0,none⟩) (l.an.filter λy=>!(y==who)).length cr,vq,?_,?_,?_⟩
  ·rw[hW3];simpa using p2.set 0 (.slice (some ⟨gr,0,none⟩) (l.an.filter λy=>!(y==who)).length cr)
  ·exact .inr ⟨gr,cr,hgr,rfl,hrow2.fr f3 (by simpa using λe=>hgg e.symm)⟩
  refine(h3.fr f2 (λk hk=>?_)).fr f3 (λk hk=>?_)
  ·have a:=(h3.ty hk).1
   simp only[List.mem_singleton]
   rintro rfl
   rw[hrow.ty] at a
   cases a
  have a:=(h3.ty hk).1
  simp only[List.mem_singleton]
  rintro rfl
  rw[h1.ty] at a
  cases a
 have g3:FrX B Ts [] w W3:=((FrX.aA f01).trans (FrX.aB f2 (by simpa using hgr) (λx hx=>⟨3,by simp,by simp at hx;subst hx;exact hrow.ty⟩))).trans (FrX.aB f3 (by simpa using hg) (λx hx=>⟨242,by simp,by simp at hx;subst hx;exact p2.ty⟩))
 have hB3:B<=W3.heap.size:=by have:=g3.size;omega
 first|rw[<-hW3]|(simp only[bne] at *;rw[<-hW3])
 refine(jC W3 B g _ hl3 hB3 hg (show (l.an.filter λy=>!(y==who)).length+l.queue.length<=100 by omega)).mono ?_
 rintro e w4 ⟨a4,n4,c4,rfl,hl4,g4⟩
 rw[<-HA] at hl4
 clear d0' t0' hW3
 go_wp2_with fail
 go_ret
 exact⟨⟨_,_,_,rfl⟩,hl4,g3.trans g4⟩
end Lo
namespace Lp
open Go.RowKit
abbrev El:=M.Op
def cs (x:El):List Value:=[.bool x.del,.string x.uid,.string x.au,.int .i64 x.ck,.int .i64 x.cv]
theorem bh (x:El):(cs x).length=5:=rfl
theorem cQ {x:El} : ∀ u∈cs x,u.oneCell'=true:=by
 intro u hu
 simp only[cs,List.mem_cons,List.not_mem_nil,or_false] at hu
 rcases hu with rfl|rfl|rfl|rfl|rfl<;>rfl
theorem dU:(prog.info? 43).map (λi=>(i.zero,i.size,i.bytes))=some (some (.agg #[.bool false,.string ByteArray.empty,.string ByteArray.empty,.int .i64 0,.int .i64 0]),5,56):=by kernel_rfl
def bL (p:El->Bool)(l:List El):Int:=match l.findIdx? p with|some k=>(k:Int)|none=>-1
theorem dV {p:El->Bool}{l:List El}{k:Nat}{x:El}(h:∀ (j:Nat) y,l[j]? = some y->j<k->p y=false)(hx:l[k]? = some x)(hp:p x=true):bL p l=(k:Int):=by
 have hk:=List.getElem?_eq_some_iff.1 hx
 have:l.findIdx? p=some k:=by
  rw[List.findIdx?_eq_some_iff_getElem]
  refine⟨hk.1,by rw[hk.2];exact hp,λj hj=>?_⟩
  have:=h j (l[j]'(Nat.lt_trans hj hk.1)) (List.getElem?_eq_getElem _) hj
  rw[this]
  decide
 rw[bL,this]
theorem eL {p:El->Bool}{l:List El}(h:∀ (j:Nat) y,l[j]? = some y->p y=false):bL p l = -1:=by
 have:l.findIdx? p=none:=by
  rw[List.findIdx?_eq_none_iff]
  intro x hx
  obtain⟨j,hj⟩:=List.getElem?_of_mem hx
  exact h j x hj
 rw[bL,this]
theorem gT (p:El->Bool)(l:List El):decide (bL p l >= 0)=l.any p:=by
 unfold bL
 cases h:l.findIdx? p with
 | none =>
  rw[List.findIdx?_eq_none_iff] at h
  have:l.any p=false:=by rw[List.any_eq_false];intro x hx;rw[h x hx];decide
  rw[this]
  rfl
 | some k =>
  rw[List.findIdx?_eq_some_iff_getElem] at h
  obtain⟨hk,hp,_⟩:=h
  have:l.any p=true:=List.any_eq_true.2 ⟨_,List.getElem_mem hk,hp⟩
  rw[this]
  simp
theorem dr (w:World)(B:Nat)(v:Value)(l:List El)(p:El->Bool)(b:Nat)(h:Own w B 43 5 v l.length (flat cs l))(hl:l.length<=1000)
  (hp:∀ w',Fr [] w w'->∀ x,x∈l->Calls prog 244 #[.agg #[.bool x.del,.string x.uid,.string x.au,.int .i64 x.ck,.int .i64 x.cv],.pointer (some ⟨b,0,none⟩)] w' λe w''=>e = .returned (.bool (p x))/\Fr [] w' w'') :
  Calls prog 288 #[v,.func (.func 244) #[] #[.pointer (some ⟨b,0,none⟩)]] w λe w'=>e = .returned (.int .i64 (bL p l))/\Fr [] w w':=by
 obtain⟨a,c,rfl⟩:=h.form
 have HP:=hid hp
 clear hp
 go_enter func288,ntmps288
 go_wp2
 go_loopw [5,8] (λ_ i wr=>∃ k:Nat,k<=l.length/\i = .int .i64 k/\(∀ (j:Nat) y,l[j]? = some y->j<k->p y=false)/\Fr [] w wr) (λ_ i _=>l.length - (intOf i).toNat)
 case atStart=>exact⟨0,Nat.zero_le _,rfl,λ_ _ _ h=>by omega,rZ⟩
 obtain⟨k,hk,rfl,hno,fr⟩:=hrel
 by_cases hlt:k<l.length
 ·have hx:l[k]? = some l[k]:=List.getElem?_eq_getElem hlt
  obtain⟨x,hx'⟩:∃ x,l[k]=x:=⟨_,rfl⟩
  rw[hx'] at hx
  clear hx'
  have hk1:(k:Int)<(l.length:Int):=by omega
  obtain⟨g,c2,hg,hv,hr,hgl,hcell⟩:=(h.fr0 fr).cell bh rfl hx
  cases hv
  have q0:wr.cell? ⟨g,k*5,none⟩=some (.bool x.del):=hcell 0 _ (by omega) rfl
  have q1:wr.cell? ⟨g,k*5+1,none⟩=some (.string x.uid):=hcell 1 _ (by omega) rfl
  have q2:wr.cell? ⟨g,k*5+2,none⟩=some (.string x.au):=hcell 2 _ (by omega) rfl
  have q3:wr.cell? ⟨g,k*5+3,none⟩=some (.int .i64 x.ck):=hcell 3 _ (by omega) rfl
  have q4:wr.cell? ⟨g,k*5+4,none⟩=some (.int .i64 x.cv):=hcell 4 _ (by omega) rfl
  have hcall:=HP.out wr fr x (List.mem_of_getElem? hx)
  have HX:=hid hx
  have HN:=hid hno
  have HC:=hid hcall
  clear hx hno hcall hr hcell
  cases hb:p x
  ·have HB:=hid hb
   clear hb
   go_wp2_with fail
   refine uu HC λw' f2=>?_
   rw[HB]
   go_wp2_with fail
   go_roundw
   case rel=>exact⟨k+1,by omega,by go_num,λj y hy hj=>by
    by_cases e:j=k
    ·subst e
     rw[HX] at hy
     cases hy
     exact HB
    exact HN.out j y hy (by omega),fr.trans f2⟩
   simp[intOf];omega
  have HB:=hid hb
  have HF:=hid (dV HN HX hb)
  clear hb
  go_wp2_with fail
  refine uu HC λw' f2=>?_
  rw[HB]
  go_wp2_with fail
  go_ret
  exact⟨bM HF.symm,fr.trans f2⟩
 obtain rfl:k=l.length:=by omega
 have HF:=hid (eL (p:=p) (l:=l) λj y hy=>hno j y hy (List.getElem?_eq_some_iff.1 hy).1)
 clear hno
 go_wp2
 go_ret
 exact⟨bM HF.symm,fr⟩
theorem jd (w:World)(B:Nat)(v:Value)(l:List El)(p:El->Bool)(b:Nat)(h:Own w B 43 5 v l.length (flat cs l))(hl:l.length<=1000)
  (hp:∀ w',Fr [] w w'->∀ x,x∈l->Calls prog 244 #[.agg #[.bool x.del,.string x.uid,.string x.au,.int .i64 x.ck,.int .i64 x.cv],.pointer (some ⟨b,0,none⟩)] w' λe w''=>e = .returned (.bool (p x))/\Fr [] w' w'') :
  Calls prog 243 #[v,.func (.func 244) #[] #[.pointer (some ⟨b,0,none⟩)]] w λe w'=>e = .returned (.bool (l.any p))/\Fr [] w w':=by
 have HI:=hid (dr w B v l p b h hl hp)
 obtain⟨a,c,rfl⟩:=h.form
 have HA:=hid (gT p l)
 clear hp
 go_enter func243,ntmps243
 go_wp2_with fail
 refine uu HI λw' f2=>?_
 go_wp2_with fail
 go_ret
 exact⟨dI (by rw[<-HA]),f2⟩
end Lp
