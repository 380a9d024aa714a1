/- Walks. -/
import Derived.Test.YtocppjcocnckmaaGreatDoorM11
import Derived.IntWalk
set_option maxRecDepth 100000
set_option maxHeartbeats 8000000
set_option linter.all false
open Go.Lib (hid)
namespace Go.Proofs.YtocppjcocnckmaaGreatDoor
open Go.Proofs.Tryz
namespace Pk
open Go.RowKit Fm
theorem jT (n:Int)(h0:0<=n)(h1:n<=255):[Value.int .u8 n]=bc [nb n]:=by simp[bc,cd h0 h1]
theorem fM (w:World)(v:Value)(l:List UInt8)(n:Int)(h:BIn w v l)(hl:l.length<=100000)(h0:0<=n)(h1:n<=247) :
  Calls prog 180 #[v,.int .i64 n] w λe w'=>∃ v',e = .returned v'/\ln w w' v' (l++[nb n])/\Fr [] w w':=by
 obtain⟨i5,hi,hz0,hz1,hz2⟩:=info_parts info5
 obtain⟨a,m,c,rfl,hm,hb⟩:=h
 rw[hm] at hl
 obtain⟨w1,hmk,f1,r1⟩:=sf w (m+9) ((m:Int)+9) (by omega) (by omega)
 have hb1:=hb.fr f1 (Nat.le_refl _) (by simp)
 have hcell:=hid (jT n h0 (by omega))
 have hg1:=r1.lt
 go_enter func180,ntmps180
 go_wp2_with (at_builtin;first
  | (refine af rfl (.tmp 11) (.tmp 12) 69 rfl i5 _ 1 underlying69 hi hz0 hz1 hz2 rfl (by decide) _ _ rfl (Sl.row r1) a m c (bc l) rfl (by simp[eg,hm]) hb1.cells (jh l) (by unfold maxLen;omega) (by omega) ?_;intro v1 w2 own1 hs1 hf1 ho1 hm1;obtain⟨g1,c1,rfl,rfl,hg2,r2⟩:=bV (B:=w.heap.size) hs1 ho1 f1.size (Nat.le_refl _);have k2:=hf1.size;have f2:Fr [] w w2:=f1.step hf1 (by simp);simp only[Nat.zero_add,List.nil_append] at r2)
  | (refine af rfl (.tmp 19) (.tmp 22) 69 rfl i5 _ 1 underlying69 hi hz0 hz1 hz2 rfl (by decide) _ _ rfl ((Sl.row r2).fr0 ((Fr.refl [] w2).alloc _)) _ 1 1 [.int .u8 n] rfl rfl (Cells.one (Holds.new w2 5 #[.int .u8 n])) (by simp[Value.oneCell']) (by unfold maxLen;omega) (by omega) ?_;intro v2 w3 own2 hs2 hf2 ho2 hm2;obtain⟨g2,c2,rfl,rfl,hg3,r3⟩:=bV (B:=w.heap.size) hs2 ho2 (by simp;omega) hg2))
 go_ret
 rw[hcell,<-cF] at r3
 exact⟨_,rfl,⟨g2,c2,_,rfl,hg3,by simp[hm],r3⟩,(f2.alloc _).step hf2 (by simpa using hg2)⟩
theorem FI (j:Nat):(2:Nat) ^ (8*j)=256 ^ j:=by rw[Nat.pow_mul]
theorem Dn (n j:Nat)(h1:n<=9223372036854775807):((n:Int) / 2 ^ (8*j) != 0)=decide (j<(beL n).length):=by
 have h:=sY 8 n j (by omega)
 have e:(n:Int) / 2 ^ (8*j)=((n / 256 ^ j:Nat):Int):=by rw[<-FI];simp
 rw[e,bne,Bool.eq_iff_iff]
 simp only[Bool.not_eq_true',beq_eq_false_iff_ne,ne_eq,decide_eq_true_eq]
 rw[show beL n=beF 8 n from rfl,h]
 omega
theorem pS (w:World)(v:Value)(l:List UInt8)(n:Nat)(h:BIn w v l)(hl:l.length<=100000)(h0:247<n)(h1:n<=9223372036854775807) :
  Calls prog 180 #[v,.int .i64 n] w λe w'=>∃ v',e = .returned v'/\ln w w' v' (l++nb (247+((beL n).length:Int))::beL n)/\Fr [] w w':=by
 obtain⟨i5,hi,hz0,hz1,hz2⟩:=info_parts info5
 obtain⟨a,m,c,rfl,hm,hb⟩:=h
 rw[hm] at hl
 obtain⟨w1,hmk,f1,r1⟩:=sf w (m+9) ((m:Int)+9) (by omega) (by omega)
 have hb1:=hb.fr f1 (Nat.le_refl _) (by simp)
 have hg1:=r1.lt
 have hn0:¬ (n:Int)<0:=by omega
 have hn1:¬ (n:Int)<=247:=by omega
 go_enter func180,ntmps180
 go_wp2_with (at_builtin;first
  | (refine af rfl (.tmp 11) (.tmp 12) 69 rfl i5 _ 1 underlying69 hi hz0 hz1 hz2 rfl (by decide) _ _ rfl (Sl.row r1) a m c (bc l) rfl (by simp[eg,hm]) hb1.cells (jh l) (by unfold maxLen;omega) (by omega) ?_;intro v1 w2 own1 hs1 hf1 ho1 hm1;obtain⟨g1,c1,rfl,rfl,hg2,r2⟩:=bV (B:=w.heap.size) hs1 ho1 f1.size (Nat.le_refl _);have k2:=hf1.size;have f2:Fr [] w w2:=f1.step hf1 (by simp);simp only[Nat.zero_add,List.nil_append] at r2))
 go_loop [6] (λk=>∃ j:Nat,j<=(beL n).length/\k = .int .i64 j) (λk=>8 - (intOf k).toNat)
 case atStart=>exact⟨0,Nat.zero_le _,rfl⟩
 obtain⟨j,hj,rfl⟩:=hrel
 have hlen:(beL n).length<=8:=jV 8 n
 have hmo:=Dn n j h1
 by_cases hlt:j<(beL n).length
 ·have hj8:(j:Int)<8:=by omega
  rw[decide_eq_true hlt] at hmo
  go_wp2_with fail
  go_round
  case rel=>exact⟨j+1,by omega,by go_num⟩
  simp[intOf];omega
 obtain rfl:j=(beL n).length:=by omega
 rw[decide_eq_false hlt] at hmo
 obtain⟨L,hL⟩:∃ L,beL n=L:=⟨_,rfl⟩
 rw[hL] at hlen hmo ⊢
 have HL:=hid hL
 have HMo:=hid hmo
 have hu:[Value.int .u8 (247+(L.length:Int))]=bc [nb (247+(L.length:Int))]:=jT _ (by omega) (by omega)
 have HU:=hid hu
 have hlt':(L.length:Int)<=8:=by omega
 clear hL hu hlt hj
 have hdec:L.length<8∨L.length=8:=by omega
 rcases hdec with h8|h8
 case' inl=>have h8':(L.length:Int)<8:=by omega
 case' inr =>
  have h8':¬ (L.length:Int)<8:=by omega
  clear h8
 all_goals
  go_wp2_with (at_builtin;(refine af rfl (.tmp 36) (.tmp 40) 69 rfl i5 _ 1 underlying69 hi hz0 hz1 hz2 rfl (by decide) _ _ rfl ((Sl.row r2).fr0 ((Fr.refl [] w2).alloc _)) _ 1 1 [.int .u8 (247+(L.length:Int))] rfl rfl (Cells.one (Holds.new w2 5 #[.int .u8 (247+(L.length:Int))])) (by simp[Value.oneCell']) (by unfold maxLen;omega) (by omega) ?_;intro v2 w3 own2 hs2 hf2 ho2 hm2;obtain⟨g2,c2,rfl,rfl,hg3,r3⟩:=bV (B:=w.heap.size) hs2 ho2 (by simp;omega) hg2))
  have f3:Fr [] w w3:=(f2.alloc _).step hf2 (by simpa using hg2)
  rw[HU,<-cF] at r3
  go_loopw [5,7] (λo i wr=>∃ k:Nat,k<=L.length/\i = .int .i64 ((L.length:Int) - 1 - k)/\ln w wr o (l++nb (247+(L.length:Int))::L.take k)/\Fr [] w wr) (λ_ i _=>(intOf i+1).toNat)
  case atStart=>exact⟨0,Nat.zero_le _,by simp,⟨g2,c2,m+1,rfl,hg3,by simp[hm],by simpa using r3⟩,f3⟩
  obtain⟨k,hk,rfl,⟨g,c',n',rfl,hg,hn',hr⟩,fr⟩:=hrel
  by_cases hlt:k<L.length
  ·obtain⟨j,hj⟩:∃ j,j=L.length - 1 - k:=⟨_,rfl⟩
   have hji:(L.length:Int) - 1 - k=(j:Int):=by omega
   rw[hji]
   have hget:L[k]? = some (UInt8.ofNat (n / 256 ^ j % 256)):=by
    have:=wD 8 n k (by omega) (by rw[show beF 8 n=L from HL];exact hlt)
    rw[show beF 8 n=L from HL,<-hj] at this
    exact this
   have hby:[Value.int .u8 ((n:Int) / 2 ^ (8*j) % 256)]=bc [UInt8.ofNat (n / 256 ^ j % 256)]:=by
    have e:(n:Int) / 2 ^ (8*j) % 256=((n / 256 ^ j % 256:Nat):Int):=by rw[<-FI];simp
    rw[e]
    simp[bc]
   have HB:=hid hby
   have HT:=hid (show L.take (k+1)=L.take k++[UInt8.ofNat (n / 256 ^ j % 256)] by rw[List.take_add_one,hget];rfl)
   have HJ:=hid (And.intro hj hji)
   have hj8:(j:Int)<8:=by omega
   have HN:=hid hn'
   have hn2:n'<=200000:=by rw[<-hn'];simp;omega
   clear hget hby hj hji hn'
   go_wp2_with (at_builtin;(refine af rfl (.tmp 48) (.tmp 55) 69 rfl i5 _ 1 underlying69 hi hz0 hz1 hz2 rfl (by decide) _ _ rfl ((Sl.row hr).fr0 ((Fr.refl [] wr).alloc _)) _ 1 1 [.int .u8 ((n:Int) / 2 ^ (8*j) % 256)] rfl rfl (Cells.one (Holds.new wr 5 #[.int .u8 ((n:Int) / 2 ^ (8*j) % 256)])) (by simp[Value.oneCell']) (by unfold maxLen;omega) (by omega) ?_;intro v4 w4 own4 hs4 hf4 ho4 hm4;obtain⟨g4,c4,rfl,rfl,hg4,r4⟩:=bV (B:=w.heap.size) hs4 ho4 (by have:=fr.size;simp;omega) hg))
   go_roundw
   case rel=>exact⟨k+1,by omega,congrArg (Value.int .i64) (by have:=HJ.2;omega),⟨g4,c4,n'+1,rfl,hg4,by rw[HT];have:=HN.out;simp at this ⊢;omega,by rw[HT,<-List.cons_append,<-List.append_assoc,cF,<-HB];exact r4⟩,(fr.alloc _).step hf4 (by simpa using hg)⟩
   simp[intOf]
  obtain rfl:k=L.length:=by omega
  have e1:(L.length:Int) - 1 - (L.length:Int) = -1:=by omega
  rw[e1]
  clear e1 hlt hk
  go_wp2_with fail
  go_ret
  rw[HL]
  exact⟨_,rfl,⟨g,c',n',rfl,hg,by rw[List.take_length] at hn';exact hn',by rw[List.take_length] at hr;exact hr⟩,fr⟩
theorem bP (w:World)(v:Value)(l:List UInt8)(n:Int)(h:BIn w v l)(hl:l.length<=100000)(h0:0<=n)(h1:n<=9223372036854775807) :
  Calls prog 180 #[v,.int .i64 n] w λe w'=>∃ v',e = .returned v'/\ln w w' v' (l++ed n)/\Fr [] w w':=by
 unfold ed
 by_cases hs:n<=247
 ·rw[if_pos hs]
  exact fM w v l n h hl h0 hs
 rw[if_neg hs]
 obtain⟨k,rfl⟩:∃ k:Nat,n=k:=⟨n.toNat,by omega⟩
 exact pS w v l k h hl (by omega) (by omega)
def txt (s:ByteArray):List UInt8:=nb s.size::s.data.toList
theorem aN (w:World)(v:Value)(l:List UInt8)(s:ByteArray)(h:BIn w v l)(hl:l.length<=90000)(h1:s.size<=247) :
  Calls prog 181 #[v,.string s] w λe w'=>∃ v',e = .returned v'/\ln w w' v' (l++txt s)/\Fr [] w w':=by
 obtain⟨i5,hi,hz0,hz1,hz2⟩:=info_parts info5
 have hms:s.size<=maxLen:=by unfold maxLen;omega
 go_enter func181,ntmps181
 go_wp2_with (first
  | (at_builtin;(refine Lib.wpList_append_own_string w1 rfl (.tmp 8) (.tmp 9) 69 9 rfl w.heap.size 5 i5 underlying69 underlying9 hi hz0 hz1 hz2 (.slice (some ⟨g,0,none⟩) n c) n _ rfl (ml hr hg) s rfl (by unfold maxLen;omega) (by omega) f1.size ?_;intro v3 w4 ho3 hg3 hn3;obtain⟨g3,c3,rfl,hb3,hr3,f3⟩:=mh ho3 hg3 (λh=>by simpa using hn3.1 h)))
  | (go_at_call 180;refine(fM w v l s.size h (by omega) (by omega) (by omega)).mono ?_;rintro e w1 ⟨v',rfl,⟨g,c,n,rfl,hg,hn,hr⟩,f1⟩;have hn':n<=90001:=by simp at hn;omega))
 go_ret
 rw[jv,<-cF] at hr3
 refine⟨_,rfl,⟨g3,c3,_,rfl,hb3,by simp[txt,<-hn];omega,?_⟩,f1.step f3 (by simpa using hg)⟩
 simpa[txt] using hr3
open Go.RowKit Fm
def cu (w:World)(r:Nat)(rest:List UInt8):Prop :=
 ∃ (l:List UInt8) (k g c n:Nat),Holds w r 284 #[.slice (some ⟨g,0,none⟩) n c,.int .i64 k,.int .i64 0]/\l.length=n/\n<=100000/\k<=n/\l.drop k=rest/\Row w 5 1 g n c (bc l)
theorem cu.fr {w w':World}{r:Nat}{rest:List UInt8}(h:cu w r rest)(hf:Fr [] w w'):cu w' r rest:=by
 obtain⟨l,k,g,c,n,hp,hn,hn',hk,hd,hr⟩:=h
 exact⟨l,k,g,c,n,hp.fr hf (by simp),hn,hn',hk,hd,hr.fr hf (by simp)⟩
theorem eS (w:World)(v:Value)(l:List UInt8)(h:BIn w v l)(hl:l.length<=100000) :
  Calls prog 137 #[v] w λe w'=>∃ r,e = .returned (.pointer (some ⟨r,0,none⟩))/\cu w' r l/\w.heap.size<=r/\Fr [] w w':=by
 obtain⟨i5,hi,hz0,hz1,hz2⟩:=info_parts info5
 obtain⟨a,n,c,rfl,hn,hb⟩:=h
 rw[hn] at hl
 have f0:Fr [] w (w.alloc (.cells #[] 5)):=(Fr.refl [] w).alloc _
 have r0:Row (w.alloc (.cells #[] 5)) 5 1 w.heap.size 0 0 []:=Row.new w #[] (by simp) (by decide)
 have hb1:=hb.fr f0 (Nat.le_refl _) (by simp)
 go_enter func137,ntmps137
 go_wp2_with (at_builtin;(refine af rfl (.tmp 3) (.tmp 4) 69 rfl i5 _ 1 underlying69 hi hz0 hz1 hz2 rfl (by decide) _ _ rfl (Sl.row r0) a n c (bc l) rfl (by simp[eg,hn]) hb1.cells (jh l) (by unfold maxLen;omega) (by omega) ?_;intro v1 w2 own1 hs1 hf1 ho1 hm1;obtain⟨g1,c1,rfl,rfl,hg2,r2⟩:=bV (B:=w.heap.size) hs1 ho1 f0.size (Nat.le_refl _);have f2:Fr [] w w2:=f0.step hf1 (by simp);simp only[Nat.zero_add,List.nil_append] at r2))
 go_ret
 refine⟨_,rfl,⟨l,0,g1,c1,n,by simpa using Holds.new w2 _ _,hn,hl,Nat.zero_le _,rfl,r2.alloc _⟩,f2.size,f2.alloc _⟩
theorem lQ {l rest:List UInt8}{k:Nat}{u:UInt8}(h:l.drop k=u::rest):k<l.length/\l[k]? = some u/\l.drop (k+1)=rest:=by
 have hk:k<l.length:=by
  rcases Nat.lt_or_ge k l.length with h'|h'
  ·exact h'
  rw[List.drop_of_length_le h'] at h
  cases h
 rw[List.drop_eq_getElem_cons hk] at h
 injection h with h1 h2
 exact⟨hk,by rw[List.getElem?_eq_getElem hk,h1],h2⟩
theorem fL (w:World)(r:Nat)(l:List UInt8)(k g c n:Nat)(u:UInt8)(hp:Holds w r 284 #[.slice (some ⟨g,0,none⟩) n c,.int .i64 k,.int .i64 0])(hn:l.length=n)(hn':n<=100000)(hr:Row w 5 1 g n c (bc l))(hu:l[k]? = some u)(hu1:u.toNat<=247) :
  Calls prog 193 #[.pointer (some ⟨r,0,none⟩),.int .i64 k] w λe w'=>e = .returned (.tuple #[.int .i64 u.toNat,.int .i64 ((k:Int)+1),.int .i64 0])/\w=w':=by
 have c0:=hp.cell 0
 have hk:k<n:=by rw[<-hn];exact(List.getElem?_eq_some_iff.1 hu).1
 have hc:w.cell? ⟨g,k,none⟩=some (.int .u8 u.toNat):=hr.cell (by simp[bc,hu])
 have hub:(u.toNat:Int)<=247:=by omega
 clear hu hr
 go_enter func193,ntmps193
 go_wp2
 go_ret3
 exact⟨rfl,rfl⟩
theorem fZ (w:World)(r:Nat)(u:UInt8)(rest:List UInt8)(h:cu w r (u::rest))(hu1:u.toNat<=247) :
  Calls prog 141 #[.pointer (some ⟨r,0,none⟩)] w λe w'=>e = .returned (.int .i64 u.toNat)/\cu w' r rest/\Fr [r] w w':=by
 obtain⟨l,k,g,c,n,hp,hn,hn',hk,hd,hr⟩:=h
 obtain⟨hk1,hu,hd1⟩:=lQ hd
 have c1:=hp.cell 1
 have c2:=hp.cell 2
 have f1:=hp.frozen 1
 rw[hn] at hk1
 have hgr:=hr.ne hp (by decide)
 go_enter func141,ntmps141
 go_wp2_with (go_at_call 193;refine(fL w r l k g c n u hp hn hn' hr hu hu1).mono ?_;rintro e w' ⟨rfl,rfl⟩)
 go_ret
 have hp2:=hp.set 1 (.int .i64 ((k:Int)+1))
 exact⟨rfl,⟨l,k+1,g,c,n,by simpa using hp2,hn,hn',hk1,hd1,hr.far hgr _⟩,rZ.setCell (by simp) _⟩
theorem oz {w:World}{g n c:Nat}{l:List UInt8}(hr:Row w 5 1 g n c (bc l))(s:ByteArray)(k:Nat){rest:List UInt8}(hd:l.drop k=s.data.toList++rest) :
  ∀ (j:Nat) (x:UInt8),s.data.toList[j]? = some x->w.cell? ⟨g,k+j,none⟩=some (.int .u8 x.toNat):=λj x hx=>by
 have:l[k+j]? = some x:=by
  rw[<-List.getElem?_drop,hd,List.getElem?_append_left (List.getElem?_eq_some_iff.1 hx).1]
  exact hx
 exact hr.cell (by simp[bc,this])
theorem lz (w:World)(r:Nat)(s:ByteArray)(rest:List UInt8)(h:cu w r (txt s++rest))(hs:s.size<=247)(h0:0<s.size) :
  Calls prog 192 #[.pointer (some ⟨r,0,none⟩),.int .i64 20000] w λe w'=>e = .returned (.string s)/\cu w' r rest/\Fr [r] w w':=by
 obtain⟨l,k,g,c,n,hp,hn,hn',hk,hd,hr⟩:=h
 obtain⟨hk1,hu,hd1⟩:=lQ (l:=l) (k:=k) (u:=nb s.size) (rest:=s.data.toList++rest) (by simpa[txt] using hd)
 have hnb:=cd (n:=s.size) (by omega) (by omega)
 have hnbn:(nb s.size).toNat=s.size:=by omega
 have c0:=hp.cell 0
 have c1:=hp.cell 1
 have c2:=hp.cell 2
 have f1:=hp.frozen 1
 rw[hn] at hk1
 have hgr:=hr.ne hp (by decide)
 have hlen:k+1+s.size<=n:=by
  have:=congrArg List.length hd1
  simp only[List.length_drop,List.length_append,hn] at this
  have e:s.data.toList.length=s.size:=by simp
  omega
 have hd2:l.drop (k+1+s.size)=rest:=by
  rw[<-List.drop_drop,hd1]
  exact List.drop_left' (by simp)
 have hlen2:(s.size:Int)<=(n:Int) - ((k:Int)+1):=by omega
 have hcap:=hr.le
 have hk2:k+1<=k+1+s.size:=by omega
 have H3:=hid hd
 have H1:=hid hd1
 have H2:=hid hd2
 clear hd hd1 hd2
 go_enter func192,ntmps192
 go_wp2_with (go_at_call 193;refine(fL w r l k g c n (nb s.size) hp hn hn' hr hu (by omega)).mono ?_;rintro e w' ⟨rfl,rfl⟩;rw[hnb])
 generalize hW:w.setCell { block:=r,off:=1 } (Value.int IntKind.i64 ((k:Int)+1+s.size))=W
 have hp2:Holds W r 284 #[.slice (some ⟨g,0,none⟩) n c,.int .i64 ((k:Int)+1+s.size),.int .i64 0]:=by rw[<-hW];simpa using hp.set 1 (.int .i64 ((k:Int)+1+s.size))
 have hr2:Row W 5 1 g n c (bc l):=by rw[<-hW];exact hr.far hgr _
 have fW:Fr [r] w W:=by rw[<-hW];exact rZ.setCell (by simp) _
 have hconv:∀ (j m c':Nat),m=s.size->(convert 69 9 (.slice (some ⟨g,k+1,none⟩) m c')).run prog (W.drewN j) = .ok (.string s) (W.drewN j):=λj m c' hm=>cE (W.drewN j) g (k+1) m c' s hm.symm (oz (hr2.drewN j) s (k+1) H1)
 have d0:=hp2.cell 0
 have d1:=hp2.cell 1
 clear hW hu c0 c1 c2 f1
 go_quiet (fail)
 go_wp2
 go_ret
 exact⟨rfl,⟨l,k+1+s.size,g,c,n,by simpa using hp2.drewN _,hn,hn',hlen,H2.out,hr2.drewN _⟩,fW.drewN _⟩
theorem im (w:World)(r:Nat)(rest:List UInt8)(h:cu w r rest) :
  Calls prog 143 #[.pointer (some ⟨r,0,none⟩)] w λe w'=>e = .returned (.int .i64 0)/\w=w':=by
 obtain⟨l,k,g,c,n,hp,hn,hn',hk,hd,hr⟩:=h
 have c2:=hp.cell 2
 clear hd
 go_enter func143,ntmps143
 go_wp2
 go_ret
 exact⟨rfl,rfl⟩
theorem eV (w:World)(r:Nat)(h:cu w r []) :
  Calls prog 144 #[.pointer (some ⟨r,0,none⟩)] w λe w'=>e = .returned (.int .i64 0)/\∃ n,w'=w.drewN n:=by
 obtain⟨l,k,g,c,n,hp,hn,hn',hk,hd,hr⟩:=h
 have hk2:n<=k:=by
  have:=congrArg List.length hd
  simp[hn] at this
  omega
 obtain rfl:k=n:=by omega
 have c0:=hp.cell 0
 have c1:=hp.cell 1
 clear hd
 go_enter func144,ntmps144
 go_wp2
 go_quiet (fail)
 go_wp2
 go_ret
 exact⟨rfl,_,rfl⟩
open Go.RowKit Fm
theorem ES (i:Nat)(x y:Int)(hx₀:0<=x)(hx:x % 2 ^ i=0)(hx₁:x<2 ^ 64)(hy₀:0<=y)(hy:y<2 ^ i)(hy₁:y<2 ^ 64):bits .or .u64 x y=x+y :=
 bits_join .u64 64 (by decide) (λn h0 h1=>by rw[IntKind.wrap_u64];omega) i x y hx₀ hx hx₁ hy₀ hy hy₁
def bv (l:List UInt8):Nat:=l.foldl (λu (c:UInt8)=>u*256+c.toNat) 0
theorem wm:∀ (l:List UInt8) (u:Nat),u<=l.foldl (λu (c:UInt8)=>u*256+c.toNat) u
 | [],_=>Nat.le_refl _
 | c::l,u=>by
  rw[List.foldl_cons]
  have:=wm l (u*256+c.toNat)
  omega
theorem D4 (l:List UInt8)(i:Nat)(c:UInt8)(h:l[i]? = some c):bv (l.take (i+1))=bv (l.take i)*256+c.toNat/\bv (l.take (i+1))<=bv l:=by
 have e:l.take (i+1)=l.take i++[c]:=by rw[List.take_add_one,h];rfl
 refine⟨by rw[e];simp[bv],?_⟩
 have:bv l=(l.drop (i+1)).foldl (λu (c:UInt8)=>u*256+c.toNat) (bv (l.take (i+1))):=by
  unfold bv
  rw[<-List.foldl_append,List.take_append_drop]
 rw[this]
 exact wm _ _
theorem Gp (n:Nat)(h:n<2 ^ 64):bv (beL n)=n:=wC 8 n (by simpa using h)
theorem ux (w:World)(r:Nat)(l rest:List UInt8)(k g c n N:Nat)(hp:Holds w r 284 #[.slice (some ⟨g,0,none⟩) n c,.int .i64 k,.int .i64 0])(hn:l.length=n)(hn':n<=100000)(hr:Row w 5 1 g n c (bc l))(h0:247<N)(h1:N<2 ^ 63)(hd:l.drop k=ed N++rest) :
  Calls prog 193 #[.pointer (some ⟨r,0,none⟩),.int .i64 k] w λe w'=>e = .returned (.tuple #[.int .i64 N,.int .i64 ((k+(ed N).length:Nat):Int),.int .i64 0])/\w=w':=by
 have hnb:ed N=nb (247+((beL N).length:Int))::beL N:=by unfold ed;rw[if_neg (by omega)];simp
 have hL8:(beL N).length<=8:=jV 8 N
 have hbv:=Gp N (by omega)
 obtain⟨hc,hrr,hce,hc0⟩:=sZ 8 N (by omega) (by omega)
 have hLe:beL N=hc::hrr:=hce
 have hL1:1<=(beL N).length:=by rw[hLe];simp
 rw[hnb] at hd ⊢
 have hlen:=congrArg List.length hd
 simp only[List.length_drop,List.length_append,List.length_cons] at hlen ⊢
 have hget:∀ (j:Nat) (u:UInt8),(nb (247+((beL N).length:Int))::beL N)[j]? = some u->w.cell? ⟨g,k+j,none⟩=some (.int .u8 u.toNat):=λj u hu=>by
  have:l[k+j]? = some u:=by
   rw[<-List.getElem?_drop,hd,List.getElem?_append_left (List.getElem?_eq_some_iff.1 hu).1]
   exact hu
  exact hr.cell (by simp[bc,this])
 have q0:=hget 0 _ rfl
 have hq:∀ (j:Nat) (u:UInt8),(beL N)[j]? = some u->w.cell? ⟨g,k+1+j,none⟩=some (.int .u8 u.toNat):=λj u hu=>by
  have:=hget (j+1) u (by simpa using hu)
  rwa [show k+(j+1)=k+1+j by omega] at this
 have q1:=hq 0 hc (by rw[hLe];rfl)
 have hbt:=λj u hu=>D4 (beL N) j u hu
 obtain⟨L,hL⟩:∃ L,beL N=L:=⟨_,rfl⟩
 rw[hL] at hL8 hL1 hbv hlen q0 hq hbt ⊢
 have HQ:=hid hq
 have HB:=hid hbt
 have HV:=hid hbv
 rw[cd (by omega) (by omega:(247:Int)+(L.length:Int)<=255)] at q0
 rw[Nat.add_zero] at q0 q1
 have c0:=hp.cell 0
 have hc00:((hc.toNat:Int)==0)=false:=by
  have:¬ ((hc.toNat:Int)=0):=by omega
  simpa using this
 have hsz:(k:Int)+1+(L.length:Int)<=(n:Int):=by omega
 have hgl:g<w.heap.size:=block_lt_of_cell q0
 have hcap:=hr.le
 have hcap2:(k:Int)+1+(L.length:Int)<=(c:Int):=by omega
 have hck:¬ c=k+1:=by omega
 have hkc:(k:Int)+1<=(k:Int)+1+(L.length:Int):=by omega
 have e5:decide (n<=k)=false:=decide_eq_false (by omega)
 clear hd hget hq hbt hbv hnb hce hLe hr hL
 go_enter func193,ntmps193
 have e1:decide ((247:Int)+(L.length:Int)<=247)=false:=decide_eq_false (by omega)
 have e2:decide ((k:Int) >= (n:Int))=false:=decide_eq_false (by omega)
 have e3:(247:Int)+(L.length:Int) - 247=(L.length:Int):=by omega
 have e4:decide ((n:Int) - (k:Int) - 1<(L.length:Int))=false:=decide_eq_false (by omega)
 go_wp2_with fail
 go_loop [9,56] (λu i=>∃ j:Nat,j<=L.length/\i = .int .i64 j/\u = .int .u64 (bv (L.take j):Nat)) (λ_ i=>L.length - (intOf i).toNat)
 case atStart=>exact⟨0,Nat.zero_le _,rfl,rfl⟩
 obtain⟨j,hj,rfl,rfl⟩:=hrel
 by_cases hlt:j<L.length
 ·have hx:L[j]? = some L[j]:=List.getElem?_eq_getElem hlt
  obtain⟨x,hx'⟩:∃ x,L[j]=x:=⟨_,rfl⟩
  rw[hx'] at hx
  have qx:=HQ.out j x hx
  obtain⟨b1,b2⟩:=HB.out j x hx
  have hN:=HV.out
  have hxl:=x.toNat_lt
  obtain⟨u,hu⟩:∃ u,bv (L.take j)=u:=⟨_,rfl⟩
  rw[hu] at b1 ⊢
  have hw:IntKind.u64.wrap ((u:Int)*256)=(u:Int)*256:=by rw[IntKind.wrap_u64];omega
  have hor:bits .or .u64 ((u:Int)*256) (x.toNat:Int)=(u:Int)*256+x.toNat:=ES 8 _ _ (by omega) (by omega) (by omega) (by omega) (by omega) (by omega)
  have hw2:IntKind.u64.wrap (x.toNat:Int)=(x.toNat:Int):=by rw[IntKind.wrap_u64];omega
  have hjl:(j:Int)<(L.length:Int):=by omega
  have HB1:=hid b1
  clear hx hx' b1 b2 hu hN hxl
  go_wp2_with fail
  go_round
  case rel=>exact⟨j+1,by omega,by go_num,by rw[HB1];go_num⟩
  simp[intOf];omega
 obtain rfl:j=L.length:=by omega
 have ht:L.take L.length=L:=List.take_of_length_le (Nat.le_refl _)
 rw[ht,HV]
 have e6:decide ((N:Int)<=247)=false:=decide_eq_false (by omega)
 have e7:decide ((N:Int) >= 9223372036854775808)=false:=decide_eq_false (by omega)
 have e8:IntKind.i64.wrap (N:Int)=(N:Int):=IntWalk.i64_in _ (by omega)
 clear ht
 go_wp2_with fail
 go_ret3
 refine⟨?_,rfl⟩
 exact congrArg (λz:Int=>Ending.returned (.tuple #[.int .i64 (N:Int),.int .i64 z,.int .i64 0])) (by omega)
theorem yL {l a rest:List UInt8}{k:Nat}(h:l.drop k=a++rest):k+a.length<=max l.length k/\l.drop (k+a.length)=rest:=by
 refine⟨?_,?_⟩
 ·have:=congrArg List.length h
  simp at this
  omega
 rw[<-List.drop_drop,h,List.drop_left]
theorem xm (w:World)(r N:Nat)(rest:List UInt8)(h:cu w r (ed N++rest))(hN:N<2 ^ 63) :
  Calls prog 141 #[.pointer (some ⟨r,0,none⟩)] w λe w'=>e = .returned (.int .i64 N)/\cu w' r rest/\Fr [r] w w':=by
 by_cases h247:N<=247
 ·rw[nL (by omega)] at h
  have e:=cd (show (0:Int)<=(N:Int) by omega) (by omega)
  refine(fZ w r (nb N) rest h (by omega)).mono ?_
  rintro x w' ⟨rfl,h1,h2⟩
  exact⟨by rw[e],h1,h2⟩
 obtain⟨l,k,g,c,n,hp,hn,hn',hk,hd,hr⟩:=h
 have hb:=ux w r l rest k g c n N hp hn hn' hr (by omega) hN hd
 obtain⟨hk1,hd1⟩:=yL hd
 have hk2:k+(ed N).length<=n:=by omega
 have HB:=hid hb
 have c1:=hp.cell 1
 have c2:=hp.cell 2
 have f1:=hp.frozen 1
 have hgr:=hr.ne hp (by decide)
 generalize (ed N).length=m at *
 clear hb hd hk1
 go_enter func141,ntmps141
 go_wp2_with fail
 refine HB.mono ?_
 rintro e w' ⟨rfl,rfl⟩
 go_wp2_with fail
 go_ret
 have hp2:=hp.set 1 (.int .i64 ((k+m:Nat):Int))
 exact⟨rfl,⟨l,k+m,g,c,n,by simpa using hp2,hn,hn',hk2,hd1,hr.far hgr _⟩,rZ.setCell (by simp) _⟩
end Pk
