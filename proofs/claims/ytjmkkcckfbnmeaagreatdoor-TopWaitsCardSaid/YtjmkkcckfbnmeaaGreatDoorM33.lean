/- Texts DecA, DecB. -/
import Derived.Test.YtjmkkcckfbnmeaaGreatDoorM12
import Derived.Test.YtjmkkcckfbnmeaaGreatDoorM19
import Derived.Test.YtjmkkcckfbnmeaaGreatDoorM51
set_option maxRecDepth 100000
set_option maxHeartbeats 8000000
set_option linter.all false
open Go.Lib (hid)
namespace Go.Proofs.YtjmkkcckfbnmeaaGreatDoor.Rq
open Go.RowKit Fm Pk
theorem RdAt.far {w:World}{r:Nat}{rest:List UInt8}(h:RdAt w r rest){p t:Nat}{cs:Array Value}(hp:Holds w p t cs)(h1:t≠283)(h2:t≠5)(i:Nat)(u:Value):RdAt (w.setCell ⟨p,i,none⟩ u) r rest:=by
 obtain⟨l,k,g,c,n,hb,a1,a2,a3,a4,hr⟩:=h
 exact⟨l,k,g,c,n,hb.far (hb.ne hp (Ne.symm h1)) _,a1,a2,a3,a4,hr.far (hr.ne hp (Ne.symm h2)) _⟩
structure QRd (w:World)(x r:Nat)(rest:List UInt8):Prop where
 box:Holds w x 230 #[.pointer (some ⟨r,0,none⟩),.bool false]
 rd:RdAt w r rest
theorem QRd.fr {w w':World}{x r:Nat}{rest:List UInt8}(h:QRd w x r rest)(hf:Fr [] w w'):QRd w' x r rest:=⟨h.box.fr hf (by simp),h.rd.fr hf⟩
theorem QRd.far {w:World}{x r:Nat}{rest:List UInt8}(h:QRd w x r rest){p t:Nat}{cs:Array Value}(hp:Holds w p t cs)(h1:t≠283)(h2:t≠5)(h3:t≠230)(i:Nat)(u:Value):QRd (w.setCell ⟨p,i,none⟩ u) x r rest :=
 ⟨h.box.far (h.box.ne hp (Ne.symm h3)) _,RdAt.far h.rd hp h1 h2 i u⟩
theorem RdAt.rlt {w:World}{r:Nat}{rest:List UInt8}(h:RdAt w r rest):tyOf w r=some 283:=by
 obtain⟨l,k,g,c,n,hb,_⟩:=h
 exact hb.ty
theorem QRd.ne {w:World}{x r:Nat}{rest:List UInt8}(h:QRd w x r rest):x≠r:=fun e=>by
 have h1:=RdAt.rlt h.rd
 rw[←e,h.box.ty] at h1
 exact absurd h1 (by decide)
theorem num_any (w:World)(x r:Nat)(c:UInt8)(rest:List UInt8)(h:QRd w x r (c::rest))(hc:c.toNat≤247) :
  Calls Tryz.prog 143 #[.pointer (some ⟨x,0,none⟩)] w fun e w'=>e = .returned (.int .i64 c.toNat)∧QRd w' x r rest∧Fr [r,x] w w':=by
 have hne:=h.ne
 have c0:=h.box.cell 0
 have HB:=hid h.box
 have HN:=hid (rnum_any w r c rest h.rd hc)
 have d1:decide ((c.toNat:Int) > 2147483647)=false:=decide_eq_false (by omega)
 clear h
 go_enter Tryz.func143,Tryz.ntmps143
 go_wp2_with (fail)
 refine HN.out.mono ?_
 rintro e w2 ⟨rfl,rd2,f2⟩
 have b2:=HB.out.fr f2 (by simpa using hne)
 have c0:=b2.cell 0
 have c1:=b2.cell 1
 have z1:=b2.frozen 1
 have HR:=hid rd2
 have HB2:=hid b2
 clear rd2 b2
 go_wp2_with (fail)
 go_ret
 exact⟨rfl,⟨by simpa using HB2.out.set 1 (.bool false),RdAt.far HR.out HB2.out (by decide) (by decide) _ _⟩,(f2.mono (by simp)).setCell (by simp) _⟩
theorem text_any (w:World)(x r:Nat)(s:ByteArray)(rest:List UInt8)(h:QRd w x r (txt s++rest))(hs:s.size≤247)(h0:0<s.size) :
  Calls Tryz.prog 139 #[.pointer (some ⟨x,0,none⟩)] w fun e w'=>e = .returned (.string s)∧QRd w' x r rest∧Fr [r] w w':=by
 have hne:=h.ne
 have c0:=h.box.cell 0
 have HB:=hid h.box
 have HN:=hid (rtext_any w r s rest h.rd hs h0)
 clear h
 go_enter Tryz.func139,Tryz.ntmps139
 go_wp2_with (fail)
 refine HN.out.mono ?_
 rintro e w2 ⟨rfl,rd2,f2⟩
 go_wp2_with (fail)
 go_ret
 exact⟨rfl,⟨HB.out.fr f2 (by simpa using hne),rd2⟩,f2⟩
theorem pnum_any (w:World)(x r:Nat)(c:UInt8)(rest:List UInt8)(h:QRd w x r (c::rest))(hc:c.toNat≤247) :
  Calls Tryz.prog 142 #[.pointer (some ⟨r,0,none⟩)] w fun e w'=>e = .returned (.int .i64 c.toNat)∧QRd w' x r rest∧Fr [r] w w' :=
 (rnum_any w r c rest h.rd hc).mono fun _ _ ⟨h1,h2,h3⟩=>⟨h1,⟨h.box.fr h3 (by simpa using h.ne),h2⟩,h3⟩
theorem ret_cond (W:World)(tmps:Array Value)(g:Nat)(a b:Value)(hp:Holds W g 38 #[a,b])(h2:tmps[2]?.getD undef = .pointer (some ⟨g,0,none⟩)) :
  (results Tryz.f140 tmps).run Tryz.prog W = .ok (.agg #[a,b]) W:=by
 have hr:Tryz.f140.results=#[.cell 2 38]:=rfl
 have q0:=hp.cell 0
 have q1:=hp.cell 1
 simp at q0 q1
 simp[results,h2,go_sem,q0,q1]
theorem cond_any (w:World)(x r:Nat)(k v:Int)(rest:List UInt8)(h:QRd w x r (nb k::nb v::rest))(hk0:0≤k)(hk1:k≤247)(hv0:0≤v)(hv1:v≤247) :
  Calls Tryz.prog 140 #[.pointer (some ⟨x,0,none⟩)] w fun e w'=>e = .returned (.agg #[.int .i64 k,.int .i64 v])∧QRd w' x r rest∧Fr [r,x] w w':=by
 have f0:Fr [] w (w.alloc (.cells #[.int .i64 0,.int .i64 0] 38)):=(Fr.refl _ _).alloc _
 have b0:=Holds.new w 38 #[.int .i64 0,.int .i64 0]
 have e1:=nb_toNat hk0 (by omega:k≤255)
 have e2:=nb_toNat hv0 (by omega:v≤255)
 have hx:=h.box.lt
 have HN:=hid (num_any _ x r (nb k) (nb v::rest) (h.fr f0) (by omega))
 have hrl:r<w.heap.size:=by
  obtain⟨l,k,g,c,n,hb,_⟩:=h.rd
  exact hb.lt
 rw[e1] at HN
 clear h
 go_enter Tryz.func140,Tryz.ntmps140
 go_wp2_with (fail)
 refine HN.out.mono ?_
 rintro e w2 ⟨rfl,q2,f2⟩
 have c0:=q2.box.cell 0
 have HP:=hid (pnum_any w2 x r (nb v) rest q2 (by omega))
 rw[e2] at HP
 have b2:=b0.fr f2 (by simp;omega)
 clear q2
 go_wp2_with (fail)
 refine HP.out.mono ?_
 rintro e w3 ⟨rfl,q3,f3⟩
 have b3:=b2.fr f3 (by simp;omega)
 have d0:=b3.cell 0
 have d1:=b3.cell 1
 have z0:=b3.frozen 0
 have z1:=b3.frozen 1
 simp at d0 d1
 have Q3:=hid q3
 have F3:=hid (((f0.mono (T:=[r,x]) (by simp)).trans f2).trans (f3.mono (by simp)))
 have B3:=hid b3
 clear q3 b3 b2
 go_wp2_with (fail)
 have hb:=((B3.out.set 0 (.int .i64 k)).set 1 (.int .i64 v))
 simp at hb
 refine bodyPost_ret (ret_cond _ _ w.heap.size _ _ hb rfl) rfl ⟨rfl,?_,Ev.Fr.setNew (Ev.Fr.setNew F3.out (Nat.le_refl _) _) (Nat.le_refl _) _⟩
 exact(Q3.out.far B3.out (by decide) (by decide) (by decide) _ _).far (B3.out.set 0 _) (by decide) (by decide) (by decide) _ _
end Go.Proofs.YtjmkkcckfbnmeaaGreatDoor.Rq
namespace Go.Proofs.YtjmkkcckfbnmeaaGreatDoor.Rq
open Go.RowKit Fm Pk
theorem low_size {s:ByteArray}(h:M.lowS s=true):1≤s.size∧s.size≤16:=by
 simp only[M.lowS,Bool.and_eq_true,decide_eq_true_eq] at h
 exact h.1
theorem card3_size {s:ByteArray}(h:M.card3 s=true):1≤s.size∧s.size≤16:=by
 simp only[M.card3,Bool.or_eq_true,decide_eq_true_eq] at h
 rcases h with(h|h)|h<;>(rw[h];decide +kernel)
theorem cond_range {k v:Int}(h:M.condOk k v=true)(hv:v≤247):0≤k∧k≤247∧0≤v:=by
 unfold M.condOk at h
 split at h
 ·have:v=0:=by simpa using h
  omega
 ·split at h
  ·have:=of_decide_eq_true h
   omega
  ·cases h
theorem QRd.app {w:World}{x r:Nat}{a b:List UInt8}(h:QRd w x r a)(e:a=b):QRd w x r b:=e ▸ h
theorem own_rx {w w':World}{B x r n:Nat}{rest:List UInt8}{v:Value}{xs:List Value}(hq:QRd w x r rest)(h:Own w B 49 5 v n xs)(hf:Fr [r,x] w w'):Own w' B 49 5 v n xs :=
 h.fr hf fun g hg hm=>by
  have h1:=(h.ty hg).1
  simp only[List.mem_cons,List.not_mem_nil,or_false] at hm
  rcases hm with rfl|rfl
  ·rw[RdAt.rlt hq.rd] at h1
   exact absurd (Option.some.inj h1) (by decide)
  ·rw[hq.box.ty] at h1
   exact absurd (Option.some.inj h1) (by decide)
theorem Own.down {w:World}{B B':Nat}{e sz n:Nat}{v:Value}{xs:List Value}(h:Own w B e sz v n xs)(hB:B'≤B):Own w B' e sz v n xs:=by
 rcases h with h|⟨g,c,hg,h1,h2⟩
 ·exact .inl h
 ·exact .inr ⟨g,c,Nat.le_trans hB hg,h1,h2⟩
theorem QRd.frT {w w':World}{x r:Nat}{rest:List UInt8}{S:List Nat}(h:QRd w x r rest)(hf:Fr S w w')(hS:∀ y,y∈S→tyOf w y=some 49):QRd w' x r rest:=by
 obtain⟨hb,l,k,g,c,n,h1,a1,a2,a3,a4,hr⟩:=h
 have hn:∀ {g t:Nat},tyOf w g=some t→t≠49→g∉S:=fun hg ht hm=>by
  rw[hS _ hm] at hg
  exact ht (Option.some.inj hg).symm
 exact⟨hb.fr hf (hn hb.ty (by decide)),l,k,g,c,n,h1.fr hf (hn h1.ty (by decide)),a1,a2,a3,a4,hr.fr hf (hn hr.ty (by decide))⟩
theorem ops_round {w wr W w10:World}{x r k n:Nat}{rest rest':List UInt8}{v v5:Value}{own5:Option Nat}{l:List M.Op}{o:M.Op}{cs:Array Value}{t:Nat}(_hq:QRd wr x r rest')(ho:Own W w.heap.size 49 5 v n (flat Lp.cs l))(hQ:QRd W x r rest)(hf:Fr [r,x] w W)
  (hs:Sl w10 49 5 v5 (n+1) (flat Lp.cs l++(Lp.cs o).toArray.toList) own5) (h5:Fr (ownOf v).toList (W.alloc (.cells cs t)) w10) (ho5:own5=ownOf v∨∃ g,own5=some g∧(W.alloc (.cells cs t)).heap.size≤g) (hm:∃ g,own5=some g) (_hk:l.length=k) :
  Own w10 w.heap.size 49 5 v5 (n+1) (flat Lp.cs (l++[o]))∧QRd w10 x r rest∧Fr [r,x] w w10:=by
 have hb:∀ y,y∈(ownOf v).toList→tyOf W y=some 49∧w.heap.size≤y:=fun y hy=>ho.ty (by simpa using hy)
 have hlt:∀ y,y∈(ownOf v).toList→y<W.heap.size:=fun y hy=>by
  rcases ho with⟨rfl,_⟩|⟨g,c,_,rfl,hr⟩
  ·cases hy
  ·simp[ownOf] at hy
   subst hy
   exact hr.lt
 have ha:Fr [] W (W.alloc (.cells cs t)):=(Fr.refl _ _).alloc _
 have ho':=Own.fr0 ho ha
 obtain⟨oo,-⟩:=own_after (B:=w.heap.size) (Nat.le_trans hf.size ha.size) (fun g hg=>(ho'.ty hg).2) hs ho5 hm
 refine⟨?_,(hQ.fr ha).frT h5 (fun y hy=>by rw[tyOf_congr (ha.block y (hlt y hy) (by simp))];exact(hb y hy).1),(hf.alloc _).step h5 (fun y hy=>.inr (hb y hy).2)⟩
 rw[flat_append,flat_one]
 simpa using oo
theorem ops_any (w:World)(B x r:Nat)(l:List M.Op)(h:QRd w x r (nb l.length::l.flatMap En.opB))(hB:B≤w.heap.size)(hxr:B≤x∧B≤r)(hop:∀ o,o∈l→OpOk o)(hl:l.length≤8) :
  Calls Tryz.prog 141 #[.pointer (some ⟨x,0,none⟩)] w fun e w'=>∃ v,e = .returned v∧Ev.OpsAt w' B v l∧QRd w' x r []∧Fr [r,x] w w':=by
 obtain⟨i5,hi,hz0,hz1,hz2⟩:=info_parts Lp.infoE
 have e1:=nb_toNat (n:=(l.length:Int)) (by omega) (by omega)
 have HN:=hid (num_any w x r _ _ h (by omega))
 rw[e1] at HN
 have HP:=hid hop
 have hxl:=h.box.lt
 have hrl:r<w.heap.size:=by
  obtain⟨l,k,g,c,n,hb,_⟩:=h.rd
  exact hb.lt
 clear h hop
 go_enter Tryz.func141,Tryz.ntmps141
 go_wp2_with (fail)
 refine HN.out.mono ?_
 rintro e w2 ⟨rfl,q2,f2⟩
 have c1:=q2.box.cell 1
 have z1:=q2.box.frozen 1
 have d1:decide ((l.length:Int) > 16)=false:=decide_eq_false (by omega)
 have q3:=(show QRd (w2.setCell ⟨x,1,none⟩ (.bool false)) x r (l.flatMap En.opB) from ⟨by simpa using q2.box.set 1 (.bool false),RdAt.far q2.rd q2.box (by decide) (by decide) _ _⟩)
 have f3:Fr [r,x] w (w2.setCell ⟨x,1,none⟩ (.bool false)):=f2.setCell (by simp) _
 have Q3:=hid q3
 clear q2 q3
 go_wp2_with (fail)
 go_loopw [3,5] (fun o i wr=>∃ k:Nat,i = .int .i64 k∧k≤l.length∧Ev.OpsAt wr w.heap.size o (l.take k)∧QRd wr x r ((l.drop k).flatMap En.opB)∧Fr [r,x] w wr) (fun _ i _=>l.length - (intOf i).toNat)
 case atStart=>exact⟨0,rfl,Nat.zero_le _,Own.nil _ _ _ _,Q3.out,f3⟩
 case round =>
  obtain⟨k,rfl,hk,ho,hq,fr⟩:=hrel
  clear c1 z1 f3 Q3
  have c0:=hq.box.cell 0
  have c1:=hq.box.cell 1
  have z1:=hq.box.frozen 1
  have HO:=hid ho
  have HE:=hid (err_any wr r _ hq.rd)
  have hws:=fr.size
  by_cases hlt:k<l.length
  ·have hk1:(k:Int)<(l.length:Int):=by omega
   have hk2:decide ((k:Int)<(l.length:Int))=true:=decide_eq_true hk1
   have hx:l[k]? = some l[k]:=List.getElem?_eq_getElem hlt
   obtain⟨o,hx'⟩:∃ o,l[k]=o:=⟨_,rfl⟩
   rw[hx'] at hx
   have HD:=hid (show l.drop k=o::l.drop (k+1) by rw[←hx'];exact List.drop_eq_getElem_cons hlt)
   have HT:=hid (show l.take (k+1)=l.take k++[o] by rw[List.take_succ,hx];rfl)
   have okx:=HP.out o (List.mem_of_getElem? hx)
   obtain⟨hu1,hu2⟩:=low_size okx.uid
   obtain⟨hc0,hc1,hc2⟩:=cond_range okx.cond okx.cv
   have hcv:=okx.cv
   have hbit:0≤En.bit o.del∧En.bit o.del≤1:=by cases o.del<;>simp[En.bit]
   have hcd:=okx.card
   have emk:=nb_toNat hbit.1 (by omega:En.bit o.del≤255)
   have hq1:QRd wr x r (nb (En.bit o.del)::(txt o.uid++((if o.del then [] else txt o.card)++nb o.ck::nb o.cv::(l.drop (k+1)).flatMap En.opB))):=hq.app (by rw[HD.out];simp[En.opB,En.condB])
   have HM:=hid (num_any wr x r _ _ hq1 (by omega))
   rw[emk] at HM
   have d2:decide (En.bit o.del > 1)=false:=decide_eq_false (by omega)
   have hne:x≠r:=hq.ne
   have HQ:=hid hq
   clear hx hx' okx hq1 hq ho
   go_wp2_with (fail)
   refine HE.out.mono ?_
   rintro e w' ⟨rfl,rfl⟩
   go_wp2_with (fail)
   refine HM.out.mono ?_
   rintro e w3 ⟨rfl,q3,f3⟩
   have a1:=q3.box.cell 1
   have y1:=q3.box.frozen 1
   have q4:=hid (show QRd (w3.setCell ⟨x,1,none⟩ (.bool false)) x r (txt o.uid++((if o.del then [] else txt o.card)++nb o.ck::nb o.cv::(l.drop (k+1)).flatMap En.opB)) from ⟨by simpa using q3.box.set 1 (.bool false),RdAt.far q3.rd q3.box (by decide) (by decide) _ _⟩)
   have f4:Fr [r,x] wr (w3.setCell ⟨x,1,none⟩ (.bool false)):=f3.setCell (by simp) _
   clear c0 c1 z1 q3
   go_wp2_with (fail)
   refine(text_any _ x r o.uid _ q4.out (by omega) (by omega)).mono ?_
   rintro e w5 ⟨rfl,q5,f5⟩
   have F5:=hid (f4.trans (f5.mono (T:=[r,x]) (by simp)))
   have Q5:=hid q5
   clear q4 q5 a1 y1 f4
   have hlx:x<w5.heap.size:=Nat.lt_of_lt_of_le hxl (Nat.le_trans hws F5.out.size)
   have hlr:r<w5.heap.size:=Nat.lt_of_lt_of_le hrl (Nat.le_trans hws F5.out.size)
   cases hd:o.del
   case' true =>
    have hbt:En.bit true=1:=rfl
    rw[hd] at hcd
    simp only[if_true] at hcd
    have HCD:=hid hcd
    clear hcd
    rw[hbt]
    go_wp2_with (fail)
    have b7:=hid (Holds.new w5 49 #[.bool true,.string o.uid,.string em,.int .i64 0,.int .i64 0])
    have Q7:=hid ((Q5.out.app (by rw[hd];rfl):QRd w5 x r (nb o.ck::nb o.cv::(l.drop (k+1)).flatMap En.opB)).fr ((Fr.refl _ _).alloc (.cells #[.bool true,.string o.uid,.string em,.int .i64 0,.int .i64 0] 49)))
    have F7:=hid (F5.out.trans ((Fr.refl [r,x] w5).alloc (.cells #[.bool true,.string o.uid,.string em,.int .i64 0,.int .i64 0] 49)))
    have HOP:=hid (show (#[.bool true,.string o.uid,.string em,.int .i64 o.ck,.int .i64 o.cv]:Array Value)=(Lp.cs o).toArray by rw[Lp.cs,hd,HCD.out])
   case' false =>
    have hbt:En.bit false=0:=rfl
    rw[hd] at hcd
    simp only[Bool.false_eq_true,if_false] at hcd
    obtain⟨hk1',hk2'⟩:=card3_size hcd
    clear hcd
    rw[hbt]
    have Q6:=hid ((Q5.out.app (by rw[hd];simp):QRd w5 x r (txt o.card++(nb o.ck::nb o.cv::(l.drop (k+1)).flatMap En.opB))).fr ((Fr.refl _ _).alloc (.cells #[.bool false,.string o.uid,.string em,.int .i64 0,.int .i64 0] 49)))
    go_wp2_with (fail)
    refine(text_any _ x r o.card _ Q6.out (by omega) (by omega)).mono ?_
    rintro e w6 ⟨rfl,q6,f6⟩
    have b6:=(Holds.new w5 49 #[.bool false,.string o.uid,.string em,.int .i64 0,.int .i64 0]).fr f6 (by simp;omega)
    have F6:=hid ((F5.out.trans ((Fr.refl [r,x] w5).alloc (.cells #[.bool false,.string o.uid,.string em,.int .i64 0,.int .i64 0] 49))).trans (f6.mono (T:=[r,x]) (by simp)))
    have c2:=b6.cell 2
    have z2:=b6.frozen 2
    have B6:=hid b6
    have QQ:=hid q6
    simp at c2
    clear b6 q6 Q6
    go_wp2_with (fail)
    have b7:=hid (show Holds (w6.setCell ⟨w5.heap.size,2,none⟩ (.string o.card)) w5.heap.size 49 #[.bool false,.string o.uid,.string o.card,.int .i64 0,.int .i64 0] by simpa using B6.out.set 2 (.string o.card))
    have Q7:=hid (QQ.out.far B6.out (by decide) (by decide) (by decide) 2 (.string o.card))
    have F7:=hid (Ev.Fr.setNew (p:=⟨w5.heap.size,2,none⟩) F6.out F5.out.size (.string o.card))
    have HOP:=hid (show (#[.bool false,.string o.uid,.string o.card,.int .i64 o.ck,.int .i64 o.cv]:Array Value)=(Lp.cs o).toArray by rw[Lp.cs,hd])
    clear c2 z2
   all_goals
    refine(cond_any _ x r o.ck o.cv _ Q7.out hc0 hc1 hc2 hcv).mono ?_
    rintro e w8 ⟨rfl,q8,f8⟩
    have b8:=b7.out.fr f8 (by simp;omega)
    have F8:=hid (F7.out.trans f8)
    have a3:=b8.cell 3
    have a0:=b8.cell 0
    have a1:=b8.cell 1
    have a2:=b8.cell 2
    have a4:=b8.cell 4
    have y3:=b8.frozen 3
    have y4:=b8.frozen 4
    simp at a0 a1 a2 a3 a4
    have bl8:=b8.lt
    have b9:=(b8.set 3 (.int .i64 o.ck)).set 4 (.int .i64 o.cv)
    simp at b9
    rw[HOP.out] at b9
    have F9:=hid (Ev.Fr.setNew (p:=⟨w5.heap.size,4,none⟩) (Ev.Fr.setNew (p:=⟨w5.heap.size,3,none⟩) F8.out F5.out.size (.int .i64 o.ck)) F5.out.size (.int .i64 o.cv))
    have Q9:=hid ((q8.far b8 (by decide) (by decide) (by decide) 3 (.int .i64 o.ck)).far (b8.set 3 _) (by decide) (by decide) (by decide) 4 (.int .i64 o.cv))
    have O9:=own_rx HQ.out HO.out F9.out
    have B9:=hid b9
    clear b8 b9 q8
    have hln:(l.take k).length=k:=by simp;omega
    go_wp2_with (at_builtin;(refine wpList_append_sl rfl (.tmp 68) (.tmp 70) 39 rfl i5 _ 56 Tryz.underlying39 hi hz0 hz1 hz2 rfl (by decide) _ _ rfl (Own.fr0 O9 ((Fr.refl _ _).alloc _)).sl _ 1 1 _ rfl (by rfl) (Cells.of_holds (at_new (by simp))) (by intro u hu;rw[HOP.out] at hu;exact Lp.cs_one u (by simpa using hu)) (by unfold maxLen;omega) (by omega) ?_;intro v5 w10 own5 hs5 hf5 ho5 hm5))
    rw[HOP.out] at hf5 hs5 ho5
    obtain⟨oo,Q10,F10⟩:=ops_round HQ.out O9 Q9.out (fr.trans F9.out) hs5 hf5 ho5 (hm5 (by omega)) hln
    rw[←HT.out] at oo
    have HOO:=hid oo
    have HQ10:=hid Q10
    clear hs5 hf5 ho5 hm5 oo Q10 O9
    go_wp2_with (fail)
    go_roundw
    case rel =>
     have e:(l.take (k+1)).length=(l.take k).length+1:=by simp only[List.length_take];omega
     exact⟨k+1,by go_num,by omega,by unfold Ev.OpsAt;rw[e];exact HOO.out,HQ10.out,F10⟩
    case measure=>simp[intOf];omega
  ·obtain rfl:k=l.length:=by omega
   have hk2:decide ((l.length:Int)<(l.length:Int))=false:=decide_eq_false (by omega)
   have HQ:=hid hq
   clear hq ho
   go_wp2_with (fail)
   go_ret
   exact⟨_,rfl,Own.down (by simpa using HO.out) hB,by simpa using HQ.out,fr⟩
end Go.Proofs.YtjmkkcckfbnmeaaGreatDoor.Rq
