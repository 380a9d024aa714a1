/- Walks. -/
import Derived.Test.YtocppjcocnckmaaGreatDoorM09
import Derived.Test.YtocppjcocnckmaaGreatDoorM15
import Derived.Deep.QuietTactic
set_option maxRecDepth 100000
set_option maxHeartbeats 8000000
set_option linter.all false
open Go.Lib (hid)
namespace Go.Proofs.YtocppjcocnckmaaGreatDoor
open Go.Proofs.Tryz
namespace Co
open Go.RowKit
theorem Row.pre {w:World}{e:TypeId}{sz g n cap i:Nat}{xs:List Value}(h:Row w e sz g n cap xs)(hi:i<=n):Row w e sz g i cap (xs.take (i*sz)):=by
 obtain⟨cur,h1,h2,h3,h4,h5,h6⟩:=h
 refine⟨cur,h1,by omega,h3,h4,?_,?_⟩
 ·rw[<-h5,List.take_take,Nat.min_eq_left (Nat.mul_le_mul_right _ hi)]
 rw[List.length_take,h6,Nat.min_eq_left (Nat.mul_le_mul_right _ hi)]
theorem Fy (a b:ByteArray):(ByteArray.toList a==ByteArray.toList b)=(a==b):=by
 rw[fY,ByteArray.toList_eq,ByteArray.toList_eq]
 by_cases h:a=b
 ·simp[h]
 rw[decide_eq_false h,beq_eq_false_iff_ne]
 exact λe=>h (Bn e)
theorem Af (w:World)(b:Nat)(o x:M.Op)(hc:w.cell? ⟨b,1,none⟩=some (.string o.uid)) :
  Calls prog 244 #[.agg #[.bool x.del,.string x.uid,.string x.au,.int .i64 x.ck,.int .i64 x.cv],.pointer (some ⟨b,0,none⟩)] w λe w'=>e = .returned (.bool (x.uid==o.uid))/\Fr [] w w':=by
 have hB:=block_lt_of_cell hc
 go_enter func244,ntmps244
 go_wp2
 go_ret
 exact⟨dI (Fy _ _),rZ.alloc _⟩
theorem yE (k v:Int)(there:Bool)(ver:Int)(h:Et.aY k v=true):Et.du k v there ver=M.du k v there ver:=by
 simp[Et.du,M.du,h]
theorem Ca (c:M.Col)(room:Int)(ops:List M.Op)(i:Nat)(many grow:Int)(o:M.Op)(r:List M.Op)(tw b:Bool)(v:Int)(t:ByteArray)(htw:(ops.take i).any (λp=>p.uid==o.uid)=tw)(hb:(M.bR c.ah o.uid).isSome=b)(hv:vOf (M.bR c.ah o.uid)=v)(ht:tOf (M.bR c.ah o.uid)=t) :
  M.chk c room ops i many grow (o::r)=if tw then ((i:Int),0,11) else if !M.du o.ck o.cv b v then ((i:Int),0,6) else if o.del&&!b then ((i:Int),0,4)
   else if ((if o.del then (if b then many - 1 else many) else (if b then many - 1 else many)+1) > c.aD∨(if o.del then (if b then grow - (t.size:Int) else grow) else (if b then grow - (t.size:Int) else grow)+(o.au.size:Int)) > room) then ((i:Int),0,7)
   else M.chk c room ops (i+1) (if o.del then (if b then many - 1 else many) else (if b then many - 1 else many)+1) (if o.del then (if b then grow - (t.size:Int) else grow) else (if b then grow - (t.size:Int) else grow)+(o.au.size:Int)) r:=by
 subst htw hb hv ht
 rw[M.chk]
 unfold vOf tOf
 cases M.bR c.ah o.uid with
 | none=>simp
 | some e=>simp
theorem dM (w:World)(B B' g:Nat)(c:M.Col)(ops:List M.Op)(vo:Value)(room:Int)(h:bX w B g c)(ho:Own w B' 43 5 vo ops.length (flat Lp.cs ops))(hl:ops.length<=100)
  (hcd:∀ o∈ops,Et.aY o.ck o.cv=true) (hsz:∀ o∈ops,o.au.size<=100000) (htx:∀ x∈c.ah,x.text.size<=100000) (hcl:c.ah.length<=1000) :
  Calls prog 212 #[.pointer (some ⟨g,0,none⟩),vo,.int .i64 room] w λe w'=>e = .returned (.tuple #[.int .i64 (c.check ops room).1,.int .i64 (c.check ops room).2.1,.int .i64 (c.check ops room).2.2])/\Fr [] w w':=by
 obtain⟨a,cap,rfl⟩:=ho.form
 obtain⟨R,hR⟩:∃ R,R=c.check ops room:=⟨_,rfl⟩
 rw[<-hR]
 have HR:=hid hR
 clear hR
 have HC:=hid hcd
 have HZ:=hid hsz
 have HT:=hid htx
 have HA:=hid h
 have HO:=hid ho
 clear hcd hsz htx ho
 go_enter func212,ntmps212
 go_wp2_with fail
 refine(ig w B g c h).mono ?_
 rintro e w1 ⟨rfl,rfl⟩
 clear h
 go_wp2_with fail
 go_loopw [7,9,19] (λgr mn i wr=>∃ (k:Nat) (many grow:Int),k<=ops.length/\i = .int .i64 k/\mn = .int .i64 many/\gr = .int .i64 grow/\-(k:Int)<=many/\many<=1000+k/\-(100000*(k:Int))<=grow/\grow<=100000*(k:Int)/\Hid (R=M.chk c room ops k many grow (ops.drop k))/\Fr [] w wr) (λ_ _ i _=>ops.length - (intOf i).toNat)
 case atStart=>exact⟨0,_,_,Nat.zero_le _,rfl,rfl,rfl,by omega,by omega,by omega,by omega,hid (by rw[HR];rfl),rZ⟩
 obtain⟨k,many,grow,hk,rfl,rfl,rfl,hm1,hm2,hg1,hg2,hres,fr⟩:=hrel
 by_cases hlt:k<ops.length
 ·have hx:ops[k]? = some ops[k]:=List.getElem?_eq_getElem hlt
  obtain⟨o,hx'⟩:∃ o,ops[k]=o:=⟨_,rfl⟩
  rw[hx'] at hx
  have HD:=hid (show ops.drop k=o::ops.drop (k+1) by rw[<-hx'];exact List.drop_eq_getElem_cons hlt)
  have HM:=hid (List.mem_of_getElem? hx)
  clear hx'
  have hk1:(k:Int)<(ops.length:Int):=by omega
  obtain⟨q,c2,hq,hv,hr,hgl,hcell⟩:=(HO.fr0 fr).cell Lp.bh rfl hx
  cases hv
  have q0:wr.cell? ⟨q,k*5,none⟩=some (.bool o.del):=hcell 0 _ (by omega) rfl
  have q1:wr.cell? ⟨q,k*5+1,none⟩=some (.string o.uid):=hcell 1 _ (by omega) rfl
  have q2:wr.cell? ⟨q,k*5+2,none⟩=some (.string o.au):=hcell 2 _ (by omega) rfl
  have q3:wr.cell? ⟨q,k*5+3,none⟩=some (.int .i64 o.ck):=hcell 3 _ (by omega) rfl
  have q4:wr.cell? ⟨q,k*5+4,none⟩=some (.int .i64 o.cv):=hcell 4 _ (by omega) rfl
  have f1:Fr [] wr (wr.alloc (.cells #[.bool o.del,.string o.uid,.string o.au,.int .i64 o.ck,.int .i64 o.cv] 43)):=rZ.alloc _
  have b1:=Holds.new wr 43 #[.bool o.del,.string o.uid,.string o.au,.int .i64 o.ck,.int .i64 o.cv]
  have hrow:=Row.pre (hr.fr f1 (by simp)) (Nat.le_of_lt hlt)
  rw[<-iJ Lp.bh] at hrow
  have htl:(ops.take k).length=k:=by simp;omega
  have hown:Own (wr.alloc (.cells #[.bool o.del,.string o.uid,.string o.au,.int .i64 o.ck,.int .i64 o.cv] 43)) 0 43 5 (.slice (some ⟨q,0,none⟩) (ops.take k).length cap) (ops.take k).length (flat Lp.cs (ops.take k)):=.inr ⟨q,cap,Nat.zero_le _,rfl,by rw[htl];exact hrow⟩
  have hcon:=Lp.jd _ 0 _ (ops.take k) (λp=>p.uid==o.uid) wr.heap.size hown (by omega) (λw' hf x _=>Af w' wr.heap.size o x ((b1.fr hf (by simp)).cell 1))
  rw[htl] at hcon
  have HCON:=hid hcon
  have hkc:k<=cap:=Nat.le_trans (Nat.le_of_lt hlt) hr.le
  have hcapm:cap<=maxLen:=hr.lW
  clear hcell hr hown hrow hcon hx htl
  go_wp2_with fail
  refine uu HCON λw2 f2=>?_
  obtain⟨tw,htw⟩:∃ b,(ops.take k).any (λp=>p.uid==o.uid)=b:=⟨_,rfl⟩
  obtain⟨b,hb⟩:∃ b,(M.bR c.ah o.uid).isSome=b:=⟨_,rfl⟩
  obtain⟨v,hv⟩:∃ b,vOf (M.bR c.ah o.uid)=b:=⟨_,rfl⟩
  obtain⟨t,ht⟩:∃ b,tOf (M.bR c.ah o.uid)=b:=⟨_,rfl⟩
  have htz:(t.size:Int)<=100000:=by
   rw[<-ht]
   unfold tOf
   cases hge:M.bR c.ah o.uid with
   | none=>simp
   | some e =>
    have:=HT.out e (List.mem_of_find?_eq_some hge)
    simp
    omega
  have hcz:(o.au.size:Int)<=100000:=by
   have:=HZ.out o HM
   omega
  have HCH:=hid (hres.out.trans ((congrArg (M.chk c room ops k many grow) HD).trans (Ca c room ops k many grow o _ tw b v t htw hb hv ht)))
  have HG:=hid (jL w2 B g c o.uid (HA.fr0 (fr.trans (f1.trans f2))))
  rw[hb,hv,ht] at HG
  rw[htw]
  clear hres htw hb hv ht
  have b2:=b1.fr f2 (by simp)
  have d0:=b2.cell 0
  have d1:=b2.cell 1
  have d2:=b2.cell 2
  have d3:=b2.cell 3
  have d4:=b2.cell 4
  simp at d0 d1 d2 d3 d4
  cases tw with
  | true =>
   go_wp2_with fail
   go_ret3
   have:=HCH.out
   simp only[if_true] at this
   rw[this]
   exact⟨rfl,fr.trans (f1.trans f2)⟩
  | false =>
   go_wp2_with fail
   refine uu HG λw3 f3=>?_
   have b3:=b2.fr f3 (by simp)
   clear d0 d1 d2 d3 d4
   have d0:=b3.cell 0
   have d1:=b3.cell 1
   have d2:=b3.cell 2
   have d3:=b3.cell 3
   have d4:=b3.cell 4
   simp at d0 d1 d2 d3 d4
   go_wp2_with fail
   have hho:=Et.yD o.ck o.cv b v w3
   rw[yE _ _ _ _ (HC o HM)] at hho
   refine hho.mono ?_
   clear hho
   rintro e w4 ⟨rfl,f4⟩
   have b4:=b3.fr f4 (by simp)
   clear d0 d1 d2 d3 d4
   have d0:=b4.cell 0
   have d2:=b4.cell 2
   simp at d0 d2
   obtain⟨hh,hhe⟩:∃ x,M.du o.ck o.cv b v=x:=⟨_,rfl⟩
   rw[hhe]
   rw[hhe] at HCH
   clear hhe
   have f5:=fr.trans (f1.trans (f2.trans (f3.trans f4)))
   cases hh with
   | false =>
    go_wp2_with fail
    go_ret3
    have:=HCH.out
    simp only[Bool.false_eq_true,if_false,Bool.not_false,if_true] at this
    rw[this]
    exact⟨rfl,f5⟩
   | true =>
    obtain⟨mm,rr,_,_,hcol,_,_⟩:=HA.fr0 f5
    have y2:=hcol.cell 2
    simp at y2
    obtain⟨dl,hdl⟩:∃ x,o.del=x:=⟨_,rfl⟩
    have HCX:=hid HCH
    clear HCH
    rw[hdl] at HCX d0
    have HDL:=hid hdl
    clear hdl
    cases dl<;>cases b
    ·try simp only[Bool.false_eq_true,if_false,Bool.not_false,if_true,Bool.not_true,Bool.and_true,Bool.and_false,Bool.true_and,Bool.false_and] at HCX
     by_cases hx1:c.aD<many+1
     ·go_wp2_with fail
      go_ret3
      rw[HCX.out,if_pos (by omega)]
      exact⟨rfl,f5⟩
     by_cases hx2:room<grow+(o.au.size:Int)
     ·go_wp2_with fail
      go_ret3
      rw[HCX.out,if_pos (by omega)]
      exact⟨rfl,f5⟩
     go_wp2_with fail
     go_roundw
     case rel=>exact⟨k+1,many+1,grow+(o.au.size:Int),by omega,by go_num,by go_num,by go_num,by omega,by omega,by omega,by omega,hid (HCX.trans (if_neg (by omega))),f5⟩
     simp[intOf];omega
    ·simp only[Bool.false_eq_true,if_false,Bool.not_false,if_true,Bool.not_true,Bool.and_true,Bool.and_false,Bool.true_and,Bool.false_and] at HCX
     by_cases hx1:c.aD<many - 1+1
     ·go_wp2_with fail
      go_ret3
      rw[HCX.out,if_pos (by omega)]
      exact⟨rfl,f5⟩
     by_cases hx2:room<grow - (t.size:Int)+(o.au.size:Int)
     ·go_wp2_with fail
      go_ret3
      rw[HCX.out,if_pos (by omega)]
      exact⟨rfl,f5⟩
     go_wp2_with fail
     go_roundw
     case rel=>exact⟨k+1,many - 1+1,grow - (t.size:Int)+(o.au.size:Int),by omega,by go_num,by go_num,by go_num,by omega,by omega,by omega,by omega,hid (HCX.trans (if_neg (by omega))),f5⟩
     simp[intOf];omega
    ·simp only[Bool.false_eq_true,if_false,Bool.not_false,if_true,Bool.not_true,Bool.and_true,Bool.and_false,Bool.true_and,Bool.false_and] at HCX
     go_wp2_with fail
     go_ret3
     rw[HCX]
     exact⟨rfl,f5⟩
    simp only[Bool.false_eq_true,if_false,Bool.not_false,if_true,Bool.not_true,Bool.and_true,Bool.and_false,Bool.true_and,Bool.false_and] at HCX
    by_cases hx1:c.aD<many - 1
    ·go_wp2_with fail
     go_ret3
     rw[HCX.out,if_pos (by omega)]
     exact⟨rfl,f5⟩
    by_cases hx2:room<grow - (t.size:Int)
    ·go_wp2_with fail
     go_ret3
     rw[HCX.out,if_pos (by omega)]
     exact⟨rfl,f5⟩
    go_wp2_with fail
    go_roundw
    case rel=>exact⟨k+1,many - 1,grow - (t.size:Int),by omega,by go_num,by go_num,by go_num,by omega,by omega,by omega,by omega,hid (HCX.trans (if_neg (by omega))),f5⟩
    simp[intOf];omega
 obtain rfl:k=ops.length:=by omega
 have hz:R=(0,grow,0):=by
  have:=hres.out
  rw[List.drop_length] at this
  exact this
 clear hres
 go_wp2_with fail
 go_ret3
 rw[hz]
 exact⟨rfl,fr⟩
end Co
