/- Walks. -/
import Derived.Test.YtjmkkcckfbnmeaaGreatDoorM48
import Derived.Deep.CutRange
import Derived.Deep.CutBlock
import Derived.BigQuiet
import Derived.StillTailTactics
import Derived.Deep.QuietTactic
set_option maxRecDepth 100000
set_option maxHeartbeats 8000000
set_option linter.all false
open Go.Lib (hid)
namespace Go.Proofs.YtjmkkcckfbnmeaaGreatDoor.Tp
open Go.RowKit Cr Sv Pr Hi
theorem waits_in (w:World)(a:Option Addr)(l c waits asks write:Nat)(ticks:Int)(xs:List Int)(hx:∀ (j:Nat) x,xs[j]? = some x→∃ b o,a=some ⟨b,o,none⟩∧b<w.heap.size∧w.cell? ⟨b,o+j,none⟩=some (.int .i64 x))(hxl:xs.length=l)(h:inR l waits asks ticks write) :
  Calls Tryz.prog 3 #[.slice a l c,.int .i64 waits,.int .i64 asks,.int .i64 ticks,.int .i64 write] w fun e w'=>e = .returned (.bool true)∧Fr [] w w':=by
 obtain⟨r1,r2,r3,r4,r5,r6,r7,r8,r9⟩:=h
 obtain⟨Z,hZ⟩:∃ Z,w.heap.size=Z:=⟨_,rfl⟩
 have HZ:=hid hZ
 have HX:=hid (And.intro hx hxl)
 clear hx hxl hZ
 go_enter Tryz.func3,Tryz.ntmps3
 go_wp2_with fail
 refine(first_any _).mono ?_
 rintro e w1 ⟨rfl,f1⟩
 have F1:=hid f1
 clear f1
 go_wp2_with fail
 refine(conf_any _).mono ?_
 rintro e w2 ⟨rfl,f2⟩
 have F2:=hid (F1.out.trans f2)
 clear f2
 go_wp2_with fail
 refine(tw_new w Z HZ.out _ F2.out).mono ?_
 rintro e w3 ⟨g,xp,rfl,t3⟩
 have T3:=hid t3
 clear t3
 go_upto_region 9 with fail
 obtain⟨n,hn⟩:∃ n:Nat,n=1+waits+asks:=⟨_,rfl⟩
 have e13:(1:Int)+waits+asks=(n:Int):=by omega
 have hn1:2≤n:=by omega
 have hn2:n≤10:=by omega
 rw[e13]
 have HN:=hid hn
 clear e13 hn
 go_wp2_with fail
 have O3:Tw w w3 Z g xp [] (opened 0):=T3.out
 have HO:=hid O3
 clear O3
 go_loopw [14] (fun i wr=>∃ j:Nat,i = .int .i64 j∧j≤n∧Tw w wr Z g xp [] (opened j)) (fun i _=>n - (intOf i).toNat)
 case atStart=>exact⟨0,rfl,Nat.zero_le _,HO.out⟩
 case round =>
  obtain⟨j,rfl,hj,T4⟩:=hrel
  have HT:=hid T4
  clear T4
  by_cases hjn:j<n
  ·have hj1:(j:Int)<(n:Int):=by omega
   have HOP:=hid (tw_open HT.out HZ.out (by simp[opened];omega) (fun m hm=>by
    simp[opened] at hm
    rw[hm.2]
    decide))
   have e:(opened j).conns.length=j:=by simp[opened]
   rw[e] at HOP
   clear e
   go_wp2_with fail
   refine HOP.out.mono ?_
   rintro e w4 ⟨rfl,t4⟩
   have T4:=hid t4
   clear t4
   go_wp2_with fail
   refine(frame_hello _).mono ?_
   rintro e w5 ⟨rfl,f5⟩
   have T5:=hid (T4.out.fr0 f5)
   have hs:=tw_send T5.out HZ.out j {} [M.hello] (by simp[opened]) (by decide) (by decide +kernel) (by decide)
   rw[opened_send] at hs
   rw[show [M.hello].flatMap En.reqF=En.reqF M.hello by simp] at hs
   have HS:=hid hs
   obtain⟨sh,hsh⟩:∃ sh,En.bytesOf (En.reqF M.hello)=sh:=⟨_,rfl⟩
   rw[hsh] at HS ⊢
   clear f5 hs hsh
   go_wp2_with fail
   refine HS.out.mono ?_
   rintro e w6 ⟨rfl,t6⟩
   have T6:=hid t6
   clear t6
   go_wp2_with fail
   go_roundw
   case rel=>exact⟨j+1,by go_num,by omega,T6.out⟩
   case measure=>simp[intOf];omega
  ·obtain rfl:n=j:=by omega
   go_wp2_with fail
   refine(frame_create _).mono ?_
   rintro e w7 ⟨rfl,f7⟩
   have T7:=hid (HT.out.fr0 f7)
   clear f7
   go_wp2_with fail
   refine(frame_put _).mono ?_
   rintro e w8 ⟨rfl,f8⟩
   have T8:=hid (T7.out.fr0 f8)
   clear f8
   have hs:=tw_send T8.out HZ.out 0 { todo:=[M.hello] } [M.rCreate,M.rPut] (opened_at n (by omega)) (by decide) (by decide +kernel) (by decide)
   have hsz:(En.bytesOf (En.reqF M.rCreate)).size+(En.bytesOf (En.reqF M.rPut)).size≤9223372036854775807:=by
    rw[En.bytesOf_size,En.bytesOf_size]
    have h1:=Se.reqF_len (q:=M.rCreate) (by decide +kernel)
    have h2:=Se.reqF_len (q:=M.rPut) (by decide +kernel)
    omega
   rw[show En.bytesOf ([M.rCreate,M.rPut].flatMap En.reqF)=En.bytesOf (En.reqF M.rCreate)++En.bytesOf (En.reqF M.rPut) by rw[En.bytesOf_append];simp] at hs
   have HS:=hid hs
   obtain⟨sc,hsc⟩:∃ sh,En.bytesOf (En.reqF M.rCreate)=sh:=⟨_,rfl⟩
   obtain⟨sp,hsp⟩:∃ sh,En.bytesOf (En.reqF M.rPut)=sh:=⟨_,rfl⟩
   rw[hsc,hsp] at HS hsz
   rw[hsc,hsp]
   clear hs hsc hsp
   go_wp2_with fail
   refine HS.out.mono ?_
   rintro e w9 ⟨rfl,t9⟩
   have HST:=M.may_start n hn1 hn2
   have hr:=tw_rounds t9 HZ.out n 12 (opened_sent n (by omega) _).1 hn2 (by decide) HST.1 (by rw[(opened_sent n (by omega) _).2];omega)
   have HR:=hid (show Calls Tryz.prog 10 #[.pointer (some ⟨g,0,none⟩),.int .i64 n,.int .i64 12] w9 fun e w'=>e = .returned (.tuple #[])∧Tw w w' Z g xp [] (M.start n)∧(M.start n).conns.length=n∧(M.start n).events.length≤_ from hr)
   clear hr HST t9 hsz HS
   go_wp2_with fail
   refine HR.out.mono ?_
   rintro e w10 ⟨rfl,t10,hl10,_⟩
   have T10:=hid t10
   obtain⟨k1,k2,k3,k4⟩:=start_facts n hn1 hn2
   obtain⟨c0,hc0⟩:∃ c0,(M.start n).conns[0]? = some c0:=⟨_,List.getElem?_eq_getElem (by omega)⟩
   have hs1:=(k4 c0 (List.mem_of_getElem? hc0)).1
   have hst:=state_any w10 Z g xp 0 k0 (M.start n) c0 t10.srv hc0
   rw[hs1] at hst
   have HST:=hid hst
   have hcan:=tw_can t10 0 (by omega) k1
   rw[k2] at hcan
   have HCN:=hid hcan
   have HSL:=hid (And.intro hl10 k3)
   clear t10 hl10 k1 k2 k3 k4 hc0 hs1 hst hcan
   go_wp2_with fail
   refine HST.out.mono ?_
   rintro e w11 ⟨rfl,rfl⟩
   go_wp2_with fail
   refine HCN.out.mono ?_
   rintro e w11 ⟨rfl,t11⟩
   have HE:=hid (tw_events t11 (by have:=HSL.out.2;omega))
   clear t11
   go_wp2_with fail
   refine HE.out.mono ?_
   rintro e w12 ⟨ea,ec,L,rfl,hL,_,_,t12⟩
   have hll:L.length=(M.start n).events.length:=by rw[←hL];simp
   obtain⟨had,hhad⟩:∃ had,L.length=had:=⟨_,rfl⟩
   rw[hhad] at hll ⊢
   have HHD:=hid hll
   have hhd:had≤100:=by rw[hll];exact HSL.out.2
   have T12:=hid (show Tw w w12 Z g xp [] (askedTo n waits ticks 0) from t12)
   clear hL hll hhad t12
   go_wp2_with fail
   go_loopw [18] (fun i wr=>∃ j:Nat,i = .int .i64 ((j:Int)+1)∧j+1≤n∧Tw w wr Z g xp [] (askedTo n waits ticks j)) (fun i _=>n - (intOf i).toNat)
   case atStart=>exact⟨0,rfl,by omega,T12.out⟩
   case round =>
    obtain⟨j,rfl,hj,T13⟩:=hrel
    have HT13:=hid T13
    clear T13
    by_cases hjn2:j+1<n
    ·have hj1:(j:Int)+1<(n:Int):=by omega
     obtain⟨m,hm,hm4,hmt⟩:=askedTo_at (waits:=waits) (ticks:=ticks) hn1 hn2 hjn2
     have hok:=M.ask_ok waits (j+1) r6 (by omega:ticks≤200)
     have hsnd:=fun W (t:Tw w W Z g xp [] (askedTo n waits ticks j))=>tw_send t HZ.out (j+1) m [M.ask waits ticks (j+1)] hm hm4 (by
      intro x hx
      rw[hmt] at hx
      simp at hx
      rw[hx]
      exact hok.1) (by rw[hmt];simp)
     rw[←askedTo_succ] at hsnd
     simp only[List.flatMap_cons,List.flatMap_nil,List.append_nil,Int.natCast_add,Int.natCast_one] at hsnd
     have HSN:=hid hsnd
     have HOK:=hid hok
     clear hsnd hok hm hm4 hmt
     by_cases hjw:j+1≤waits
     ·have hjw1:¬ ((waits:Int)<(j:Int)+1):=by omega
      go_wp2_with fail
      refine(frame_q _ (M.ask waits ticks (j+1)) HOK.out.1 (by rw[ask_le hjw]) _ (by rw[ask_le hjw];rfl)).mono ?_
      rintro e w14 ⟨rfl,f14⟩
      have T14:=hid (HT13.out.fr0 (Fr.trans (by repeat (first|exact Fr.refl _ _|apply Fr.alloc|apply Fr.drewN|apply Fr.drew)) f14))
      have HS2:=HSN
      obtain⟨sq,hsq⟩:∃ sq,En.bytesOf (En.reqF (M.ask waits ticks (j+1)))=sq:=⟨_,rfl⟩
      rw[hsq] at HS2 ⊢
      clear f14 hsq
      go_wp2_with fail
      refine(HS2.out _ T14.out).mono ?_
      rintro e w15 ⟨rfl,t15⟩
      have T15:=hid t15
      clear t15
      go_wp2_with fail
      go_roundw
      case rel=>exact⟨j+1,by go_num,by omega,T15.out⟩
      case measure=>simp[intOf];omega
     ·have hjw1:(waits:Int)<(j:Int)+1:=by omega
      have hd:j+1=waits+1∨j+1=waits+2∨j+1=waits+3∨j+1=waits+4:=by
       have:=HN.out
       omega
      rcases hd with hd|hd|hd|hd
      ·have HD:=hid hd
       have hd1:(j:Int)+1 - (waits:Int)=1:=by omega
       have hd2:bits BinOp.and IntKind.i64 1 3=1:=by decide
       clear hd
       go_wp2_with fail
       refine(frame_q _ (M.ask waits ticks (j+1)) HOK.out.1 (by rw[ask_1 HD.out]) _ (by rw[ask_1 HD.out];rfl)).mono ?_
       rintro e w14 ⟨rfl,f14⟩
       have T14:=hid (HT13.out.fr0 (Fr.trans (by repeat (first|exact Fr.refl _ _|apply Fr.alloc|apply Fr.drewN|apply Fr.drew)) f14))
       have HS2:=HSN
       obtain⟨sq,hsq⟩:∃ sq,En.bytesOf (En.reqF (M.ask waits ticks (j+1)))=sq:=⟨_,rfl⟩
       rw[hsq] at HS2 ⊢
       clear f14 hsq
       go_wp2_with fail
       refine(HS2.out _ T14.out).mono ?_
       rintro e w15 ⟨rfl,t15⟩
       have T15:=hid t15
       clear t15
       go_wp2_with fail
       go_roundw
       case rel=>exact⟨j+1,by go_num,by omega,T15.out⟩
       case measure=>simp[intOf];omega
      ·have HD:=hid hd
       have hd1:(j:Int)+1 - (waits:Int)=2:=by omega
       have hd2:bits BinOp.and IntKind.i64 2 3=2:=by decide
       clear hd
       go_wp2_with fail
       refine(frame_q _ (M.ask waits ticks (j+1)) HOK.out.1 (by rw[ask_2 HD.out]) _ (by rw[ask_2 HD.out];rfl)).mono ?_
       rintro e w14 ⟨rfl,f14⟩
       have T14:=hid (HT13.out.fr0 (Fr.trans (by repeat (first|exact Fr.refl _ _|apply Fr.alloc|apply Fr.drewN|apply Fr.drew)) f14))
       have HS2:=HSN
       obtain⟨sq,hsq⟩:∃ sq,En.bytesOf (En.reqF (M.ask waits ticks (j+1)))=sq:=⟨_,rfl⟩
       rw[hsq] at HS2 ⊢
       clear f14 hsq
       go_wp2_with fail
       refine(HS2.out _ T14.out).mono ?_
       rintro e w15 ⟨rfl,t15⟩
       have T15:=hid t15
       clear t15
       go_wp2_with fail
       go_roundw
       case rel=>exact⟨j+1,by go_num,by omega,T15.out⟩
       case measure=>simp[intOf];omega
      ·have HD:=hid hd
       have hd1:(j:Int)+1 - (waits:Int)=3:=by omega
       have hd2:bits BinOp.and IntKind.i64 3 3=3:=by decide
       clear hd
       go_wp2_with fail
       refine(frame_q _ (M.ask waits ticks (j+1)) HOK.out.1 (by rw[ask_3 HD.out]) _ (by rw[ask_3 HD.out];rfl)).mono ?_
       rintro e w14 ⟨rfl,f14⟩
       have T14:=hid (HT13.out.fr0 (Fr.trans (by repeat (first|exact Fr.refl _ _|apply Fr.alloc|apply Fr.drewN|apply Fr.drew)) f14))
       have HS2:=HSN
       obtain⟨sq,hsq⟩:∃ sq,En.bytesOf (En.reqF (M.ask waits ticks (j+1)))=sq:=⟨_,rfl⟩
       rw[hsq] at HS2 ⊢
       clear f14 hsq
       go_wp2_with fail
       refine(HS2.out _ T14.out).mono ?_
       rintro e w15 ⟨rfl,t15⟩
       have T15:=hid t15
       clear t15
       go_wp2_with fail
       go_roundw
       case rel=>exact⟨j+1,by go_num,by omega,T15.out⟩
       case measure=>simp[intOf];omega
      ·have HD:=hid hd
       have hd1:(j:Int)+1 - (waits:Int)=4:=by omega
       have hd2:bits BinOp.and IntKind.i64 4 3=0:=by decide
       clear hd
       go_wp2_with fail
       refine(frame_q _ (M.ask waits ticks (j+1)) HOK.out.1 (by rw[ask_4 HD.out]) _ (by rw[ask_4 HD.out];rfl)).mono ?_
       rintro e w14 ⟨rfl,f14⟩
       have T14:=hid (HT13.out.fr0 (Fr.trans (by repeat (first|exact Fr.refl _ _|apply Fr.alloc|apply Fr.drewN|apply Fr.drew)) f14))
       have HS2:=HSN
       obtain⟨sq,hsq⟩:∃ sq,En.bytesOf (En.reqF (M.ask waits ticks (j+1)))=sq:=⟨_,rfl⟩
       rw[hsq] at HS2 ⊢
       clear f14 hsq
       go_wp2_with fail
       refine(HS2.out _ T14.out).mono ?_
       rintro e w15 ⟨rfl,t15⟩
       have T15:=hid t15
       clear t15
       go_wp2_with fail
       go_roundw
       case rel=>exact⟨j+1,by go_num,by omega,T15.out⟩
       case measure=>simp[intOf];omega
    ·have hne:¬ ((j:Int)+1<(n:Int)):=by omega
     have e:askedTo n waits ticks j=M.asked (M.start n) waits ticks n:=by
      rw[show j=n - 1 by omega]
      rfl
     obtain⟨m0,hm0,hm04,hm0t⟩:=askedTo_at0 (waits:=waits) (ticks:=ticks) (j:=j) hn1 hn2
     have hev0:=askedTo_ev n waits ticks j
     rw[e] at hm0 hev0
     have T16:=hid (e ▸ HT13.out)
     have HM0:=hid (And.intro hm0 (And.intro hm04 (And.intro hm0t hev0)))
     clear e hm0 hm04 hm0t hev0
     go_upto_region 29 with fail
     obtain⟨N20,hN20⟩:∃ N,wr.heap.size=N:=⟨_,rfl⟩
     obtain⟨W16,hW16⟩:∃ W,W=wr.alloc (.cells #[.int .i64 4,.string ⟨#[]⟩,.string ⟨#[104,111,109,101]⟩,.string ⟨#[98]⟩,.string ⟨#[110,97,109,101,58,66,111,98,10]⟩,.int .i64 0,.int .i64 0,.slice none 0 0,.int .i64 0,.int .i64 0,.int .i64 0] 41):=⟨_,rfl⟩
     have b16:Holds W16 N20 41 #[.int .i64 4,.string ⟨#[]⟩,.string ⟨#[104,111,109,101]⟩,.string ⟨#[98]⟩,.string ⟨#[110,97,109,101,58,66,111,98,10]⟩,.int .i64 0,.int .i64 0,.slice none 0 0,.int .i64 0,.int .i64 0,.int .i64 0]:=by rw[hW16];exact at_new hN20
     have f16:Fr [] wr W16:=by rw[hW16];exact(Fr.refl _ _).alloc _
     have hNZ:Z≤N20:=by rw[←hN20];exact T16.out.size HZ.out
     rw[←hW16]
     try simp only[hN20]
     have B16:=hid b16
     have F16:=hid f16
     have HN20:=hid hN20
     clear hW16 b16 f16 hN20
     go_cut [154] from 154 to 154 (fun s154 wx=>s154 = .int .i64 write∧W16=wx)
     case first =>
      go_wp2_with fail
      go_meet
      case rel=>exact⟨rfl,rfl⟩
     obtain⟨rfl,rfl⟩:=hcut
     apply_assumption
     go_cut [] from 155 to 167 (fun wc=>∃ v,RqAt wc Z N20 (M.wr write) v∧Tw w wc Z g xp [] (M.asked (M.start n) waits ticks n))
     case first =>
      by_cases w1:write=1
      ·have q1:((write:Int)==1)=true:=by simp[w1]
       have HW:=hid w1
       clear w1
       have B16X:=B16.out.alloc (.cells #[.bool false,.string ⟨#[98]⟩,.string ⟨#[110,97,109,101,58,66,111,98,10]⟩,.int .i64 0,.int .i64 0,.bool true,.string ⟨#[97]⟩,.string ⟨#[]⟩,.int .i64 0,.int .i64 0,.bool false,.string ⟨#[99]⟩,.string ⟨#[110,97,109,101,58,67,121,10]⟩,.int .i64 0,.int .i64 0] 49)
       go_wp2_with (refine wpList_store_hold rfl 41 (.tmp 20) (.tmp 161) rfl N20 #[.int .i64 7,.string ⟨#[]⟩,.string ⟨#[104,111,109,101]⟩,.string ⟨#[]⟩,.string ⟨#[]⟩,.int .i64 0,.int .i64 0,.slice (some ⟨W16.heap.size,0,none⟩) 3 3,.int .i64 0,.int .i64 0,.int .i64 0] rfl rfl _ _ B16X info_req rfl (by simp[Value.oneCell']) ?_;intro W17 b17 fs17)
       go_meet
       case rel =>
        have f17:Fr [] wr W17:=(F16.out.alloc _).step fs17 (fun x hx=>.inr (by simp at hx;have:=HN20.out;omega))
        refine⟨.slice (some ⟨W16.heap.size,0,none⟩) 3 3,⟨?_,?_,?_⟩,T16.out.fr0 f17⟩
        ·rw[HW.out,(wr_1 _).1]
         exact b17
        ·rw[HW.out]
         refine .inr ⟨W16.heap.size,3,by have:=F16.out.size;have:=HN20.out;omega,rfl,?_⟩
         rw[(wr_1 (.slice none 0 0)).2]
         exact(Row.new W16 #[.bool false,.string ⟨#[98]⟩,.string ⟨#[110,97,109,101,58,66,111,98,10]⟩,.int .i64 0,.int .i64 0,.bool true,.string ⟨#[97]⟩,.string ⟨#[]⟩,.int .i64 0,.int .i64 0,.bool false,.string ⟨#[99]⟩,.string ⟨#[110,97,109,101,58,67,121,10]⟩,.int .i64 0,.int .i64 0] rfl (by decide)).fr fs17 (by have:=B16.out.lt;simp;omega)
        ·rw[HW.out]
         exact fun h=>absurd rfl h
      ·have q1:((write:Int)==1)=false:=by simp;omega
       by_cases w2:write=2
       ·have q2:((write:Int)==2)=true:=by simp[w2]
        have HW:=hid w2
        clear w1 w2
        have B16X:=B16.out
        go_wp2_with (refine wpList_store_hold rfl 41 (.tmp 20) (.tmp 164) rfl N20 #[.int .i64 5,.string ⟨#[]⟩,.string ⟨#[104,111,109,101]⟩,.string ⟨#[97]⟩,.string ⟨#[]⟩,.int .i64 0,.int .i64 0,.slice none 0 0,.int .i64 0,.int .i64 0,.int .i64 0] rfl rfl _ _ B16X info_req rfl (by simp[Value.oneCell']) ?_;intro W17 b17 fs17)
        go_meet
        case rel =>
         have f17:Fr [] wr W17:=F16.out.step fs17 (fun x hx=>.inr (by simp at hx;have:=HN20.out;omega))
         refine⟨.slice none 0 0,⟨?_,?_,fun _=>rfl⟩,T16.out.fr0 f17⟩
         ·rw[HW.out,(wr_2 _).1]
          exact b17
         ·rw[HW.out,(wr_2 (.slice none 0 0)).2]
          exact Own.nil _ _ _ _
       ·have q2:((write:Int)==2)=false:=by simp;omega
        by_cases w3:write=3
        ·have q3:((write:Int)==3)=true:=by simp[w3]
         have HW:=hid w3
         clear w1 w2 w3
         have B16X:=B16.out
         go_wp2_with (refine wpList_store_hold rfl 41 (.tmp 20) (.tmp 167) rfl N20 #[.int .i64 3,.string ⟨#[]⟩,.string ⟨#[104,111,109,101]⟩,.string ⟨#[]⟩,.string ⟨#[]⟩,.int .i64 0,.int .i64 0,.slice none 0 0,.int .i64 0,.int .i64 0,.int .i64 0] rfl rfl _ _ B16X info_req rfl (by simp[Value.oneCell']) ?_;intro W17 b17 fs17)
         go_meet
         case rel =>
          have f17:Fr [] wr W17:=F16.out.step fs17 (fun x hx=>.inr (by simp at hx;have:=HN20.out;omega))
          refine⟨.slice none 0 0,⟨?_,?_,fun _=>rfl⟩,T16.out.fr0 f17⟩
          ·rw[HW.out,(wr_3 _).1]
           exact b17
          ·rw[HW.out,(wr_3 (.slice none 0 0)).2]
           exact Own.nil _ _ _ _
        ·have q3:((write:Int)==3)=false:=by simp;omega
         have HW:=hid (show write≠1∧write≠2∧write≠3 from ⟨w1,w2,w3⟩)
         clear w1 w2 w3
         go_wp2_with fail
         go_meet
         case rel =>
          refine⟨.slice none 0 0,⟨?_,?_,fun _=>rfl⟩,T16.out.fr0 F16.out⟩
          ·rw[(wr_0 write HW.out _).1]
           exact B16.out
          ·rw[(wr_0 write HW.out (.slice none 0 0)).2]
           exact Own.nil _ _ _ _
     case rest =>
      obtain⟨v,hrq,t18⟩:=hcut
      have RQ:=hid hrq
      have T18:=hid t18
      clear hrq t18
      obtain⟨hpok,hreach⟩:=M.reach_begun (waits:=waits) (asks:=asks) (ticks:=ticks) (write:=write) (by omega) (by omega) (by omega) r6 r7 (by omega)
      have hpf:=par_of HN.out hn2 r7 hpok
      obtain⟨P,hP⟩:∃ P,M.par waits asks ticks write=P:=⟨_,rfl⟩
      rw[hP] at hpf hreach
      by_cases w4:write<4
      ·have hw4:(write:Int)<4:=by omega
       have hwr:=M.wr_fine write w4
       rw[s2_lt HN.out w4] at hreach
       have hsnd:=fun W (t:Tw w W Z g xp [] (M.asked (M.start n) waits ticks n))=>tw_send t HZ.out 0 m0 [M.wr write] HM0.out.1 HM0.out.2.1 (by
        intro x hx
        rw[HM0.out.2.2.1] at hx
        simp at hx
        rw[hx]
        exact hwr.1) (by rw[HM0.out.2.2.1];simp)
       obtain⟨s2,hs2⟩:∃ s2,(M.asked (M.start n) waits ticks n).send 0 [M.wr write]=s2:=⟨_,rfl⟩
       have hev2:s2.events.length=had:=by rw[←hs2,send_events,HM0.out.2.2.2,←HHD.out]
       rw[hs2] at hreach hsnd
       simp only[List.flatMap_cons,List.flatMap_nil,List.append_nil] at hsnd
       have HFR:=hid (fun W (f:Fr [] wc W)=>frame_any W Z (M.wr write) v hwr.1 (Own.fr0 RQ.out.ops f) RQ.out.nil)
       obtain⟨sq,hsq⟩:∃ sq,En.bytesOf (En.reqF (M.wr write))=sq:=⟨_,rfl⟩
       rw[hsq] at hsnd HFR
       have HSND:=hid hsnd
       obtain⟨va,vc,hva⟩:=Own.form RQ.out.ops
       have hcell:=RQ.out.cell
       have hcl:=hcell.cell
       have hcl0:=hcl 0
       have hcl1:=hcl 1
       have hcl2:=hcl 2
       have hcl3:=hcl 3
       have hcl4:=hcl 4
       have hcl5:=hcl 5
       have hcl6:=hcl 6
       have hcl7:=hcl 7
       have hcl8:=hcl 8
       have hcl9:=hcl 9
       have hcl10:=hcl 10
       have hclt:=hcell.lt
       rw[hva] at HFR hcl0 hcl1 hcl2 hcl3 hcl4 hcl5 hcl6 hcl7 hcl8 hcl9 hcl10
       obtain⟨q,hq⟩:∃ q,M.wr write=q:=⟨_,rfl⟩
       rw[hq] at HFR hcl0 hcl1 hcl2 hcl3 hcl4 hcl5 hcl6 hcl7 hcl8 hcl9 hcl10
       simp[Ev.rqc] at hcl0 hcl1 hcl2 hcl3 hcl4 hcl5 hcl6 hcl7 hcl8 hcl9 hcl10
       simp only[Ev.rqc] at HFR
       have HS2:=hid (And.intro hs2 (And.intro hev2 (And.intro hP hreach)))
       have HPF:=hid hpf
       clear hpok hreach hpf hP hwr hsnd hs2 hev2 hsq hcell hcl hva hq
       go_wp2_with fail
       refine(HFR.out _ (Fr.refl _ _)).mono ?_
       rintro e w20 ⟨rfl,f20⟩
       have T20:=hid (T18.out.fr0 f20)
       clear f20
       go_wp2_with fail
       refine(HSND.out _ T20.out).mono ?_
       rintro e w21 ⟨rfl,t21⟩
       have TR:=hid (show Tr w w21 Z g xp [] P 0 (picked n s2 (xs.take 0)) (100+2*0) from ⟨t21,HS2.out.2.2.2,by rw[show picked n s2 (xs.take 0)=s2 from rfl,HS2.out.2.1];omega⟩)
       clear t21
       go_wp2_with fail
       go_loopw [21] (fun i wr=>∃ t:Nat,i = .int .i64 t∧t≤l∧Tr w wr Z g xp [] P 0 (picked n s2 (xs.take t)) (100+2*t)) (fun i _=>l - (intOf i).toNat)
       case atStart=>exact⟨0,rfl,Nat.zero_le _,TR.out⟩
       case round =>
        obtain⟨t,rfl,ht,T22⟩:=hrel
        have TR2:=hid T22
        clear T22
        by_cases htl:t<l
        ·have htl1:(t:Int)<(l:Int):=by omega
         obtain⟨x,hx⟩:∃ x,xs[t]? = some x:=⟨_,List.getElem?_eq_getElem (by rw[HX.out.2];exact htl)⟩
         obtain⟨b,o,hab,hbl,hcb⟩:=HX.out.1 t x hx
         subst hab
         have hcx:=TR2.out.tw.fr.cell hcb hbl (by simp)
         have hbl2:=Nat.lt_of_lt_of_le hbl TR2.out.tw.fr.size
         have HXX:=hid hx
         have hnz:(n:Int)≠0:=by omega
         clear hx hcb hbl
         go_wp2_with fail
         rw[pick_index x n (by omega) hn2]
         refine(tr_pick TR2.out HPF.out HZ.out (by decide) (by decide) _ (Nat.mod_lt _ (by omega)) (by omega)).mono ?_
         rintro e w22 ⟨⟨bb,rfl⟩,t22⟩
         rw[←picked_take HXX.out] at t22
         have T22:=hid (t22.le (show 100+2*t+2≤100+2*(t+1) by omega))
         clear t22
         go_wp2_with fail
         go_roundw
         case rel=>exact⟨t+1,by go_num,by omega,T22.out⟩
         case measure=>simp[intOf];omega
        ·obtain rfl:l=t:=by omega
         have TR3:=hid (show Tr w wr Z g xp [] P 0 (picked n s2 xs) 500 from by
          have h:=TR2.out
          rw[List.take_of_length_le (by rw[HX.out.2];exact Nat.le_refl _)] at h
          exact h.le (by omega))
         clear TR2
         go_upto_if 196 with fail
         obtain⟨N22,hN22⟩:∃ N,wr.heap.size=N:=⟨_,rfl⟩
         obtain⟨W22,hW22⟩:∃ W,W=wr.alloc (.cells #[.int .i64 9,.int .i64 0,.int .i64 3,.int .i64 0,.string ⟨#[]⟩,.int .i64 0,.bool false,.slice none 0 0] 53):=⟨_,rfl⟩
         have b22:Holds W22 N22 53 #[.int .i64 9,.int .i64 0,.int .i64 3,.int .i64 0,.string ⟨#[]⟩,.int .i64 0,.bool false,.slice none 0 0]:=by rw[hW22];exact at_new hN22
         have f22:Fr [] wr W22:=by rw[hW22];exact(Fr.refl _ _).alloc _
         rw[←hW22]
         try simp only[hN22]
         have B22:=hid b22
         have F22:=hid f22
         have HN22:=hid hN22
         clear hW22 b22 f22 hN22
         go_cut [] from 197 to 197 (fun wc=>Holds wc N22 53 (Ev.rsc (M.want write) (.slice none 0 0)).toArray∧Tr w wc Z g xp [] P 0 (picked n s2 xs) 500)
         case first =>
          by_cases w3:write=3
          ·have q3:((write:Int)==3)=true:=by simp[w3]
           have HW:=hid w3
           clear w3
           go_wp2_with (refine wpList_store_hold rfl 53 (.tmp 22) (.tmp 197) rfl N22 #[.int .i64 9,.int .i64 4,.int .i64 0,.int .i64 0,.string ⟨#[]⟩,.int .i64 0,.bool false,.slice none 0 0] rfl rfl _ _ B22.out info_resp rfl (by simp[Value.oneCell']) ?_;intro W23 b23 fs23)
           go_meet
           case rel =>
            have f23:Fr [] wr W23:=F22.out.step fs23 (fun x hx=>.inr (by simp at hx;have:=HN22.out;omega))
            refine⟨?_,TR3.out.fr0 f23⟩
            rw[HW.out,want_3]
            exact b23
          ·have q3:((write:Int)==3)=false:=by simp;omega
           have HW:=hid w3
           clear w3
           go_wp2_with fail
           go_meet
           case rel =>
            refine⟨?_,TR3.out.fr0 F22.out⟩
            rw[want_lt w4 HW.out]
            exact B22.out
         case rest =>
          obtain⟨b23,t23⟩:=hcut
          obtain⟨C22,hC22⟩:∃ C,(Ev.rsc (M.want write) (.slice none 0 0)).toArray=C:=⟨_,rfl⟩
          rw[hC22] at b23
          have HC22:=hid hC22
          have T23:=hid (t23.more b23)
          clear b23 t23 hC22
          have hlaw:=law_lt xs HN.out (by omega) (by omega) (by omega) r6 w4 HHD.out HS2.out.1
          obtain⟨s4,hs4⟩:∃ s4,M.till (picked n s2 xs) had n (60*n) 0=s4:=⟨_,rfl⟩
          rw[hs4] at hlaw
          have hev3:had≤(picked n s2 xs).events.length:=picked_ev n had xs s2 (by rw[HS2.out.2.1];exact Nat.le_refl _)
          have HLAW:=hid hlaw
          have HT0:=hid (And.intro hs4 hev3)
          clear hlaw hs4 hev3
          go_upto_block 7 with fail
          go_cut [] from 200 to 216 (fun wc=>Tr w wc Z g xp [(N22,C22)] P 0 s4 2000∧had≤s4.events.length)
          case first =>
           go_wp2_with fail
           go_loopw [23] (fun i wr=>∃ (t m:Nat) (s5:M.Srv),i = .int .i64 t∧t+m=60*n∧M.till s5 had n m t=s4∧had≤s5.events.length∧Tr w wr Z g xp [(N22,C22)] P 0 s5 (500+2*t)) (fun i _=>60*n - (intOf i).toNat)
           case atStart=>exact⟨0,60*n,picked n s2 xs,rfl,by omega,HT0.out.1,HT0.out.2,T23.out⟩
           case round =>
            obtain⟨t,m,s5,rfl,htm,htill,hev5,T24⟩:=hrel
            have H24:=hid (And.intro htill (And.intro hev5 T24))
            clear htill hev5 T24
            cases m with
            | zero =>
             have hnt:¬ ((t:Int)<60*(n:Int)):=by omega
             go_wp2_with fail
             go_meet
             case rel =>
              have e:s5=s4:=H24.out.1
              rw[←e]
              exact⟨H24.out.2.2.le (by omega),H24.out.2.1⟩
            | succ m =>
             have hnt:(t:Int)<60*(n:Int):=by omega
             have han:=tr_answered H24.out.2.2 had 0 (by omega) H24.out.2.1
             obtain⟨bb,hbb⟩:∃ bb,M.answered s5 had 0=bb:=⟨_,rfl⟩
             rw[hbb] at han
             have HAN:=hid han
             have HBB:=hid hbb
             clear han hbb
             go_wp2_with fail
             refine HAN.out.mono ?_
             rintro e w24 ⟨rfl,t24,_⟩
             have T24:=hid t24
             clear t24
             cases bb
             ·have hnz:(n:Int)≠0:=by omega
              have htm2:((t:Int)).tmod (n:Int)=((t % n:Nat):Int):=(Int.ofNat_tmod t n).symm
              have HTI:=hid (show M.till (s5.pick (t % n)) had n m (t+1)=s4 from by rw[←till_no HBB.out];exact H24.out.1)
              go_wp2_with fail
              refine(tr_pick T24.out HPF.out HZ.out (by decide) (by decide) (t % n) (Nat.mod_lt _ (by omega)) (by omega)).mono ?_
              rintro e w25 ⟨⟨b3,rfl⟩,t25⟩
              have T25:=hid (t25.le (show 500+2*t+2≤500+2*(t+1) by omega))
              clear t25
              go_wp2_with fail
              go_roundw
              case rel=>exact⟨t+1,m,_,by go_num,by omega,HTI.out,Nat.le_trans H24.out.2.1 (pick_events _ _),T25.out⟩
              case measure=>simp[intOf];omega
             ·go_wp2_with fail
              go_meet
              case rel =>
               have e:s5=s4:=by rw[←H24.out.1];exact(till_yes HBB.out).symm
               rw[←e]
               exact⟨T24.out.le (by omega),H24.out.2.1⟩
          case rest =>
           obtain⟨t26,hev4⟩:=hcut
           have han:=tr_answered t26 had 0 (by omega) hev4
           rw[HLAW.out.1] at han
           have HAN:=hid han
           have HEV4:=hid hev4
           clear han t26 hev4
           go_wp2_with fail
           refine HAN.out.mono ?_
           rintro e w26 ⟨rfl,t26,_⟩
           have HR8:=hid (tr_rounds t26 HPF.out HZ.out (by decide) (by decide) 8 (by decide) (by decide))
           clear t26
           go_wp2_with fail
           refine HR8.out.mono ?_
           rintro e w27 ⟨rfl,t27⟩
           obtain⟨s9,hs9⟩:∃ s9,M.rounds s4 n 8=s9:=⟨_,rfl⟩
           have hends:=HLAW.out.2
           rw[hs9] at t27 hends
           have hev9:had≤s9.events.length:=by
            rw[←hs9]
            exact Nat.le_trans HEV4.out (rounds_ev n 8 s4)
           have HEN:=hid (And.intro hends (And.intro t27.ev hev9))
           have HE:=hid (tr_events t27 (by decide))
           clear hs9 hends t27 hev9
           go_wp2_with fail
           refine HE.out.mono ?_
           rintro e w28 ⟨ea,ec,L,rfl,hL,hown,hat,t28⟩
           have HEA:=hid (ends_at HEN.out.1 L hL)
           have hLl:L.length≤2160:=by
            have h1:L.length=s9.events.length:=by rw[←hL];simp
            rw[h1]
            exact HEN.out.2.1
           have HL:=hid (And.intro hL (And.intro hown hat))
           have T28:=hid t28
           clear hL hown hat t28
           go_wp2_with fail
           go_loopw [26] (fun i wr=>∃ t:Nat,i = .int .i64 ((t:Int)+1)∧t≤waits∧Tr w wr Z g xp [(N22,C22)] P 0 s9 2160∧Fr [] w28 wr) (fun i _=>waits+1 - (intOf i).toNat)
           case atStart=>exact⟨0,rfl,Nat.zero_le _,T28.out,Fr.refl _ _⟩
           case round =>
            obtain⟨t,rfl,htw,T29,f29⟩:=hrel
            have H29:=hid (And.intro T29 f29)
            clear T29 f29
            by_cases htl:t<waits
            ·have htl1:(t:Int)+1≤(waits:Int):=by omega
             have han:=tr_answered H29.out.1 had ((t:Int)+1) (by decide) HEN.out.2.2
             rw[(HEA.out t htl).1] at han
             have HAN:=hid han
             clear han
             go_wp2_with fail
             refine HAN.out.mono ?_
             rintro e w30 ⟨rfl,t30,f30⟩
             have T30:=hid t30
             have F30:=hid (H29.out.2.trans f30)
             clear t30 f30
             go_wp2_with fail
             go_loopw [27] (fun i wr=>∃ j:Nat,i = .int .i64 j∧had≤j∧j≤L.length∧Tr w wr Z g xp [(N22,C22)] P 0 s9 2160∧Fr [] w28 wr) (fun i _=>L.length - (intOf i).toNat)
             case atStart=>exact⟨had,rfl,Nat.le_refl _,by
              have h1:L.length=s9.events.length:=by rw[←HL.out.1];simp
              rw[h1]
              exact HEN.out.2.2,T30.out,F30.out⟩
             case round =>
              obtain⟨j2,rfl,hj0,hj2,T31,f31⟩:=hrel
              have H31:=hid (And.intro T31 f31)
              clear T31 f31
              by_cases hjl:j2<L.length
              ·obtain⟨r,hr⟩:∃ r,L[j2]? = some r:=⟨_,List.getElem?_eq_getElem hjl⟩
               obtain⟨gq,hea,hgq,hrng⟩:=ev_range (Own.fr0 HL.out.2.1 H31.out.2) hr
               subst hea
               obtain⟨o,ho⟩:∃ o,j2*23=o:=⟨_,rfl⟩
               rw[ho] at hrng
               have d0:wr.cell? ⟨gq,o,none⟩=some (.int .i64 r.kind):=hrng 0 _ rfl
               have d1:wr.cell? ⟨gq,o+1,none⟩=some (.int .i64 r.conn):=hrng 1 _ rfl
               have hjl1:(j2:Int)<(L.length:Int):=by omega
               have HRN:=hid (And.intro hr hrng)
               clear hr hrng
               by_cases e3:r.kind=3
               ·by_cases e1:r.conn=(t:Int)+1
                ·have hrw:=(HEA.out t htl).2 j2 r HRN.out.1 hj0 e3 e1
                 obtain⟨va,vc,hvi⟩:∃ va vc,r.vi = .slice va 0 vc:=by
                  obtain⟨a',c',h'⟩:=Own.form (HL.out.2.2 r (List.mem_of_getElem? HRN.out.1)).its
                  have h0:r.rs.items.length=0:=by rw[hrw,want_items];rfl
                  rw[h0] at h'
                  exact⟨a',c',h'⟩
                 obtain⟨wa,hwa⟩:∃ wa,M.want write=wa:=⟨_,rfl⟩
                 rw[hwa] at hrw
                 have hC:=HC22.out
                 rw[hwa] at hC
                 have d15:wr.cell? ⟨gq,o+15,none⟩=some (.int .i64 wa.kind):=by rw[←hrw];exact HRN.out.2 15 _ rfl
                 have d16:wr.cell? ⟨gq,o+16,none⟩=some (.int .i64 wa.err):=by rw[←hrw];exact HRN.out.2 16 _ rfl
                 have d17:wr.cell? ⟨gq,o+17,none⟩=some (.int .i64 wa.token):=by rw[←hrw];exact HRN.out.2 17 _ rfl
                 have d18:wr.cell? ⟨gq,o+18,none⟩=some (.int .i64 wa.version):=by rw[←hrw];exact HRN.out.2 18 _ rfl
                 have d19:wr.cell? ⟨gq,o+19,none⟩=some (.string wa.card):=by rw[←hrw];exact HRN.out.2 19 _ rfl
                 have d20:wr.cell? ⟨gq,o+20,none⟩=some (.int .i64 wa.index):=by rw[←hrw];exact HRN.out.2 20 _ rfl
                 have d21:wr.cell? ⟨gq,o+21,none⟩=some (.bool wa.more):=by rw[←hrw];exact HRN.out.2 21 _ rfl
                 have d22:wr.cell? ⟨gq,o+22,none⟩=some (.slice va 0 vc):=by rw[←hvi];exact HRN.out.2 22 _ rfl
                 have bk:=H31.out.1.tw.keep N22 C22 (by simp)
                 rw[←hC] at bk
                 obtain⟨n0,n1,n2,n3,n4,n5,n6,n7⟩:=bk.cs8
                 have nl:=bk.lt
                 simp[Ev.rsc] at n0 n1 n2 n3 n4 n5 n6 n7
                 have hsr:=fun W=>same_any W wa va none vc 0
                 simp only[Ev.rsc] at hsr
                 have HSR:=hid hsr
                 have t3:(r.kind==3)=true:=by simp[e3]
                 have t1:(r.conn==(t:Int)+1)=true:=by simp[e1]
                 clear hrw hvi hwa hC bk hsr e1 e3
                 go_wp2_with fail
                 go_still_tail 22,(by kernel_rfl)
                 change wpList _ _ _ _ _ wr.drew
                 go_wp2_with fail
                 refine(HSR.out _).mono ?_
                 rintro e w33 ⟨rfl,f33⟩
                 have F33:=hid ((Fr.refl [] wr).drew.trans f33)
                 clear f33
                 go_wp2_with fail
                 go_roundw
                 case rel=>exact⟨j2+1,by go_num,by omega,by omega,H31.out.1.fr0 F33.out,H31.out.2.trans F33.out⟩
                 case measure=>simp[intOf];omega
                ·have t3:(r.kind==3)=true:=by simp[e3]
                 have t1:(r.conn==(t:Int)+1)=false:=by simp[e1]
                 clear e1 e3
                 go_wp2_with fail
                 go_quiet (fail)
                 go_wp2_with fail
                 go_roundw
                 case rel=>exact⟨j2+1,by go_num,by omega,by omega,H31.out.1.fr0 (by repeat (first|exact Fr.refl _ _|apply Fr.drewN|apply Fr.drew)),H31.out.2.trans (by repeat (first|exact Fr.refl _ _|apply Fr.drewN|apply Fr.drew))⟩
                 case measure=>simp[intOf];omega
               ·have t3:(r.kind==3)=false:=by simp[e3]
                clear e3
                go_wp2_with fail
                go_quiet (fail)
                go_wp2_with fail
                go_roundw
                case rel=>exact⟨j2+1,by go_num,by omega,by omega,H31.out.1.fr0 (by repeat (first|exact Fr.refl _ _|apply Fr.drewN|apply Fr.drew)),H31.out.2.trans (by repeat (first|exact Fr.refl _ _|apply Fr.drewN|apply Fr.drew))⟩
                case measure=>simp[intOf];omega
              ·obtain rfl:j2=L.length:=by omega
               go_wp2_with fail
               go_roundw
               case rel=>exact⟨t+1,by go_num,by omega,H31.out.1,H31.out.2⟩
               case measure=>simp[intOf];omega
            ·obtain rfl:waits=t:=by omega
             go_wp2_with fail
             go_ret
             exact⟨rfl,H29.out.1.tw.fr⟩
      ·have hw4:¬ ((write:Int)<4):=by omega
       have HW4:=hid (show write=4 by omega)
       have q3:((write:Int)==3)=false:=by simp;omega
       rw[s2_ge HN.out w4] at hreach
       obtain⟨s2,hs2⟩:∃ s2,M.asked (M.start n) waits ticks n=s2:=⟨_,rfl⟩
       have hev2:s2.events.length=had:=by rw[←hs2,HM0.out.2.2.2,←HHD.out]
       have ht18:=T18.out
       rw[hs2] at hreach ht18
       have TR:=hid (show Tr w wc Z g xp [] P 0 (picked n s2 (xs.take 0)) (100+2*0) from ⟨ht18,hreach,by rw[show picked n s2 (xs.take 0)=s2 from rfl,hev2];omega⟩)
       have HS2:=hid (And.intro hs2 (And.intro hev2 (And.intro hP hreach)))
       have HPF:=hid hpf
       clear hpok hreach hpf hP hs2 hev2 ht18
       go_wp2_with fail
       go_loopw [21] (fun i wr=>∃ t:Nat,i = .int .i64 t∧t≤l∧Tr w wr Z g xp [] P 0 (picked n s2 (xs.take t)) (100+2*t)) (fun i _=>l - (intOf i).toNat)
       case atStart=>exact⟨0,rfl,Nat.zero_le _,TR.out⟩
       case round =>
        obtain⟨t,rfl,ht,T22⟩:=hrel
        have TR2:=hid T22
        clear T22
        by_cases htl:t<l
        ·have htl1:(t:Int)<(l:Int):=by omega
         obtain⟨x,hx⟩:∃ x,xs[t]? = some x:=⟨_,List.getElem?_eq_getElem (by rw[HX.out.2];exact htl)⟩
         obtain⟨b,o,hab,hbl,hcb⟩:=HX.out.1 t x hx
         subst hab
         have hcx:=TR2.out.tw.fr.cell hcb hbl (by simp)
         have hbl2:=Nat.lt_of_lt_of_le hbl TR2.out.tw.fr.size
         have HXX:=hid hx
         have hnz:(n:Int)≠0:=by omega
         clear hx hcb hbl
         go_wp2_with fail
         rw[pick_index x n (by omega) hn2]
         refine(tr_pick TR2.out HPF.out HZ.out (by decide) (by decide) _ (Nat.mod_lt _ (by omega)) (by omega)).mono ?_
         rintro e w22 ⟨⟨bb,rfl⟩,t22⟩
         rw[←picked_take HXX.out] at t22
         have T22:=hid (t22.le (show 100+2*t+2≤100+2*(t+1) by omega))
         clear t22
         go_wp2_with fail
         go_roundw
         case rel=>exact⟨t+1,by go_num,by omega,T22.out⟩
         case measure=>simp[intOf];omega
        ·obtain rfl:l=t:=by omega
         have TR3:=hid (show Tr w wr Z g xp [] P 0 (picked n s2 xs) 500 from by
          have h:=TR2.out
          rw[List.take_of_length_le (by rw[HX.out.2];exact Nat.le_refl _)] at h
          exact h.le (by omega))
         clear TR2
         go_upto_region 53 with fail
         obtain⟨N22,hN22⟩:∃ N,wr.heap.size=N:=⟨_,rfl⟩
         obtain⟨W22,hW22⟩:∃ W,W=wr.alloc (.cells #[.int .i64 9,.int .i64 15,.int .i64 0,.int .i64 0,.string ⟨#[]⟩,.int .i64 0,.bool false,.slice none 0 0] 53):=⟨_,rfl⟩
         have b22:Holds W22 N22 53 (Ev.rsc (M.want write) (.slice none 0 0)).toArray:=by
          rw[HW4.out,want_4,hW22]
          exact at_new hN22
         have f22:Fr [] wr W22:=by rw[hW22];exact(Fr.refl _ _).alloc _
         rw[←hW22]
         try simp only[hN22]
         obtain⟨C22,hC22⟩:∃ C,(Ev.rsc (M.want write) (.slice none 0 0)).toArray=C:=⟨_,rfl⟩
         rw[hC22] at b22
         have HC22:=hid hC22
         have T23:=hid ((TR3.out.fr0 f22).more b22)
         obtain⟨s5,hs5⟩:∃ s5,M.rounds ((M.rounds (picked n s2 xs) n 20).tick (ticks - 1)) n 20=s5:=⟨_,rfl⟩
         have hlaw:=law_ge xs HN.out (by omega) (by omega) (by omega) r6 HHD.out HS2.out.1 hs5
         have HLAW:=hid hlaw
         have HS5:=hid hs5
         have hp4:P.write=4:=by rw[←HS2.out.2.2.1];exact HW4.out
         have HP4:=hid hp4
         have HR1:=hid (tr_rounds T23.out HPF.out HZ.out (by decide) (by decide) 20 (by decide) (by decide))
         clear hW22 b22 f22 hN22 hC22 hlaw hs5 hp4
         go_wp2_with fail
         refine HR1.out.mono ?_
         rintro e w24 ⟨rfl,t24⟩
         have hrr:M.ReachR P 0 (M.rounds (picked n s2 xs) n 20):=by
          have h:=M.reach_read HPF.out.ok HPF.out.ticks HPF.out.n10 (by decide) (by decide) 19 T23.out.rch
          rw[HPF.out.eq] at h
          exact h
         have HTK:=hid (tr_tick t24 hrr HP4.out HZ.out (by decide) (by decide) (ticks - 1) (by omega) (by omega))
         clear t24 hrr
         go_wp2_with fail
         refine HTK.out.mono ?_
         rintro e w25 ⟨rfl,t25⟩
         have hr2:=tr_rounds t25 HPF.out HZ.out (by omega) (by omega) 20 (by decide) (by decide)
         rw[HS5.out] at hr2
         have HR2:=hid hr2
         have HRC:=hid t25.rch
         clear hr2 t25
         go_wp2_with fail
         refine HR2.out.mono ?_
         rintro e w26 ⟨rfl,t26⟩
         have T26:=hid t26
         clear t26
         have hev5:had≤s5.events.length:=by
          rw[←HS5.out]
          exact Nat.le_trans (picked_ev n had xs s2 (by rw[HS2.out.2.1];exact Nat.le_refl _)) (Nat.le_trans (rounds_ev n 20 _) (rounds_ev n 20 ((M.rounds (picked n s2 xs) n 20).tick (ticks - 1))))
         have HEV5:=hid hev5
         clear hev5
         go_wp2_with fail
         go_loopw [24] (fun i wr=>∃ t:Nat,i = .int .i64 ((t:Int)+1)∧t≤waits∧Tr w wr Z g xp [(N22,C22)] P (0+(ticks - 1)) s5 1300) (fun i _=>waits+1 - (intOf i).toNat)
         case atStart=>exact⟨0,rfl,Nat.zero_le _,T26.out⟩
         case round =>
          obtain⟨t,rfl,htw,T27⟩:=hrel
          have H27:=hid T27
          clear T27
          by_cases htl:t<waits
          ·have htl1:(t:Int)+1≤(waits:Int):=by omega
           have han:=tr_answered H27.out had ((t:Int)+1) (by decide) HEV5.out
           rw[(HLAW.out.1 t htl).1] at han
           have HAN:=hid han
           have htn:t+1<n:=by have:=HN.out;omega
           clear han
           go_wp2_with fail
           refine HAN.out.mono ?_
           rintro e w28 ⟨rfl,t28,_⟩
           have hcan:=tr_can t28 HPF.out (by omega) (by omega) (t+1) htn
           rw[(HLAW.out.1 t htl).2] at hcan
           simp only[Int.natCast_add,Int.natCast_one] at hcan
           have HCAN:=hid hcan
           clear hcan t28
           go_wp2_with fail
           refine HCAN.out.mono ?_
           rintro e w29 ⟨rfl,t29⟩
           have T29:=hid t29
           clear t29
           go_wp2_with fail
           go_roundw
           case rel=>exact⟨t+1,by go_num,by omega,T29.out⟩
           case measure=>simp[intOf];omega
          ·obtain rfl:waits=t:=by omega
           have hrr5:M.ReachR P (0+(ticks - 1)) s5:=by
            have h:=M.reach_read HPF.out.ok HPF.out.ticks HPF.out.n10 (by omega) (by omega) 19 HRC.out
            rw[HPF.out.eq,HS5.out] at h
            exact h
           have HTK2:=hid (tr_tick H27.out hrr5 HP4.out HZ.out (by omega) (by omega) 1 (by decide) (by decide))
           clear hrr5
           go_wp2_with fail
           refine HTK2.out.mono ?_
           rintro e w30 ⟨rfl,t30⟩
           have HR8:=hid (tr_rounds t30 HPF.out HZ.out (by omega) (by omega) 8 (by decide) (by decide))
           clear t30
           go_wp2_with fail
           refine HR8.out.mono ?_
           rintro e w27 ⟨rfl,t27⟩
           obtain⟨s9,hs9⟩:∃ s9,M.rounds (s5.tick 1) n 8=s9:=⟨_,rfl⟩
           have hends:M.ends (M.rounds (s5.tick 1) n 8) had waits write=true:=by
            rw[HW4.out]
            exact HLAW.out.2
           rw[hs9] at t27 hends
           have hev9:had≤s9.events.length:=by
            rw[←hs9]
            exact Nat.le_trans HEV5.out (rounds_ev n 8 (s5.tick 1))
           have HEN:=hid (And.intro hends (And.intro t27.ev hev9))
           have HE:=hid (tr_events t27 (by decide))
           clear hs9 hends t27 hev9
           go_wp2_with fail
           refine HE.out.mono ?_
           rintro e w28 ⟨ea,ec,L,rfl,hL,hown,hat,t28⟩
           have HEA:=hid (ends_at HEN.out.1 L hL)
           have hLl:L.length≤1460:=by
            have h1:L.length=s9.events.length:=by rw[←hL];simp
            rw[h1]
            exact HEN.out.2.1
           have HL:=hid (And.intro hL (And.intro hown hat))
           have T28:=hid t28
           clear hL hown hat t28
           go_wp2_with fail
           go_loopw [26] (fun i wr=>∃ t:Nat,i = .int .i64 ((t:Int)+1)∧t≤waits∧Tr w wr Z g xp [(N22,C22)] P (0+(ticks - 1)+1) s9 1460∧Fr [] w28 wr) (fun i _=>waits+1 - (intOf i).toNat)
           case atStart=>exact⟨0,rfl,Nat.zero_le _,T28.out,Fr.refl _ _⟩
           case round =>
            obtain⟨t,rfl,htw,T29,f29⟩:=hrel
            have H29:=hid (And.intro T29 f29)
            clear T29 f29
            by_cases htl:t<waits
            ·have htl1:(t:Int)+1≤(waits:Int):=by omega
             have han:=tr_answered H29.out.1 had ((t:Int)+1) (by decide) HEN.out.2.2
             rw[(HEA.out t htl).1] at han
             have HAN:=hid han
             clear han
             go_wp2_with fail
             refine HAN.out.mono ?_
             rintro e w30 ⟨rfl,t30,f30⟩
             have T30:=hid t30
             have F30:=hid (H29.out.2.trans f30)
             clear t30 f30
             go_wp2_with fail
             go_loopw [27] (fun i wr=>∃ j:Nat,i = .int .i64 j∧had≤j∧j≤L.length∧Tr w wr Z g xp [(N22,C22)] P (0+(ticks - 1)+1) s9 1460∧Fr [] w28 wr) (fun i _=>L.length - (intOf i).toNat)
             case atStart=>exact⟨had,rfl,Nat.le_refl _,by
              have h1:L.length=s9.events.length:=by rw[←HL.out.1];simp
              rw[h1]
              exact HEN.out.2.2,T30.out,F30.out⟩
             case round =>
              obtain⟨j2,rfl,hj0,hj2,T31,f31⟩:=hrel
              have H31:=hid (And.intro T31 f31)
              clear T31 f31
              by_cases hjl:j2<L.length
              ·obtain⟨r,hr⟩:∃ r,L[j2]? = some r:=⟨_,List.getElem?_eq_getElem hjl⟩
               obtain⟨gq,hea,hgq,hrng⟩:=ev_range (Own.fr0 HL.out.2.1 H31.out.2) hr
               subst hea
               obtain⟨o,ho⟩:∃ o,j2*23=o:=⟨_,rfl⟩
               rw[ho] at hrng
               have d0:wr.cell? ⟨gq,o,none⟩=some (.int .i64 r.kind):=hrng 0 _ rfl
               have d1:wr.cell? ⟨gq,o+1,none⟩=some (.int .i64 r.conn):=hrng 1 _ rfl
               have hjl1:(j2:Int)<(L.length:Int):=by omega
               have HRN:=hid (And.intro hr hrng)
               clear hr hrng
               by_cases e3:r.kind=3
               ·by_cases e1:r.conn=(t:Int)+1
                ·have hrw:=(HEA.out t htl).2 j2 r HRN.out.1 hj0 e3 e1
                 obtain⟨va,vc,hvi⟩:∃ va vc,r.vi = .slice va 0 vc:=by
                  obtain⟨a',c',h'⟩:=Own.form (HL.out.2.2 r (List.mem_of_getElem? HRN.out.1)).its
                  have h0:r.rs.items.length=0:=by rw[hrw,want_items];rfl
                  rw[h0] at h'
                  exact⟨a',c',h'⟩
                 obtain⟨wa,hwa⟩:∃ wa,M.want write=wa:=⟨_,rfl⟩
                 rw[hwa] at hrw
                 have hC:=HC22.out
                 rw[hwa] at hC
                 have d15:wr.cell? ⟨gq,o+15,none⟩=some (.int .i64 wa.kind):=by rw[←hrw];exact HRN.out.2 15 _ rfl
                 have d16:wr.cell? ⟨gq,o+16,none⟩=some (.int .i64 wa.err):=by rw[←hrw];exact HRN.out.2 16 _ rfl
                 have d17:wr.cell? ⟨gq,o+17,none⟩=some (.int .i64 wa.token):=by rw[←hrw];exact HRN.out.2 17 _ rfl
                 have d18:wr.cell? ⟨gq,o+18,none⟩=some (.int .i64 wa.version):=by rw[←hrw];exact HRN.out.2 18 _ rfl
                 have d19:wr.cell? ⟨gq,o+19,none⟩=some (.string wa.card):=by rw[←hrw];exact HRN.out.2 19 _ rfl
                 have d20:wr.cell? ⟨gq,o+20,none⟩=some (.int .i64 wa.index):=by rw[←hrw];exact HRN.out.2 20 _ rfl
                 have d21:wr.cell? ⟨gq,o+21,none⟩=some (.bool wa.more):=by rw[←hrw];exact HRN.out.2 21 _ rfl
                 have d22:wr.cell? ⟨gq,o+22,none⟩=some (.slice va 0 vc):=by rw[←hvi];exact HRN.out.2 22 _ rfl
                 have bk:=H31.out.1.tw.keep N22 C22 (by simp)
                 rw[←hC] at bk
                 obtain⟨n0,n1,n2,n3,n4,n5,n6,n7⟩:=bk.cs8
                 have nl:=bk.lt
                 simp[Ev.rsc] at n0 n1 n2 n3 n4 n5 n6 n7
                 have hsr:=fun W=>same_any W wa va none vc 0
                 simp only[Ev.rsc] at hsr
                 have HSR:=hid hsr
                 have t3:(r.kind==3)=true:=by simp[e3]
                 have t1:(r.conn==(t:Int)+1)=true:=by simp[e1]
                 clear hrw hvi hwa hC bk hsr e1 e3
                 go_wp2_with fail
                 go_still_tail 22,(by kernel_rfl)
                 change wpList _ _ _ _ _ wr.drew
                 go_wp2_with fail
                 refine(HSR.out _).mono ?_
                 rintro e w33 ⟨rfl,f33⟩
                 have F33:=hid ((Fr.refl [] wr).drew.trans f33)
                 clear f33
                 go_wp2_with fail
                 go_roundw
                 case rel=>exact⟨j2+1,by go_num,by omega,by omega,H31.out.1.fr0 F33.out,H31.out.2.trans F33.out⟩
                 case measure=>simp[intOf];omega
                ·have t3:(r.kind==3)=true:=by simp[e3]
                 have t1:(r.conn==(t:Int)+1)=false:=by simp[e1]
                 clear e1 e3
                 go_wp2_with fail
                 go_quiet (fail)
                 go_wp2_with fail
                 go_roundw
                 case rel=>exact⟨j2+1,by go_num,by omega,by omega,H31.out.1.fr0 (by repeat (first|exact Fr.refl _ _|apply Fr.drewN|apply Fr.drew)),H31.out.2.trans (by repeat (first|exact Fr.refl _ _|apply Fr.drewN|apply Fr.drew))⟩
                 case measure=>simp[intOf];omega
               ·have t3:(r.kind==3)=false:=by simp[e3]
                clear e3
                go_wp2_with fail
                go_quiet (fail)
                go_wp2_with fail
                go_roundw
                case rel=>exact⟨j2+1,by go_num,by omega,by omega,H31.out.1.fr0 (by repeat (first|exact Fr.refl _ _|apply Fr.drewN|apply Fr.drew)),H31.out.2.trans (by repeat (first|exact Fr.refl _ _|apply Fr.drewN|apply Fr.drew))⟩
                case measure=>simp[intOf];omega
              ·obtain rfl:j2=L.length:=by omega
               go_wp2_with fail
               go_roundw
               case rel=>exact⟨t+1,by go_num,by omega,H31.out.1,H31.out.2⟩
               case measure=>simp[intOf];omega
            ·obtain rfl:waits=t:=by omega
             go_wp2_with fail
             go_ret
             exact⟨rfl,H29.out.1.tw.fr⟩
open Go.RowKit
theorem waits_any (w:World)(a:Option Addr)(l c:Nat)(wa ak ti wr:Int)(hx:0<l→∃ b off,a=some ⟨b,off,none⟩∧b<w.heap.size∧∀ k,k<l→∃ n:Int,w.cell? ⟨b,off+k,none⟩=some (.int .i64 n)) :
  Calls Tryz.prog 3 #[.slice a l c,.int .i64 wa,.int .i64 ak,.int .i64 ti,.int .i64 wr] w fun e w'=>e = .returned (.bool true)∧Fr [] w w':=by
 by_cases h:inR l wa ak ti wr
 ·obtain⟨wn,rfl⟩:∃ n:Nat,wa=n:=⟨wa.toNat,by have:=h.2.1;omega⟩
  obtain⟨an,rfl⟩:∃ n:Nat,ak=n:=⟨ak.toNat,by have:=h.2.2.2.1;omega⟩
  obtain⟨rn,rfl⟩:∃ n:Nat,wr=n:=⟨wr.toNat,by have:=h.2.2.2.2.2.2.2.1;omega⟩
  refine waits_in w a l c wn an rn ti ((List.range l).map fun k=>cellInt w ⟨blockOf a,offOf a+k,none⟩) (fun j x hj=>?_) (by simp) h
  have hl:j<l:=by
   have:=(List.getElem?_eq_some_iff.1 hj).1
   simpa using this
  obtain⟨b,off,rfl,hb,hc⟩:=hx (by omega)
  obtain⟨n,hn⟩:=hc j hl
  refine⟨b,off,rfl,hb,?_⟩
  simp[hl,blockOf,offOf,cellInt,hn] at hj
  rw[←hj]
  exact hn
 ·exact waits_out w a l c wa ak ti wr h
end Go.Proofs.YtjmkkcckfbnmeaaGreatDoor.Tp
