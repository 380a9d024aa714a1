/- Walks. -/
import Derived.Test.YtjmkkcckfbnmeaaGreatDoorM07
import Derived.Test.YtjmkkcckfbnmeaaGreatDoorM19
import Derived.Test.YtjmkkcckfbnmeaaGreatDoorM32
set_option maxRecDepth 100000
set_option maxHeartbeats 8000000
set_option linter.all false
open Go.Lib (hid)
namespace Go.Proofs.YtjmkkcckfbnmeaaGreatDoor.Rq
open Go.RowKit
abbrev em:ByteArray:=⟨#[]⟩
structure OpOk (o:M.Op):Prop where
 uid:M.lowS o.uid=true
 cond:M.condOk o.ck o.cv=true
 cv:o.cv≤247
 card:if o.del then o.card=em else M.card3 o.card=true
theorem op_ok {o:M.Op}(h:M.opOk o=true):OpOk o:=by
 simp only[M.opOk,Bool.and_eq_true,decide_eq_true_eq] at h
 obtain⟨⟨⟨h1,h2⟩,h3⟩,h4⟩:=h
 refine⟨h1,h2,h3,?_⟩
 cases hd:o.del with
 | true=>simpa[hd] using h4
 | false=>simpa[hd] using h4
inductive Sh:Int→ByteArray→ByteArray→ByteArray→ByteArray→Int→Int→Nat→Int→Int→Int→Prop
 | hello : Sh 1 (M.bs "ann") em em em 0 0 0 0 0 0
 | create:Sh 2 em M.home em em 0 0 0 0 0 0
 | drop:Sh 3 em M.home em em 0 0 0 0 0 0
 | put (u c:ByteArray) (ck cv:Int) (hu:M.lowS u=true) (hc:M.card3 c=true) (hk:M.condOk ck cv=true) (hv:cv≤247):Sh 4 em M.home u c ck cv 0 0 0 0
 | del (u:ByteArray) (ck cv:Int) (hu:M.lowS u=true) (hk:M.condOk ck cv=true) (hv:cv≤247):Sh 5 em M.home u em ck cv 0 0 0 0
 | get (u:ByteArray) (hu:M.lowS u=true):Sh 6 em M.home u em 0 0 0 0 0 0
 | batch (n:Nat) (h1:1≤n) (h2:n≤8):Sh 7 em M.home em em 0 0 n 0 0 0
 | delta (t m:Int) (h1:0≤t) (h2:t≤247) (h3:1≤m) (h4:m≤247):Sh 8 em M.home em em 0 0 0 t m 0
 | wait (t k:Int) (h1:0≤t) (h2:t≤247) (h3:0≤k) (h4:k≤247):Sh 9 em M.home em em 0 0 0 t 0 k
 | list:Sh 10 em em em em 0 0 0 0 0 0
theorem sh_of {q:M.Req}(h:M.reqOk q=true):Sh q.kind q.tenant q.col q.uid q.card q.ck q.cv q.ops.length q.token q.most q.ticks∧∀ o,o∈q.ops→OpOk o:=by
 unfold M.reqOk at h
 split at h
 ·have e:=of_decide_eq_true h
  rw[e];exact⟨.hello,by simp⟩
 split at h
 ·have e:=of_decide_eq_true h
  rw[e];exact⟨.create,by simp⟩
 split at h
 ·have e:=of_decide_eq_true h
  rw[e];exact⟨.drop,by simp⟩
 split at h
 ·simp only[Bool.and_eq_true,decide_eq_true_eq] at h
  obtain⟨e,ho⟩:=h
  have o:=op_ok ho
  rw[e]
  exact⟨.put _ _ _ _ o.uid (by simpa using o.card) o.cond o.cv,by simp⟩
 split at h
 ·simp only[Bool.and_eq_true,decide_eq_true_eq] at h
  obtain⟨e,ho⟩:=h
  have o:=op_ok ho
  rw[e]
  exact⟨.del _ _ _ o.uid o.cond o.cv,by simp⟩
 split at h
 ·simp only[Bool.and_eq_true,decide_eq_true_eq] at h
  obtain⟨e,hu⟩:=h
  rw[e]
  exact⟨.get _ hu,by simp⟩
 split at h
 ·simp only[Bool.and_eq_true,decide_eq_true_eq,List.all_eq_true] at h
  obtain⟨⟨e,h1,h2⟩,ho⟩:=h
  have ho':∀ o,o∈q.ops→OpOk o:=fun o hm=>op_ok (ho o hm)
  generalize q.ops=l at *
  rw[e]
  exact⟨.batch _ h1 h2,ho'⟩
 split at h
 ·simp only[Bool.and_eq_true,decide_eq_true_eq] at h
  obtain⟨e,h1,h2,h3,h4⟩:=h
  rw[e]
  exact⟨.delta _ _ h1 h2 h3 h4,by simp⟩
 split at h
 ·simp only[Bool.and_eq_true,decide_eq_true_eq] at h
  obtain⟨e,h1,h2,h3,h4⟩:=h
  rw[e]
  exact⟨.wait _ _ h1 h2 h3 h4,by simp⟩
 ·have e:=of_decide_eq_true h
  rw[e];exact⟨.list,by simp⟩
abbrev rqv (k:Int)(t c u d:ByteArray)(ck cv:Int)(v:Value)(tk ms tc:Int):List Value:=[.int .i64 k,.string t,.string c,.string u,.string d,.int .i64 ck,.int .i64 cv,v,.int .i64 tk,.int .i64 ms,.int .i64 tc]
def has9 (k:Int):List Bool :=
 if k=1 then [true,false,false,false,false,false,false,false,false]
 else if k=2 then [false,true,false,false,false,false,false,false,false]
 else if k=3 then [false,true,false,false,false,false,false,false,false]
 else if k=4 then [false,true,true,true,true,false,false,false,false]
 else if k=5 then [false,true,true,false,true,false,false,false,false]
 else if k=6 then [false,true,true,false,false,false,false,false,false]
 else if k=7 then [false,true,false,false,false,true,false,false,false]
 else if k=8 then [false,true,false,false,false,false,true,true,false]
 else if k=9 then [false,true,false,false,false,false,true,false,true]
 else [false,false,false,false,false,false,false,false,false]
def flC (k:Int):List Value:=(has9 k).map Value.bool
theorem is_any (w:World)(k:Int)(h0:1≤k)(h1:k≤10):Calls Tryz.prog 136 #[.int .i64 k] w fun e w'=>e = .returned (.bool true)∧w=w':=by
 have d1:decide (k ≥ 1)=true:=decide_eq_true h0
 have d2:decide (k≤11)=true:=decide_eq_true (by omega)
 go_enter Tryz.func136,Tryz.ntmps136
 go_wp2_with (fail)
 go_ret
 exact⟨rfl,rfl⟩
theorem ret_fields (W:World)(tmps:Array Value)(g:Nat)(a b c d e f i j l:Value)(hp:Holds W g 224 #[a,b,c,d,e,f,i,j,l])(h2:tmps[2]?.getD undef = .pointer (some ⟨g,0,none⟩)) :
  (results Tryz.f137 tmps).run Tryz.prog W = .ok (.agg #[a,b,c,d,e,f,i,j,l]) W:=by
 have hr:Tryz.f137.results=#[.cell 2 224]:=rfl
 obtain⟨q0,q1,q2,q3,q4,q5,q6,q7,q8⟩:=hp.cs9
 simp at q0 q1 q2 q3 q4 q5 q6 q7 q8
 simp[results,h2,go_sem,q0,q1,q2,q3,q4,q5,q6,q7,q8]
theorem fields_any (w:World)(k:Int)(h0:1≤k)(h1:k≤10):Calls Tryz.prog 137 #[.int .i64 k] w fun e w'=>e = .returned (.agg (flC k).toArray)∧Fr [] w w':=by
 obtain rfl|rfl|rfl|rfl|rfl|rfl|rfl|rfl|rfl|rfl:k=1∨k=2∨k=3∨k=4∨k=5∨k=6∨k=7∨k=8∨k=9∨k=10:=by omega
 all_goals
  go_enter Tryz.func137,Tryz.ntmps137
  go_wp2_with (fail)
  exact bodyPost_ret (ret_fields _ _ w.heap.size _ _ _ _ _ _ _ _ _ (Holds.new w _ _) rfl) rfl ⟨rfl,(Fr.refl _ _).alloc _⟩
theorem op_cells {w:World}{B:Nat}{a:Option Addr}{cap n:Nat}{l:List M.Op}(h:Own w B 49 5 (.slice a n cap) n (flat Lp.cs l))(hn:n=l.length){k:Nat}{x:M.Op}(hx:l[k]? = some x) :
  ∃ g,a=some ⟨g,0,none⟩∧g<w.heap.size∧w.cell? ⟨g,k*5,none⟩=some (.bool x.del)∧w.cell? ⟨g,k*5+1,none⟩=some (.string x.uid)∧w.cell? ⟨g,k*5+2,none⟩=some (.string x.card)∧w.cell? ⟨g,k*5+3,none⟩=some (.int .i64 x.ck)∧w.cell? ⟨g,k*5+4,none⟩=some (.int .i64 x.cv):=by
 obtain⟨g,c,hg,hv,hr,hgl,hcell⟩:=h.cell Lp.cs_len hn hx
 cases hv
 exact⟨g,rfl,hgl,hcell 0 _ (by omega) rfl,hcell 1 _ (by omega) rfl,hcell 2 _ (by omega) rfl,hcell 3 _ (by omega) rfl,hcell 4 _ (by omega) rfl⟩
abbrev Ops (w:World)(B:Nat)(a:Option Addr)(n cap:Nat)(l:List M.Op):Prop:=Own w B 49 5 (.slice a n cap) n (flat Lp.cs l)
theorem stray_any (w:World)(B n cap:Nat)(k:Int)(t c u d:ByteArray)(ck cv tk ms tc:Int)(a:Option Addr)(l:List M.Op)(hs:Sh k t c u d ck cv n tk ms tc)(ho:Ops w B a n cap l)(hn:n=l.length)(hop:∀ o,o∈l→OpOk o) :
  Calls Tryz.prog 147 #[.agg (rqv k t c u d ck cv (.slice a n cap) tk ms tc).toArray,.agg (flC k).toArray] w fun e w'=>e = .returned (.bool false)∧Fr [] w w':=by
 have f0:Fr [] w ((w.alloc (.cells (rqv k t c u d ck cv (.slice a n cap) tk ms tc).toArray 41)).alloc (.cells (flC k).toArray 224)):=((Fr.refl _ _).alloc _).alloc _
 have HO:=hid ho
 have HP:=hid hop
 have HN:=hid hn
 clear ho hop
 have hn8:(n:Int)≤8∧(k=7∨n=0):=by cases hs<;>simp<;>omega
 have hn8':=hn8.1
 clear hn8 f0
 cases hs
 all_goals
  clear hn
  simp only[flC,has9,Int.reduceEq,if_true,if_false,List.map]
  go_enter Tryz.func147,Tryz.ntmps147
  go_wp2_with (fail)
  go_loopw [98] (fun i wr=>∃ k:Nat,i = .int .i64 k∧k≤l.length∧Fr [] w wr) (fun i _=>l.length - (intOf i).toNat)
  case atStart=>exact⟨0,rfl,Nat.zero_le _,((Fr.refl _ _).alloc _).alloc _⟩
  case round =>
   obtain⟨k,rfl,hk,fr⟩:=hrel
   by_cases hlt:k<l.length
   ·have hx:l[k]? = some l[k]:=List.getElem?_eq_getElem hlt
    obtain⟨x,hx'⟩:∃ x,l[k]=x:=⟨_,rfl⟩
    rw[hx'] at hx
    have okx:=HP.out x (List.mem_of_getElem? hx)
    obtain⟨g,rfl,hgl,z0,z1,z2,z3,z4⟩:=op_cells (HO.out.fr0 fr) HN.out hx
    have hN:=HN.out
    have hcard:=okx.card
    clear hx hx' okx HP
    first
     | (exfalso;omega)
     | (have hk1:(k:Int)<(n:Int):=by omega
        clear hN
        cases hd:x.del with
        | true =>
         rw[hd] at hcard z0
         simp only[if_true] at hcard
         rw[hcard] at z2
         go_wp2_with (fail)
         go_roundw
         case rel=>exact⟨k+1,by go_num,by omega,fr.trans ((Fr.refl _ _).alloc _)⟩
         case measure=>simp[intOf];omega
        | false =>
         rw[hd] at z0
         clear hcard
         go_wp2_with (fail)
         go_roundw
         case rel=>exact⟨k+1,by go_num,by omega,fr.trans ((Fr.refl _ _).alloc _)⟩
         case measure=>simp[intOf];omega)
   ·have hN:=HN.out
    first
     | (have hk1:¬ (k:Int)<0:=by omega
        clear hN
        go_wp2_with (fail)
        go_ret
        exact⟨rfl,fr⟩)
     | (have hk1:¬ (k:Int)<(n:Int):=by omega
        clear hN
        go_wp2_with (fail)
        go_ret
        exact⟨rfl,fr⟩)
theorem ann_low : Id.lowS (M.bs "ann") = true := by decide +kernel
theorem home_low:Id.lowS M.home=true:=by decide +kernel
theorem named_any (w:World)(B n cap:Nat)(k:Int)(t c u d:ByteArray)(ck cv tk ms tc:Int)(a:Option Addr)(l:List M.Op)(hs:Sh k t c u d ck cv n tk ms tc)(ho:Ops w B a n cap l)(hn:n=l.length)(hop:∀ o,o∈l→OpOk o) :
  Calls Tryz.prog 148 #[.agg (rqv k t c u d ck cv (.slice a n cap) tk ms tc).toArray,.agg (flC k).toArray] w fun e w'=>e = .returned (.bool true)∧Fr [] w w':=by
 have HO:=hid ho
 have HP:=hid hop
 have HN:=hid hn
 clear ho hop
 have hn8:(n:Int)≤8:=by cases hs<;>omega
 cases hs
 all_goals
  clear hn
  simp only[flC,has9,Int.reduceEq,if_true,if_false,List.map]
  go_enter Tryz.func148,Tryz.ntmps148
  go_wp2_with (first
   | (go_at_call 159;refine(Id.name_low _ _ (by first|exact ann_low|exact home_low)).mono ?_;rintro e w' ⟨rfl,rfl⟩)
   | (go_at_call 192;refine(Id.uid_low _ _ (by assumption)).mono ?_;rintro e w' ⟨rfl,rfl⟩))
  go_loopw [38] (fun i wr=>∃ k:Nat,i = .int .i64 k∧k≤l.length∧Fr [] w wr) (fun i _=>l.length - (intOf i).toNat)
  case atStart=>exact⟨0,rfl,Nat.zero_le _,((Fr.refl _ _).alloc _).alloc _⟩
  case round =>
   obtain⟨k,rfl,hk,fr⟩:=hrel
   by_cases hlt:k<l.length
   ·have hx:l[k]? = some l[k]:=List.getElem?_eq_getElem hlt
    obtain⟨x,hx'⟩:∃ x,l[k]=x:=⟨_,rfl⟩
    rw[hx'] at hx
    have hux:=(HP.out x (List.mem_of_getElem? hx)).uid
    obtain⟨g,rfl,hgl,z0,z1,z2,z3,z4⟩:=op_cells (HO.out.fr0 fr) HN.out hx
    have hN:=HN.out
    have HU:=hid hux
    clear hx hx' HP hux
    first
     | (exfalso;omega)
     | (have hk1:(k:Int)<(n:Int):=by omega
        clear hN
        go_wp2_with (fail)
        refine(Id.uid_low _ _ HU.out).mono ?_
        rintro e w' ⟨rfl,rfl⟩
        go_wp2_with (fail)
        go_roundw
        case rel=>exact⟨k+1,by go_num,by omega,fr.trans ((Fr.refl _ _).alloc _)⟩
        case measure=>simp[intOf];omega)
   ·have hN:=HN.out
    first
     | (have hk1:¬ (k:Int)<0:=by omega
        clear hN
        go_wp2_with (fail)
        go_ret
        exact⟨rfl,fr⟩)
     | (have hk1:¬ (k:Int)<(n:Int):=by omega
        clear hN
        go_wp2_with (fail)
        go_ret
        exact⟨rfl,fr⟩)
theorem formed_any (w:World)(B n cap:Nat)(k:Int)(t c u d:ByteArray)(ck cv tk ms tc:Int)(a:Option Addr)(l:List M.Op)(hs:Sh k t c u d ck cv n tk ms tc)(ho:Ops w B a n cap l)(hn:n=l.length)(hop:∀ o,o∈l→OpOk o) :
  Calls Tryz.prog 149 #[.agg (rqv k t c u d ck cv (.slice a n cap) tk ms tc).toArray,.agg (flC k).toArray] w fun e w'=>e = .returned (.bool true)∧Fr [] w w':=by
 have HO:=hid ho
 have HP:=hid hop
 have HN:=hid hn
 clear ho hop
 have b1:Holds ((w.alloc (.cells (rqv k t c u d ck cv (.slice a n cap) tk ms tc).toArray 41)).alloc (.cells (flC k).toArray 224)) w.heap.size 41 (rqv k t c u d ck cv (.slice a n cap) tk ms tc).toArray:=(Holds.new _ _ _).alloc _
 have b2:Holds ((w.alloc (.cells (rqv k t c u d ck cv (.slice a n cap) tk ms tc).toArray 41)).alloc (.cells (flC k).toArray 224)) (w.heap.size+1) 224 (flC k).toArray:=at_new (by simp)
 have F1:Fr [] w ((w.alloc (.cells (rqv k t c u d ck cv (.slice a n cap) tk ms tc).toArray 41)).alloc (.cells (flC k).toArray 224)):=((Fr.refl _ _).alloc _).alloc _
 have hn8:(n:Int)≤8:=by cases hs<;>omega
 cases hs
 all_goals
  clear hn
  simp only[flC,has9,Int.reduceEq,if_true,if_false,List.map] at b1 b2 F1 ⊢
  have b1:=hid b1
  have b2:=hid b2
  have F1:=hid F1
  go_enter Tryz.func149,Tryz.ntmps149
  go_wp2_with (first
   | (go_at_call 193;refine(Fd.is_any _ _ (by assumption)).mono ?_;rintro e w2 ⟨rfl,f2⟩;have b1:=hid (b1.out.fr f2 (by simp));have b2:=hid (b2.out.fr f2 (by simp));have F1:=hid (F1.out.trans f2);have c5:=b1.out.cell 5;have c6:=b1.out.cell 6;have c7:=b1.out.cell 7;have d4:=b2.out.cell 4;simp at c5 c6 c7 d4)
   | (go_at_call 194;refine(Et.may_any _ _ _).mono ?_;rintro e w3 ⟨rfl,f3⟩;have hcd:=(show Et.condOk _ _=true from by assumption);rw[hcd];have b1:=hid (b1.out.fr f3 (by simp));have F1:=hid (F1.out.trans f3);have c7:=b1.out.cell 7;simp at c7))
  go_loopw [28] (fun i wr=>∃ k:Nat,i = .int .i64 k∧k≤l.length∧Fr [] w wr) (fun i _=>l.length - (intOf i).toNat)
  case atStart=>exact⟨0,rfl,Nat.zero_le _,F1.out⟩
  case round =>
   obtain⟨k,rfl,hk,fr⟩:=hrel
   clear b1 b2 F1
   try clear c5
   try clear c6
   try clear c7
   try clear d4
   by_cases hlt:k<l.length
   ·have hx:l[k]? = some l[k]:=List.getElem?_eq_getElem hlt
    obtain⟨x,hx'⟩:∃ x,l[k]=x:=⟨_,rfl⟩
    rw[hx'] at hx
    have okx:=HP.out x (List.mem_of_getElem? hx)
    obtain⟨g,rfl,hgl,z0,z1,z2,z3,z4⟩:=op_cells (HO.out.fr0 fr) HN.out hx
    have hN:=HN.out
    have hcard:=okx.card
    have HCD:=hid (show Et.condOk x.ck x.cv=true from okx.cond)
    clear hx hx' HP okx
    first
     | (exfalso;omega)
     | (have hk1:(k:Int)<(n:Int):=by omega
        clear hN
        have b3:=hid (Holds.new wr 49 (Lp.cs x).toArray)
        cases hd:x.del with
        | true =>
         rw[hd] at z0
         clear hcard
         go_wp2_with (fail)
         refine(Et.may_any _ _ _).mono ?_
         rintro e w3 ⟨rfl,f3⟩
         rw[HCD.out]
         go_wp2_with (fail)
         go_roundw
         case rel=>exact⟨k+1,by go_num,by omega,(fr.trans ((Fr.refl _ _).alloc _)).trans f3⟩
         case measure=>simp[intOf];omega
        | false =>
         rw[hd] at hcard z0
         simp only[Bool.false_eq_true,if_false] at hcard
         have HCA:=hid hcard
         clear hcard
         go_wp2_with (fail)
         refine(Fd.is_any _ _ HCA.out).mono ?_
         rintro e w2 ⟨rfl,f2⟩
         have f2':Fr [] (wr.alloc (.cells (Lp.cs x).toArray 49)) w2:=by
          simp only[Lp.cs,hd]
          exact f2
         have b4:=b3.out.fr f2' (by simp)
         have c3:=b4.cell 3
         have c4:=b4.cell 4
         simp[Lp.cs] at c3 c4
         clear z0 z1 z2 z3 z4 b4
         go_wp2_with (fail)
         refine(Et.may_any _ _ _).mono ?_
         rintro e w3 ⟨rfl,f3⟩
         rw[HCD.out]
         go_wp2_with (fail)
         go_roundw
         case rel=>exact⟨k+1,by go_num,by omega,((fr.trans ((Fr.refl _ _).alloc _)).trans f2).trans f3⟩
         case measure=>simp[intOf];omega)
   ·have hN:=HN.out
    first
     | (have hk1:¬ (k:Int)<0:=by omega
        clear hN
        go_wp2_with (fail)
        go_ret
        exact⟨rfl,fr⟩)
     | (have hk1:¬ (k:Int)<(n:Int):=by omega
        clear hN
        go_wp2_with (fail)
        go_ret
        exact⟨rfl,fr⟩)
theorem sh_kind {k:Int}{t c u d:ByteArray}{ck cv tk ms tc:Int}{n:Nat}(hs:Sh k t c u d ck cv n tk ms tc):1≤k∧k≤10:=by cases hs<;>omega
theorem checkv_any (w:World)(B n cap:Nat)(k:Int)(t c u d:ByteArray)(ck cv tk ms tc:Int)(a:Option Addr)(l:List M.Op)(hs:Sh k t c u d ck cv n tk ms tc)(ho:Ops w B a n cap l)(hn:n=l.length)(hop:∀ o,o∈l→OpOk o) :
  Calls Tryz.prog 105 #[.agg (rqv k t c u d ck cv (.slice a n cap) tk ms tc).toArray] w fun e w'=>e = .returned (.int .i64 0)∧Fr [] w w':=by
 have HI:=hid (fun W=>is_any W k (sh_kind hs).1 (sh_kind hs).2)
 have HL:=hid (fun W=>fields_any W k (sh_kind hs).1 (sh_kind hs).2)
 have HS:=hid (fun W (f:Fr [] w W)=>stray_any W B n cap k t c u d ck cv tk ms tc a l hs (ho.fr0 f) hn hop)
 have HM:=hid (fun W (f:Fr [] w W)=>named_any W B n cap k t c u d ck cv tk ms tc a l hs (ho.fr0 f) hn hop)
 have HF:=hid (fun W (f:Fr [] w W)=>formed_any W B n cap k t c u d ck cv tk ms tc a l hs (ho.fr0 f) hn hop)
 clear hn hop ho
 cases hs
 all_goals
  simp only[flC,has9,Int.reduceEq,if_true,if_false,List.map] at HL HS HM HF
  go_enter Tryz.func105,Tryz.ntmps105
  go_wp2_with (fail)
  refine(HI.out _).mono ?_
  rintro e w2 ⟨rfl,rfl⟩
  go_wp2_with (fail)
  refine(HL.out _).mono ?_
  rintro e w2 ⟨rfl,f2⟩
  have F2:=hid (((Fr.refl [] w).alloc _).trans f2)
  have b1:=(Holds.new w 41 _).fr f2 (by simp)
  have b0:=hid b1
  obtain⟨d0,d1,d2,d3,d4,d5,d6,d7,d8,d9,d10⟩:=b1.cs11
  have l1:=b1.lt
  simp at d0 d1 d2 d3 d4 d5 d6 d7 d8 d9 d10
  clear b1
  go_wp2_with (fail)
  refine(HS.out _ (F2.out.alloc _)).mono ?_
  rintro e w3 ⟨rfl,f3⟩
  have F3:=hid ((F2.out.alloc _).trans f3)
  have b0:=hid ((b0.out.alloc _).fr f3 (by simp))
  have e0:=hid ((Holds.new w2 224 _).fr f3 (by simp))
  clear d0 d1 d2 d3 d4 d5 d6 d7 d8 d9 d10
  obtain⟨d0,d1,d2,d3,d4,d5,d6,d7,d8,d9,d10⟩:=b0.out.cs11
  obtain⟨h0,h1,h2,h3,h4,h5,h6,h7,h8⟩:=e0.out.cs9
  simp at d0 d1 d2 d3 d4 d5 d6 d7 d8 d9 d10 h0 h1 h2 h3 h4 h5 h6 h7 h8
  go_wp2_with (fail)
  refine(HM.out _ F3.out).mono ?_
  rintro e w4 ⟨rfl,f4⟩
  have F4:=hid (F3.out.trans f4)
  have b0:=hid (b0.out.fr f4 (by simp))
  have e0:=hid (e0.out.fr f4 (by simp))
  clear d0 d1 d2 d3 d4 d5 d6 d7 d8 d9 d10 h0 h1 h2 h3 h4 h5 h6 h7 h8
  obtain⟨d0,d1,d2,d3,d4,d5,d6,d7,d8,d9,d10⟩:=b0.out.cs11
  obtain⟨h0,h1,h2,h3,h4,h5,h6,h7,h8⟩:=e0.out.cs9
  simp at d0 d1 d2 d3 d4 d5 d6 d7 d8 d9 d10 h0 h1 h2 h3 h4 h5 h6 h7 h8
  go_wp2_with (fail)
  refine(HF.out _ F4.out).mono ?_
  rintro e w5 ⟨rfl,f5⟩
  have F5:=hid (F4.out.trans f5)
  have b0:=hid (b0.out.fr f5 (by simp))
  have e0:=hid (e0.out.fr f5 (by simp))
  clear d0 d1 d2 d3 d4 d5 d6 d7 d8 d9 d10 h0 h1 h2 h3 h4 h5 h6 h7 h8
  have d7:=b0.out.cell 7
  have d8:=b0.out.cell 8
  have d9:=b0.out.cell 9
  have d10:=b0.out.cell 10
  have h5:=e0.out.cell 5
  have h7:=e0.out.cell 7
  simp at d7 d8 d9 d10 h5 h7
  first
   | (go_wp2_with (fail)
      go_ret
      exact⟨rfl,F5.out⟩)
   | (have k1:decide ((n:Int)<1)=false:=decide_eq_false (by omega)
      have k2:decide ((n:Int) > 8)=false:=decide_eq_false (by omega)
      go_wp2_with (fail)
      go_ret
      exact⟨rfl,F5.out⟩)
   | (rename_i k1 k2 k3 k4
      have g1:=decide_eq_false (show ¬ tk<0 by omega)
      have g2:=decide_eq_false (show ¬ ms<1 by omega)
      have g3:=decide_eq_false (show ¬ ms > 1000 by omega)
      go_wp2_with (fail)
      go_ret
      exact⟨rfl,F5.out⟩)
   | (have g1:=decide_eq_false (show ¬ tk<0 by omega)
      have g2:=decide_eq_false (show ¬ tc<0 by omega)
      have g3:=decide_eq_false (show ¬ tc > 1048576 by omega)
      go_wp2_with (fail)
      go_ret
      exact⟨rfl,F5.out⟩)
end Go.Proofs.YtjmkkcckfbnmeaaGreatDoor.Rq
