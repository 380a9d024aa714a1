/- Walks. -/
import Derived.Test.YtjmkkcckfbnmeaaGreatDoorM47
set_option maxRecDepth 100000
set_option maxHeartbeats 8000000
set_option linter.all false
namespace Go.Proofs.YtjmkkcckfbnmeaaGreatDoor.Tp
open Go.RowKit Cr Sv Pr Hi
theorem home_eq:M.home=⟨#[104,111,109,101]⟩:=by decide +kernel
theorem cells_put:(Ev.rqc M.rPut (.slice none 0 0)).toArray=#[.int .i64 4,.string ⟨#[]⟩,.string ⟨#[104,111,109,101]⟩,.string ⟨#[97]⟩,.string ⟨#[110,97,109,101,58,65,110,110,10]⟩,.int .i64 0,.int .i64 0,.slice none 0 0,.int .i64 0,.int .i64 0,.int .i64 0]:=by kernel_rfl
theorem frame_put (w:World):Calls Tryz.prog 9 #[.agg #[.int .i64 4,.string ⟨#[]⟩,.string ⟨#[104,111,109,101]⟩,.string ⟨#[97]⟩,.string ⟨#[110,97,109,101,58,65,110,110,10]⟩,.int .i64 0,.int .i64 0,.slice none 0 0,.int .i64 0,.int .i64 0,.int .i64 0]] w fun e w'=>e = .returned (.string (En.bytesOf (En.reqF M.rPut)))∧Fr [] w w':=by
 rw[←cells_put]
 exact frame_nil w _ (by decide +kernel) rfl
def opened (i:Nat):M.Srv:={ core:=M.core0,conns:=List.replicate i { todo:=[M.hello] } }
theorem opened_send (i:Nat):M.Srv.send { (opened i) with conns:=(opened i).conns++[{}] } i [M.hello]=opened (i+1):=by
 unfold M.Srv.send opened
 simp only[List.getElem?_append_right,List.length_replicate,Nat.le_refl,Nat.sub_self,List.getElem?_cons_zero]
 rw[List.set_append_right _ _ (by simp)]
 simp[List.replicate_succ']
theorem opened_at (n:Nat)(h:0<n):(opened n).conns[0]? = some { todo:=[M.hello] }:=by
 simp[opened,List.getElem?_replicate,h]
theorem opened_sent (n:Nat)(h:0<n)(q:List M.Req):((opened n).send 0 q).conns.length=n∧((opened n).send 0 q).events.length=0:=by
 unfold M.Srv.send
 rw[opened_at n h]
 simp[opened]
theorem start_facts (n:Nat)(h1:2≤n)(h2:n≤10):M.mayPick (M.start n) 0=true∧(M.start n).can 0=false∧(M.start n).events.length≤100∧∀ c∈(M.start n).conns,c.state=1∧c.todo=[]:=by
 have:∀ m:Fin 11,2≤m.val→(M.mayPick (M.start m.val) 0&&!(M.start m.val).can 0&&decide ((M.start m.val).events.length≤100)&&(M.start m.val).conns.all fun c=>decide (c.state=1)&&c.todo.isEmpty)=true:=by decide +kernel
 have h:=this ⟨n,by omega⟩ h1
 simp only[Bool.and_eq_true,decide_eq_true_eq,List.all_eq_true,Bool.not_eq_true',List.isEmpty_iff] at h
 exact⟨h.1.1.1,h.1.1.2,h.1.2,h.2⟩
def askedTo (n waits:Nat)(ticks:Int)(j:Nat):M.Srv:=(List.range j).foldl (fun s i=>s.send (i+1) [M.ask waits ticks (i+1)]) (M.start n)
theorem askedTo_succ (n waits:Nat)(ticks:Int)(j:Nat):askedTo n waits ticks (j+1)=(askedTo n waits ticks j).send (j+1) [M.ask waits ticks (j+1)]:=by
 simp[askedTo,List.range_succ]
theorem askedTo_at {n waits:Nat}{ticks:Int}{j:Nat}(h1:2≤n)(h2:n≤10)(hj:j+1<n):∃ m,(askedTo n waits ticks j).conns[j+1]? = some m∧m.state≠4∧m.todo=[]:=by
 have hlen:(M.start n).conns.length=n:=by
  have:=M.start_ok n h1 h2
  simp only[M.startOk,Bool.and_eq_true,decide_eq_true_eq] at this
  exact this.1.2
 obtain⟨_,_,_,b4⟩:=M.sends waits ticks (M.start n) j
 have h0:(M.start n).conns[j+1]? = some (M.start n).conns[j+1]:=List.getElem?_eq_getElem (by omega)
 have h3:=b4 (j+1) _ h0
 rw[if_neg (by omega)] at h3
 have hc:=(start_facts n h1 h2).2.2.2 _ (List.getElem_mem (by omega:j+1<(M.start n).conns.length))
 exact⟨_,h3,by rw[hc.1];decide,hc.2⟩
theorem askedTo_at0 {n waits:Nat}{ticks:Int}{j:Nat}(h1:2≤n)(h2:n≤10):∃ m,(askedTo n waits ticks j).conns[0]? = some m∧m.state≠4∧m.todo=[]:=by
 have hlen:(M.start n).conns.length=n:=by
  have:=M.start_ok n h1 h2
  simp only[M.startOk,Bool.and_eq_true,decide_eq_true_eq] at this
  exact this.1.2
 obtain⟨_,_,_,b4⟩:=M.sends waits ticks (M.start n) j
 have h0:(M.start n).conns[0]? = some (M.start n).conns[0]:=List.getElem?_eq_getElem (by omega)
 have h3:=b4 0 _ h0
 rw[if_neg (by omega)] at h3
 have hc:=(start_facts n h1 h2).2.2.2 _ (List.getElem_mem (by omega:0<(M.start n).conns.length))
 exact⟨_,h3,by rw[hc.1];decide,hc.2⟩
theorem askedTo_ev (n waits:Nat)(ticks:Int)(j:Nat):(askedTo n waits ticks j).events=(M.start n).events:=(M.sends waits ticks (M.start n) j).2.1
theorem info_req:(Tryz.prog.info? 41).map (·.size)=some 11:=by kernel_rfl
structure RqAt (w:World)(B N:Nat)(q:M.Req)(v:Value):Prop where
 cell:Holds w N 41 (Ev.rqc q v).toArray
 ops:Ev.OpsAt w B v q.ops
 nil:q.kind≠7→v = .slice none 0 0
theorem wr_0 (n:Nat)(h:n≠1∧n≠2∧n≠3)(v:Value):(Ev.rqc (M.wr n) v).toArray=#[.int .i64 4,.string ⟨#[]⟩,.string ⟨#[104,111,109,101]⟩,.string ⟨#[98]⟩,.string ⟨#[110,97,109,101,58,66,111,98,10]⟩,.int .i64 0,.int .i64 0,v,.int .i64 0,.int .i64 0,.int .i64 0]∧(M.wr n).ops=[]:=by
 have e : M.wr n = { kind := 4, col := M.home, uid := M.bs "b", card := M.bob } := by
  unfold M.wr
  split
  ·exact absurd rfl h.1
  ·exact absurd rfl h.2.1
  ·exact absurd rfl h.2.2
  ·rfl
 rw[e, home_eq, show M.bs "b" = ⟨#[98]⟩ by decide +kernel, show M.bob = ⟨#[110, 97, 109, 101, 58, 66, 111, 98, 10]⟩ by decide +kernel]
 exact⟨rfl,rfl⟩
theorem wr_1 (v:Value):(Ev.rqc (M.wr 1) v).toArray=#[.int .i64 7,.string ⟨#[]⟩,.string ⟨#[104,111,109,101]⟩,.string ⟨#[]⟩,.string ⟨#[]⟩,.int .i64 0,.int .i64 0,v,.int .i64 0,.int .i64 0,.int .i64 0]∧flat Lp.cs (M.wr 1).ops=[.bool false,.string ⟨#[98]⟩,.string ⟨#[110,97,109,101,58,66,111,98,10]⟩,.int .i64 0,.int .i64 0,.bool true,.string ⟨#[97]⟩,.string ⟨#[]⟩,.int .i64 0,.int .i64 0,.bool false,.string ⟨#[99]⟩,.string ⟨#[110,97,109,101,58,67,121,10]⟩,.int .i64 0,.int .i64 0]:=by
 have e : M.wr 1 = { kind := 7, col := M.home, ops := [⟨false, M.bs "b", M.bob, 0, 0⟩, ⟨true, M.bs "a", ⟨#[]⟩, 0, 0⟩, ⟨false, M.bs "c", M.cy, 0, 0⟩] } := rfl
 rw[e, home_eq, show M.bs "b" = ⟨#[98]⟩ by decide +kernel, show M.bs "a" = ⟨#[97]⟩ by decide +kernel, show M.bs "c" = ⟨#[99]⟩ by decide +kernel, show M.bob = ⟨#[110, 97, 109, 101, 58, 66, 111, 98, 10]⟩ by decide +kernel, show M.cy = ⟨#[110, 97, 109, 101, 58, 67, 121, 10]⟩ by decide +kernel]
 exact⟨rfl,rfl⟩
theorem wr_2 (v:Value):(Ev.rqc (M.wr 2) v).toArray=#[.int .i64 5,.string ⟨#[]⟩,.string ⟨#[104,111,109,101]⟩,.string ⟨#[97]⟩,.string ⟨#[]⟩,.int .i64 0,.int .i64 0,v,.int .i64 0,.int .i64 0,.int .i64 0]∧(M.wr 2).ops=[]:=by
 have e : M.wr 2 = { kind := 5, col := M.home, uid := M.bs "a" } := rfl
 rw[e, home_eq, show M.bs "a" = ⟨#[97]⟩ by decide +kernel]
 exact⟨rfl,rfl⟩
theorem wr_3 (v:Value):(Ev.rqc (M.wr 3) v).toArray=#[.int .i64 3,.string ⟨#[]⟩,.string ⟨#[104,111,109,101]⟩,.string ⟨#[]⟩,.string ⟨#[]⟩,.int .i64 0,.int .i64 0,v,.int .i64 0,.int .i64 0,.int .i64 0]∧(M.wr 3).ops=[]:=by
 have e:M.wr 3={ kind:=3,col:=M.home }:=rfl
 rw[e,home_eq]
 exact⟨rfl,rfl⟩
theorem ask_le {waits:Nat}{ticks:Int}{k:Nat}(h:k≤waits):M.ask waits ticks k={ kind:=9,col:=⟨#[104,111,109,101]⟩,token:=2,ticks:=ticks }:=by
 unfold M.ask
 rw[if_neg (by omega),home_eq]
theorem ask_1 {waits:Nat}{ticks:Int}{k:Nat}(h:k=waits+1):M.ask waits ticks k={ kind:=6,col:=⟨#[104,111,109,101]⟩,uid:=⟨#[97]⟩ }:=by
 unfold M.ask
 rw[if_pos (by omega), show (k - waits) % 4 = 1 by omega, home_eq, show M.bs "a" = ⟨#[97]⟩ by decide +kernel]
 rfl
theorem ask_2 {waits:Nat}{ticks:Int}{k:Nat}(h:k=waits+2):M.ask waits ticks k={ kind:=10 }:=by
 unfold M.ask
 rw[if_pos (by omega),show (k - waits) % 4=2 by omega]
 rfl
theorem ask_3 {waits:Nat}{ticks:Int}{k:Nat}(h:k=waits+3):M.ask waits ticks k={ kind:=9,col:=⟨#[104,111,109,101]⟩ }:=by
 unfold M.ask
 rw[if_pos (by omega),show (k - waits) % 4=3 by omega,home_eq]
 rfl
theorem ask_4 {waits:Nat}{ticks:Int}{k:Nat}(h:k=waits+4):M.ask waits ticks k={ kind:=8,col:=⟨#[104,111,109,101]⟩,most:=3 }:=by
 unfold M.ask
 rw[if_pos (by omega),show (k - waits) % 4=0 by omega,home_eq]
 rfl
theorem frame_q (w:World)(q:M.Req)(hq:M.reqOk q=true)(ho:q.ops=[])(C:Array Value)(hC:(Ev.rqc q (.slice none 0 0)).toArray=C):Calls Tryz.prog 9 #[.agg C] w fun e w'=>e = .returned (.string (En.bytesOf (En.reqF q)))∧Fr [] w w':=hC ▸ frame_nil w q hq ho
structure PF (P:M.Par)(n:Nat):Prop where
 ok:P.Ok
 ticks:P.ticks≤200
 n10:P.n≤10
 eq:P.n=n
structure Tr (w W:World)(Z g xp:Nat)(ks:List (Nat × Array Value))(P:M.Par)(now:Int)(s:M.Srv)(E:Nat):Prop where
 tw:Tw w W Z g xp ks s
 rch:M.Reach P now s
 ev:s.events.length≤E
section
variable {w W W':World} {Z g xp n E:Nat} {ks:List (Nat × Array Value)} {P:M.Par} {now:Int} {s:M.Srv}
theorem Tr.fr0 (h:Tr w W Z g xp ks P now s E)(hf:Fr [] W W'):Tr w W' Z g xp ks P now s E:=⟨h.tw.fr0 hf,h.rch,h.ev⟩
theorem Tr.len (h:Tr w W Z g xp ks P now s E)(hP:PF P n):s.conns.length=n:=by rw[M.reach_len h.rch,hP.eq]
theorem tr_pick (h:Tr w W Z g xp ks P now s E)(hP:PF P n)(hZ:w.heap.size=Z)(n0:0≤now)(n1:now≤1000)(i:Nat)(hi:i<n)(hE:E≤90000) :
  Calls Tryz.prog 14 #[.pointer (some ⟨g,0,none⟩),.int .i64 i] W fun e w'=>(∃ b,e = .returned (.bool b))∧Tr w w' Z g xp ks P now (s.pick i) (E+2):=by
 obtain⟨h1,h2⟩:=M.reach_pick hP.ok hP.ticks hP.n10 n0 n1 h.rch (k:=i) (by rw[hP.eq];exact hi)
 have he:=h.ev
 refine(tw_pick h.tw hZ i (by rw[h.len hP];exact hi) h1 (by omega)).mono ?_
 rintro e w' ⟨rfl,h3⟩
 exact⟨⟨_,rfl⟩,h3,h2,by have:=(pick_len s i).1;omega⟩
theorem tr_rounds (h:Tr w W Z g xp ks P now s E)(hP:PF P n)(hZ:w.heap.size=Z)(n0:0≤now)(n1:now≤1000)(t:Nat)(ht:t≤100)(hE:E≤80000) :
  Calls Tryz.prog 10 #[.pointer (some ⟨g,0,none⟩),.int .i64 n,.int .i64 t] W fun e w'=>e = .returned (.tuple #[])∧Tr w w' Z g xp ks P now (M.rounds s n t) (E+20*t):=by
 obtain⟨h1,h2⟩:=M.reach_rounds hP.ok hP.ticks hP.n10 n0 n1 t h.rch
 rw[hP.eq] at h1 h2
 have he:=h.ev
 have hn:n≤10:=by rw[←hP.eq];exact hP.n10
 refine(tw_rounds h.tw hZ n t (h.len hP) hn ht h1 (by omega)).mono ?_
 rintro e w' ⟨rfl,h3,_,h4⟩
 exact⟨rfl,h3,h2,by omega⟩
theorem tr_can (h:Tr w W Z g xp ks P now s E)(hP:PF P n)(n0:0≤now)(n1:now≤1000)(i:Nat)(hi:i<n) :
  Calls Tryz.prog 12 #[.pointer (some ⟨g,0,none⟩),.int .i64 i] W fun e w'=>e = .returned (.bool (s.can i))∧Tr w w' Z g xp ks P now s E:=by
 obtain⟨h1,_⟩:=M.reach_pick hP.ok hP.ticks hP.n10 n0 n1 h.rch (k:=i) (by rw[hP.eq];exact hi)
 exact(tw_can h.tw i (by rw[h.len hP];exact hi) h1).mono fun _ _ ⟨h2,h3⟩=>⟨h2,h3,h.rch,h.ev⟩
theorem tr_answered (h:Tr w W Z g xp ks P now s E)(had:Nat)(i:Int)(hE:E≤100000)(hh:had≤s.events.length) :
  Calls Tryz.prog 15 #[.pointer (some ⟨g,0,none⟩),.int .i64 had,.int .i64 i] W fun e w'=>e = .returned (.bool (M.answered s had i))∧Tr w w' Z g xp ks P now s E∧Fr [] W w' :=
 (tw_answered h.tw had i (Nat.le_trans h.ev hE) hh).mono fun _ _ ⟨h2,h3,h4⟩=>⟨h2,⟨h3,h.rch,h.ev⟩,h4⟩
theorem tr_events (h:Tr w W Z g xp ks P now s E)(hE:E≤100000) :
  Calls Tryz.prog 13 #[.pointer (some ⟨g,0,none⟩)] W fun e w'=>∃ a c L,e = .returned (.slice a L.length c)∧L.map Ev.Raw.ev=s.events∧Own w' W.heap.size 56 23 (.slice a L.length c) L.length (flat Ev.Raw.cells L)∧(∀ r,r∈L→r.At w' W.heap.size)∧Tr w w' Z g xp ks P now s E :=
 (tw_events h.tw (Nat.le_trans h.ev hE)).mono fun _ _ ⟨a,c,L,h1,h2,h3,h4,h5⟩=>⟨a,c,L,h1,h2,h3,h4,h5,h.rch,h.ev⟩
end
theorem pick_events (s:M.Srv)(i:Nat):s.events.length≤(s.pick i).events.length:=by
 unfold M.Srv.pick
 split
 ·exact Nat.le_refl _
 split
 ·exact Nat.le_refl _
 split
 ·split
  ·exact Nat.le_refl _
  ·simp only[]
   split<;>simp
 split
 ·simp only[]
  split
  all_goals
   split<;>simp
 ·simp
def picked (n:Nat)(s:M.Srv)(l:List Int):M.Srv:=l.foldl (fun s p=>s.pick ((p % 18446744073709551616).toNat % n)) s
theorem picked_take {n:Nat}{s:M.Srv}{l:List Int}{j:Nat}{x:Int}(h:l[j]? = some x):picked n s (l.take (j+1))=(picked n s (l.take j)).pick ((x % 18446744073709551616).toNat % n):=by
 unfold picked
 rw[List.take_succ,h]
 simp
theorem par_of {waits asks n:Nat}{ticks:Int}{write:Nat}(hn:n=1+waits+asks)(h2:n≤10)(ht:ticks≤40)(hok:(M.par waits asks ticks write).Ok):PF (M.par waits asks ticks write) n :=
 ⟨hok,(by show ticks≤200;omega),(by show 1+waits+asks≤10;omega),hn.symm⟩
theorem s2_lt {waits asks n:Nat}{ticks:Int}{write:Nat}(hn:n=1+waits+asks)(h:write<4):M.s2Of waits asks ticks write=(M.asked (M.start n) waits ticks n).send 0 [M.wr write]:=by
 unfold M.s2Of
 simp only[if_pos h,hn]
theorem s2_ge {waits asks n:Nat}{ticks:Int}{write:Nat}(hn:n=1+waits+asks)(h:¬ write<4):M.s2Of waits asks ticks write=M.asked (M.start n) waits ticks n:=by
 unfold M.s2Of
 simp only[if_neg h,hn]
theorem send_events (s:M.Srv)(i:Nat)(q:List M.Req):(s.send i q).events=s.events:=by
 unfold M.Srv.send
 split<;>rfl
theorem pick_index (x:Int)(n:Nat)(h1:1≤n)(h2:n≤10):wrap64 ((IntKind.u64.wrap x).tmod (n:Int))=(((x % 18446744073709551616).toNat % n:Nat):Int):=by
 have e:IntKind.u64.wrap x=((x % 18446744073709551616).toNat:Int):=by
  rw[IntKind.wrap_u64]
  omega
 rw[e,←Int.ofNat_tmod]
 generalize hk:(x % 18446744073709551616).toNat % n=k
 have hkl:k<n:=by rw[←hk];exact Nat.mod_lt _ (by omega)
 exact IntWalk.wrap64_in _ (by omega)
theorem Tr.more {w W:World}{Z g xp E:Nat}{ks:List (Nat × Array Value)}{P:M.Par}{now:Int}{s:M.Srv}(h:Tr w W Z g xp ks P now s E){N:Nat}{cs:Array Value}(hb:Holds W N 53 cs):Tr w W Z g xp ((N,cs)::ks) P now s E:=⟨h.tw.more hb,h.rch,h.ev⟩
theorem Tr.le {w W:World}{Z g xp E E':Nat}{ks:List (Nat × Array Value)}{P:M.Par}{now:Int}{s:M.Srv}(h:Tr w W Z g xp ks P now s E)(hE:E≤E'):Tr w W Z g xp ks P now s E':=⟨h.tw,h.rch,Nat.le_trans h.ev hE⟩
theorem want_3 (v:Value):(Ev.rsc (M.want 3) v).toArray=#[.int .i64 9,.int .i64 4,.int .i64 0,.int .i64 0,.string ⟨#[]⟩,.int .i64 0,.bool false,v]:=rfl
theorem want_lt {write:Nat}(h:write<4)(h3:write≠3)(v:Value):(Ev.rsc (M.want write) v).toArray=#[.int .i64 9,.int .i64 0,.int .i64 3,.int .i64 0,.string ⟨#[]⟩,.int .i64 0,.bool false,v]:=by
 unfold M.want
 rw[if_neg h3,if_pos h]
 rfl
theorem want_4 (v:Value):(Ev.rsc (M.want 4) v).toArray=#[.int .i64 9,.int .i64 15,.int .i64 0,.int .i64 0,.string ⟨#[]⟩,.int .i64 0,.bool false,v]:=rfl
theorem info_resp:(Tryz.prog.info? 53).map (·.size)=some 8:=by kernel_rfl
theorem law_lt {waits asks n:Nat}{ticks:Int}{write had:Nat}(xs:List Int)(hn:n=1+waits+asks)(hw:1≤waits)(hw5:waits≤5)(ha:asks≤4)(ht:1≤ticks)(h4:write<4)(hh:had=(M.start n).events.length){s2:M.Srv}(h2:(M.asked (M.start n) waits ticks n).send 0 [M.wr write]=s2) :
  M.answered (M.till (picked n s2 xs) had n (60*n) 0) had 0=true∧M.ends (M.rounds (M.till (picked n s2 xs) had n (60*n) 0) n 8) had waits write=true:=by
 have h:=M.waits_law xs (asks:=asks) hw hw5 ha ht (by omega:write≤4)
 rw[M.topWaits] at h
 dsimp only at h
 rw[←hn] at h
 cases hc:(M.start n).conns[0]? with
 | none =>
  rw[hc] at h
  cases h
 | some c0 =>
  rw[hc] at h
  dsimp only at h
  split at h
  ·cases h
  ·simp only[if_pos h4,h2,Bool.and_eq_true] at h
   rw[hh]
   exact h
theorem picked_ev (n had:Nat):∀ (l:List Int) (s:M.Srv),had≤s.events.length→had≤(picked n s l).events.length
 | [],_,h=>h
 | _::l,_,h=>picked_ev n had l _ (Nat.le_trans h (pick_events _ _))
theorem till_yes {s:M.Srv}{had n m i:Nat}(h:M.answered s had 0=true):M.till s had n m i=s:=by
 cases m with
 | zero=>rfl
 | succ m=>unfold M.till;rw[if_pos h]
theorem till_no {s:M.Srv}{had n m i:Nat}(h:M.answered s had 0=false):M.till s had n (m+1) i=M.till (s.pick (i % n)) had n m (i+1):=by
 rw[M.till,if_neg (by rw[h];simp)]
theorem ends_at {s:M.Srv}{had waits write:Nat}(h:M.ends s had waits write=true)(L:List Ev.Raw)(hL:L.map Ev.Raw.ev=s.events):∀ i,i<waits→M.answered s had ((i:Int)+1)=true∧∀ (j:Nat) r,L[j]? = some r→had≤j→r.kind=3→r.conn=(i:Int)+1→r.rs=M.want write:=by
 intro i hi
 unfold M.ends at h
 have h1:=List.all_eq_true.1 h i (List.mem_range.2 hi)
 simp only[Bool.and_eq_true,List.all_eq_true] at h1
 refine⟨by simpa using h1.1,fun j r hr hj e3 ei=>?_⟩
 have hm:r.ev∈s.events.drop had:=by
  rw[←hL,←List.map_drop]
  refine List.mem_map.2 ⟨r,?_,rfl⟩
  refine List.mem_of_getElem? (i:=j - had) ?_
  rw[List.getElem?_drop,show had+(j - had)=j by omega]
  exact hr
 have h2:=h1.2 _ hm
 simp only[Ev.Raw.ev,Bool.or_eq_true,Bool.not_eq_true',Bool.and_eq_false_iff,beq_eq_false_iff_ne,beq_iff_eq,ne_eq] at h2
 rcases h2 with h2|h2
 ·rcases h2 with h2|h2
  ·exact absurd e3 h2
  ·exact absurd ei (by simpa using h2)
 ·exact h2
theorem foldl_ev:∀ (l:List Nat) (s:M.Srv),s.events.length≤(l.foldl M.Srv.pick s).events.length
 | [],_=>Nat.le_refl _
 | i::l,s=>Nat.le_trans (pick_events s i) (foldl_ev l _)
theorem rounds_ev (n:Nat):∀ (t:Nat) (s:M.Srv),s.events.length≤(M.rounds s n t).events.length
 | 0,_=>Nat.le_refl _
 | t+1,s=>Nat.le_trans (foldl_ev (List.range n) s) (rounds_ev n t _)
theorem want_items (write:Nat):(M.want write).items=[]:=by
 unfold M.want
 split
 ·rfl
 ·split<;>rfl
theorem reach_now {P:M.Par}{now:Int}{s:M.Srv}(h:M.Reach P now s):s.core.now=now:=by
 obtain⟨g,rfl,_⟩:=h
 rw[g.I.core]
 rfl
theorem tr_tick {w W:World}{Z g xp E:Nat}{ks:List (Nat × Array Value)}{P:M.Par}{now:Int}{s:M.Srv}(h:Tr w W Z g xp ks P now s E)(hR:M.ReachR P now s)(h4:P.write=4)(hZ:w.heap.size=Z)(n0:0≤now)(n1:now≤1000)(d:Int)(d0:0≤d)(d1:d≤1000) :
  Calls Tryz.prog 16 #[.pointer (some ⟨g,0,none⟩),.int .i64 d] W fun e w'=>e = .returned (.bool true)∧Tr w w' Z g xp ks P (now+d) (s.tick d) E :=
 (tw_tick h.tw hZ d d0 (by omega) (by rw[reach_now h.rch];exact n0) (by rw[reach_now h.rch];omega)).mono fun _ _ ⟨h2,h3⟩=>⟨h2,h3,(M.reach_tick h4 hR d).reach,h.ev⟩
theorem law_ge {waits asks n:Nat}{ticks:Int}{had:Nat}(xs:List Int)(hn:n=1+waits+asks)(hw:1≤waits)(hw5:waits≤5)(ha:asks≤4)(ht:1≤ticks)(hh:had=(M.start n).events.length){s2 s5:M.Srv}(h2:M.asked (M.start n) waits ticks n=s2)(h5:M.rounds ((M.rounds (picked n s2 xs) n 20).tick (ticks - 1)) n 20=s5) :
  (∀ i,i<waits→M.answered s5 had ((i:Int)+1)=false∧s5.can (i+1)=false)∧M.ends (M.rounds (s5.tick 1) n 8) had waits 4=true:=by
 have h:=M.waits_law xs (write:=4) (asks:=asks) hw hw5 ha ht (by omega)
 rw[M.topWaits] at h
 dsimp only at h
 rw[←hn] at h
 cases hc:(M.start n).conns[0]? with
 | none =>
  rw[hc] at h
  cases h
 | some c0 =>
  rw[hc] at h
  dsimp only at h
  split at h
  ·cases h
  ·simp only[if_neg (show ¬ (4:Nat)<4 by omega),h2,Bool.and_eq_true] at h
   rw[hh]
   have e:M.rounds ((M.rounds (List.foldl (fun s p=>s.pick ((p % 18446744073709551616).toNat % n)) s2 xs) n 20).tick (ticks - 1)) n 20=s5:=h5
   rw[e] at h
   refine⟨fun i hi=>?_,h.2⟩
   have h1:=List.all_eq_true.1 h.1 i (List.mem_range.2 hi)
   simpa using h1
end Go.Proofs.YtjmkkcckfbnmeaaGreatDoor.Tp
