/- Texts RowL, Hub, HubW, HubX, LAlarm, Clock, LChange. -/
import Derived.Test.YtjmkkcckfbnmeaaGreatDoorM00
import Derived.Test.YtjmkkcckfbnmeaaGreatDoorM07
import Derived.Deep.RegionLaw
import Derived.Lib.SliceRun
import Derived.Deep.QuietTactic
import Derived.BigQuiet
set_option maxRecDepth 100000
set_option maxHeartbeats 8000000
set_option linter.all false
open Go.Lib (hid)
namespace Go.Proofs.YtjmkkcckfbnmeaaGreatDoor
open Go.RowKit
section
variable {P:Program} {w:World} {e:TypeId} {sz g n cap:Nat} {xs:List Value}
theorem run_append_in (t ty:TypeId)(i:TypeInfo)(ht:P.underlying t=some (.slice e))(hi:P.info? e=some i)(hsize:i.size=sz)(h:Row w e sz g n cap xs)(k:Nat)(hk:k≤n)
  (a:Addr) (m c:Nat) (news:List Value) (hl:news.length=m*sz) (hnews:Cells w (some a) news) (h1:∀ u∈news,u.oneCell'=true) (hroom:k+m≤cap) :
  ∃ w',(Builtin.append_ #[t,t] ty #[.slice (some ⟨g,0,none⟩) k cap,.slice (some a) m c]).run P w = .ok (.slice (some ⟨g,0,none⟩) (k+m) cap) w'∧Row w' e sz g (k+m) cap (xs.take (k*sz)++news)∧Fr [g] w w':=by
 subst hsize
 obtain⟨cur,hg,hnc,hcm,hcs,htake,hxl⟩:=h
 have hfit:k*i.size+news.length≤cur.size:=by rw[hl,hcs,←Nat.add_mul];exact Nat.mul_le_mul_right _ hroom
 have hnews':∀ j u,news[j]? = some u→w.cell? (a.add j)=some u:=fun j u hu=>by
  obtain⟨c,hc,hv⟩:=hnews j u hu
  cases hc
  exact hv
 have hrun:=run_append_room (P:=P) w t ty e i ht hi g k cap cur hg a m c news hl hnews' h1 hroom hfit
 have hkn:k*i.size≤n*i.size:=Nat.mul_le_mul_right _ hk
 have hcl:cur.toList.length=cap*i.size:=by simpa using hcs
 have htk:cur.toList.take (k*i.size)=xs.take (k*i.size):=by rw[←htake,List.take_take,Nat.min_eq_left hkn]
 refine⟨_,hrun,⟨_,setRow_heap w g cur _ e _ hg,hroom,hcm,?_,?_,?_⟩,⟨rfl,rfl,rfl,by simp,fun j _ hj=>setRow_other w g j _ (by simpa using hj)⟩⟩
 ·simp only[List.size_toArray,List.length_append,List.length_take,List.length_drop,Array.length_toList]
  omega
 ·rw[htk]
  have hl2:(xs.take (k*i.size)++news).length=(k+m)*i.size:=by rw[List.length_append,List.length_take,hxl,hl,Nat.min_eq_left hkn,Nat.add_mul]
  rw[←hl2]
  exact List.take_left
 ·rw[List.length_append,List.length_take,hxl,hl,Nat.min_eq_left hkn,Nat.add_mul]
theorem step_append_in {ops:Array Oper}{o:Oper}{A:Act}{K:Act→World→Prop}{Q:Exit→Act→World→Prop}{E:Prop}(hgd:o.guard=none)(s x:Operand)(t:TypeId)
  (ho:o.op = .call { callee:=.builtin .append,args:=#[s,x],argTypes:=#[t,t] }) (i:TypeInfo) (ht:P.underlying t=some (.slice e)) (hi:P.info? e=some i) (hsize:i.size=sz) (h:Row w e sz g n cap xs) (k:Nat) (hk:k≤n)
  (hs:A.eval s = .slice (some ⟨g,0,none⟩) k cap) (a:Addr) (m c:Nat) (news:List Value) (hx:A.eval x = .slice (some a) m c) (hl:news.length=m*sz) (hnews:Cells w (some a) news) (h1:∀ u∈news,u.oneCell'=true) (hroom:k+m≤cap)
  (hkk:∀ w',Row w' e sz g (k+m) cap (xs.take (k*sz)++news)→Fr [g] w w'→K (A.put o.dst (.slice (some ⟨g,0,none⟩) (k+m) cap)) w') :
  if Region.wanted o (yielded ops A.tmps)=true then Oper.wp P o A w K Q else E:=by
 have hw:Region.wanted o (yielded ops A.tmps)=true:=by simp[Region.wanted,hgd]
 rw[if_pos hw]
 obtain⟨w',hr,h2,h3⟩:=run_append_in (P:=P) t o.type i ht hi hsize h k hk a m c news hl hnews h1 hroom
 unfold Oper.wp execOp
 simp only[ho,resolve,invoke,builtin,Sem.run_bind,Sem.run_pure,Result.andThen_ok,List.map_toArray,List.map_cons,List.map_nil,hs,hx,hr]
 exact hkk _ h2 h3
theorem run_clear_row (t ty:TypeId)(z:Value)(ht:P.underlying t=some (.slice e))(hv:∀ w,(zeroValue e).run P w = .ok z w)(hz:z.cells.size=sz)(h1:z.cells.all (·.oneCell')=true)(h:Row w e sz g n cap xs)(o m c:Nat)(ho:n*sz≤o)(hm:o+m*sz≤cap*sz) :
  ∃ w',(Builtin.clear_ #[t] ty #[.slice (some ⟨g,o,none⟩) m c]).run P w = .ok (.tuple #[]) w'∧Row w' e sz g n cap xs∧Fr [g] w w':=by
 rcases Nat.eq_zero_or_pos m with rfl|hpos
 ·refine⟨w,?_,h,Fr.refl _ _⟩
  simp[Builtin.clear_,run_underlying ht]
 ·obtain⟨cur,hg,hnc,hcm,hcs,htake,hxl⟩:=h
  have hzl:(Builtin.zeroCells z.cells m).toList.length=m*sz:=by simp[Builtin.zeroCells,hz]
  have hone:∀ u∈(Builtin.zeroCells z.cells m).toList,u.oneCell'=true:=by
   intro u hu
   simp[Builtin.zeroCells] at hu
   obtain⟨j,hj,rfl⟩:=hu
   have hp:0<z.cells.size:=by
    rcases Nat.eq_zero_or_pos z.cells.size with h|h
    ·rw[h] at hj;omega
    ·exact h
   have hlt:=Nat.mod_lt j hp
   rw[getElem!_pos z.cells (j % z.cells.size) hlt]
   rw[Array.all_eq_true] at h1
   exact h1 _ hlt
  have hst:=run_storeCells_at P g o e (Builtin.zeroCells z.cells m).toList 0 cur w hg (by rw[hzl];omega) hone
  simp only[Nat.add_zero] at hst
  have hrun:(Builtin.clear_ #[t] ty #[.slice (some ⟨g,o,none⟩) m c]).run P w = .ok (.tuple #[]) (w.setRow g (cur.toList.take o++(Builtin.zeroCells z.cells m).toList++cur.toList.drop (o+(Builtin.zeroCells z.cells m).toList.length)).toArray):=by
   obtain⟨q,rfl⟩:∃ q,m=q+1:=⟨m - 1,by omega⟩
   simp[Builtin.clear_,run_underlying ht,hv,hst]
  have hcl:cur.toList.length=cap*sz:=by simpa using hcs
  refine⟨_,hrun,⟨_,setRow_heap w g cur _ e _ hg,hnc,hcm,?_,?_,hxl⟩,⟨rfl,rfl,rfl,by simp,fun j _ hj=>setRow_other w g j _ (by simpa using hj)⟩⟩
  ·simp only[List.size_toArray,List.length_append,List.length_take,List.length_drop,hcl,hzl]
   omega
  ·simp only[List.append_assoc]
   rw[List.take_append_of_le_length (by simp[hcl];omega),List.take_take,Nat.min_eq_left ho,htake]
end
end Go.Proofs.YtjmkkcckfbnmeaaGreatDoor
namespace Go.Proofs.YtjmkkcckfbnmeaaGreatDoor.Hb
open Go.RowKit
def HubAt (T E:TypeId)(w:World)(r:Nat)(v:Value)(l:List Wt)(own:Option Nat):Prop :=
 Holds w r T #[v]∧Sl w E 3 v l.length (fl l) own∧(0<l.length→∃ g,own=some g)
theorem info220 : (Tryz.prog.info? 220).map (fun i=>(i.zero,i.size,i.bytes))=some (some (.agg #[.int .i64 0,.int .i64 0,.bool false]),3,24):=by kernel_rfl
theorem info3:(Tryz.prog.info? 3).map (fun i=>(i.zero,i.size,i.bytes))=some (some (.int .i64 0),1,8):=by kernel_rfl
section
variable {T E:TypeId} {w w':World} {r:Nat} {v:Value} {l:List Wt} {own:Option Nat} {S:List Nat}
theorem HubAt.fr (h:HubAt T E w r v l own)(hf:Fr S w w')(hr:r∉S)(ho:∀ k,k∈own.toList→k∉S):HubAt T E w' r v l own :=
 ⟨h.1.fr hf hr,h.2.1.fr hf ho h.2.2,h.2.2⟩
theorem HubAt.fr0 (h:HubAt T E w r v l own)(hf:Fr [] w w'):HubAt T E w' r v l own:=h.fr hf (by simp) (by simp)
theorem HubAt.own_ne (h:HubAt T E w r v l own)(hne:E≠T):r∉own.toList:=by
 obtain⟨hp,hs,_⟩:=h
 rcases hs with⟨rfl,_⟩|⟨g,cap,rfl,_,hr⟩
 ·simp
 ·simpa using (hr.ne hp hne).symm
theorem HubAt.elem (h:HubAt T E w r v l own){k:Nat}{x:Wt}(hx:l[k]? = some x) :
  ∃ g c,v = .slice (some ⟨g,0,none⟩) l.length c∧own=some g∧Row w E 3 g l.length c (fl l)∧w.cell? ⟨g,k*3,none⟩=some (.int .i64 x.who)∧w.cell? ⟨g,k*3+1,none⟩=some (.int .i64 x.place)∧w.cell? ⟨g,k*3+2,none⟩=some (.bool x.wok):=by
 obtain⟨hp,hs,hm⟩:=h
 have hk:k<l.length:=(List.getElem?_eq_some_iff.1 hx).1
 obtain⟨g,rfl⟩:=hm (by omega)
 obtain⟨c,rfl,hr⟩:=hs.own_row
 exact⟨g,c,rfl,rfl,hr,hr.cell (by have:=fl_get l k 0 x hx (by omega);simpa[wc] using this),hr.cell (by have:=fl_get l k 1 x hx (by omega);simpa[wc] using this),hr.cell (by have:=fl_get l k 2 x hx (by omega);simpa[wc] using this)⟩
end
theorem new_any (w:World):Calls Tryz.prog 51 #[] w fun e w'=>∃ r,e = .returned (.pointer (some ⟨r,0,none⟩))∧w.heap.size≤r∧HubAt 175 220 w' r (.slice none 0 0) [] none∧Fr [] w w':=by
 go_enter Tryz.func51,Tryz.ntmps51
 go_wp2
 go_ret
 exact⟨_,rfl,Nat.le_refl _,⟨Holds.new _ _ _,Sl.nil _ _ _,by simp⟩,(Fr.refl _ _).alloc _⟩
theorem is_any (w:World)(B:Nat)(who x y:Int)(b:Bool)(hc:w.cell? ⟨B,0,none⟩=some (.int .i64 who)) :
  Calls Tryz.prog 189 #[.agg #[.int .i64 x,.int .i64 y,.bool b],.pointer (some ⟨B,0,none⟩)] w fun e w'=>e = .returned (.bool (x==who))∧Fr [] w w':=by
 have hB:=block_lt_of_cell hc
 go_enter Tryz.func189,Tryz.ntmps189
 go_wp2
 go_ret
 exact⟨rfl,(Fr.refl _ _).alloc _⟩
theorem index_any (w:World)(r:Nat)(v:Value)(l:List Wt)(own:Option Nat)(B:Nat)(who:Int)(h:HubAt 175 220 w r v l own)(hc:w.cell? ⟨B,0,none⟩=some (.int .i64 who))(hl:l.length≤1000) :
  Calls Tryz.prog 188 #[v,.func (.func 189) #[] #[.pointer (some ⟨B,0,none⟩)]] w fun e w'=>e = .returned (.int .i64 (place who l))∧Fr [] w w':=by
 have hB:=block_lt_of_cell hc
 obtain⟨a,c,rfl⟩:=h.2.1.form
 go_enter Tryz.func188,Tryz.ntmps188
 go_wp2
 go_loopw [5,8] (fun _ i wr=>∃ k:Nat,k≤l.length∧i = .int .i64 k∧Not who l k∧Fr [] w wr) (fun _ i _=>l.length - (intOf i).toNat)
 case atStart=>exact⟨0,Nat.zero_le _,rfl,not_zero _ _,Fr.refl _ _⟩
 case round =>
  obtain⟨k,hk,rfl,hno,fr⟩:=hrel
  have h1:=h.fr0 fr
  have c1:=fr.cell hc hB (by simp)
  clear hc h
  by_cases hlt:k<l.length
  ·have hx:l[k]? = some l[k]:=List.getElem?_eq_getElem hlt
   obtain⟨x,hx'⟩:∃ x,l[k]=x:=⟨_,rfl⟩
   rw[hx'] at hx
   clear hx'
   have hk1:(k:Int)<(l.length:Int):=by omega
   obtain⟨g,c2,hv,rfl,hr,q0,q1,q2⟩:=h1.elem hx
   have HX:=hid hx
   clear hx
   cases hv
   by_cases he:x.who=who
   ·have hp:place who l=(k:Int):=by rw[place,at_some hno HX.out he]
    have HP:=hid hp
    have hb:(x.who==who)=true:=by simpa using he
    clear he hp hno
    go_wp2_with fail
    refine(is_any wr B who x.who x.place x.wok c1).mono ?_
    rintro e w' ⟨rfl,f2⟩
    rw[hb]
    go_wp2_with fail
    go_ret
    exact⟨ret_int HP.out.symm,fr.trans f2⟩
   ·have hn2:=not_succ hno HX.out he
    have hb:(x.who==who)=false:=by simpa using he
    clear he hno
    go_wp2_with fail
    refine(is_any wr B who x.who x.place x.wok c1).mono ?_
    rintro e w' ⟨rfl,f2⟩
    rw[hb]
    go_wp2_with fail
    go_roundw
    case rel=>exact⟨k+1,by omega,by go_num,hn2,fr.trans f2⟩
    case measure=>simp[intOf];omega
  ·obtain rfl:k=l.length:=by omega
   have hp:place who l = -1:=by rw[place,at_none hno]
   have HP:=hid hp
   clear hp hno
   go_wp2
   go_ret
   exact⟨ret_int HP.out.symm,fr⟩
theorem find_any (w:World)(r:Nat)(v:Value)(l:List Wt)(own:Option Nat)(who:Int)(h:HubAt 175 220 w r v l own)(hl:l.length≤1000) :
  Calls Tryz.prog 134 #[.pointer (some ⟨r,0,none⟩),.int .i64 who] w fun e w'=>e = .returned (.int .i64 (place who l))∧Fr [] w w':=by
 have f1:Fr [] w (w.alloc (.cells #[.int .i64 who] 3)):=(Fr.refl _ _).alloc _
 have h1:=h.fr0 f1
 have b1:=Holds.new w 3 #[.int .i64 who]
 have c1:(w.alloc (.cells #[.int .i64 who] 3)).cell? ⟨w.heap.size,0,none⟩=some (.int .i64 who):=b1.cell 0
 have r1:=h1.1.cell 0
 go_enter Tryz.func134,Tryz.ntmps134
 go_wp2_with fail
 refine(index_any _ r v l own _ who h1 c1 hl).mono ?_
 rintro e w' ⟨rfl,f2⟩
 go_wp2_with fail
 go_ret
 exact⟨rfl,f1.trans f2⟩
theorem cells_of {w:World}{p t:Nat}{cs:Array Value}(h:Holds w p t cs):Cells w (some ⟨p,0,none⟩) cs.toList:=fun j x hx=>⟨_,rfl,by rw[at_add,Nat.zero_add,h.cell j];simpa using hx⟩
theorem add_end {T E:TypeId}{w w1:World}{r n:Nat}{v0 v1:Value}{l:List Wt}{x:Wt}{own:Option Nat}{S:List Nat}(hET:E≠T)(hn:n=l.length+1)(hp:Holds w1 r T #[v0])(hs:Sl w1 E 3 v1 n (fl l++wc x) own)(hm:∃ g,own=some g)(hf:Fr S w w1)(hS:r∈S) :
  HubAt T E (w1.setCell ⟨r,0,none⟩ v1) r v1 (l++[x]) own∧Fr S w (w1.setCell ⟨r,0,none⟩ v1):=by
 subst hn
 have e:fl l++wc x=fl (l++[x]):=by simp[fl]
 rw[e] at hs
 refine⟨⟨hp.set 0 _,?_,fun _=>hm⟩,hf.setCell hS _⟩
 rw[List.length_append]
 exact hs.far (fun _=>hm) hp hET 0 v1
theorem place_yes {who:Int}{l:List Wt}(h:has who l=true):0≤place who l:=by
 unfold has at h
 unfold place
 cases e:at? who l with
 | none=>simp[e] at h
 | some k=>exact Int.natCast_nonneg k
theorem place_no {who:Int}{l:List Wt}(h:has who l=false):place who l = -1:=by
 unfold has at h
 unfold place
 cases e:at? who l with
 | none=>rfl
 | some k=>simp[e] at h
theorem add_any (w:World)(r:Nat)(v:Value)(l:List Wt)(own:Option Nat)(who pl:Int)(h:HubAt 175 220 w r v l own)(hl:l.length≤900) :
  Calls Tryz.prog 167 #[.pointer (some ⟨r,0,none⟩),.int .i64 who,.int .i64 pl] w fun e w'=>∃ v' own',e = .returned (.bool (!has who l))∧HubAt 175 220 w' r v' (addL l who pl) own'∧Fr (r::own.toList) w w'∧(own'=own∨∃ g,own'=some g∧w.heap.size≤g):=by
 obtain⟨i2,hi,hz0,hz1,hz2⟩:=info_parts info220
 cases hh:has who l
 ·have hpl:=place_no hh
  have hal:addL l who pl=l++[⟨who,pl,false⟩]:=by simp[addL,hh]
  have HH:=hid hpl
  have HA:=hid hal
  clear hh hpl hal
  have hrn:=h.own_ne (by decide)
  go_enter Tryz.func167,Tryz.ntmps167
  go_wp2_with fail
  refine(find_any w r v l own who h (by omega)).mono ?_
  rintro e w1 ⟨rfl,f1⟩
  rw[HH.out]
  have h1:=h.fr0 f1
  obtain⟨hp,hs,hm⟩:=h1
  obtain⟨a,c,rfl⟩:=hs.form
  have c0:=hp.cell 0
  clear h
  go_wp2_with (at_builtin;refine wpList_append_sl rfl (.tmp 15) (.tmp 19) 173 rfl i2 _ 24 Tryz.underlying173 hi hz0 hz1 hz2 rfl (by decide) _ own rfl (hs.fr0 ((Fr.refl [] w1).alloc _)) _ 1 1 (wc ⟨who,pl,false⟩) rfl rfl (cells_of (Holds.new w1 220 #[.int .i64 who,.int .i64 pl,.bool false])) (by simp[wc,Value.oneCell']) (by unfold maxLen;omega) (by omega) ?_;intro v' w2 own' hs1 hf1 ho1 hm1;obtain⟨g',rfl⟩:=hm1 (by omega);obtain⟨c',rfl,hr1⟩:=hs1.own_row;have fr1:Fr own.toList w1 w2:=((Fr.refl _ w1).alloc _).trans hf1;have hp1:=hp.fr fr1 hrn;have d1:=hp1.cell 0;have f1':=hp1.frozen 0;clear hf1 c0 hm1)
  go_ret
  obtain⟨k1,k2⟩:=add_end (x:=⟨who,pl,false⟩) (by decide) rfl hp1 (Sl.row hr1) ⟨_,rfl⟩ ((f1.nil.trans fr1).mono (T:=r::own.toList) (fun k hk=>List.mem_cons_of_mem _ hk)) (List.mem_cons_self ..)
  refine⟨_,some g',rfl,HA.out ▸ k1,k2,?_⟩
  ·have:=f1.size
   rcases ho1 with ho1|⟨g2,ho1,hg2⟩
   ·exact .inl ho1
   ·exact .inr ⟨g2,ho1,by simp at hg2;omega⟩
 ·have hpl:=place_yes hh
  have hal:addL l who pl=l:=by simp[addL,hh]
  clear hh
  rw[hal]
  clear hal
  go_enter Tryz.func167,Tryz.ntmps167
  go_wp2_with fail
  refine(find_any w r v l own who h (by omega)).mono ?_
  rintro e w1 ⟨rfl,f1⟩
  go_wp2_with fail
  go_ret
  exact⟨v,own,rfl,h.fr0 f1,f1.nil,.inl rfl⟩
theorem zero220 (w:World):(zeroValue 220).run Tryz.prog w = .ok (.agg #[.int .i64 0,.int .i64 0,.bool false]) w:=by kernel_rfl
theorem delete_any (w:World)(g cap k:Nat)(l:List Wt)(hr:Row w 220 3 g l.length cap (fl l))(hk:k<l.length)(hl:l.length≤1000) :
  Calls Tryz.prog 177 #[.slice (some ⟨g,0,none⟩) l.length cap,.int .i64 k,.int .i64 ((k:Int)+1)] w fun e w'=>e = .returned (.slice (some ⟨g,0,none⟩) (l.length - 1) cap)∧Row w' 220 3 g (l.length - 1) cap (fl (l.take k++l.drop (k+1)))∧Fr [g] w w':=by
 obtain⟨i2,hi,hz0,hz1,hz2⟩:=info_parts info220
 obtain⟨n,hn⟩:∃ n,n=l.length:=⟨_,rfl⟩
 have hle:=hr.le
 have hcm:=hr.cap_le
 unfold maxLen at hcm
 rw[←hn] at hle hr hk hl ⊢
 have hnews:Cells w (some ⟨g,(k+1)*3,none⟩) (fl (l.drop (k+1))):=by
  have:=hr.cells.drop ((k+1)*3)
  rw[fl_drop]
  simpa using this
 have hlen:(fl (l.drop (k+1))).length=(n - (k+1))*3:=by rw[fl_length,List.length_drop,←hn]
 have hone:=fl_one (l.drop (k+1))
 obtain⟨A,hA,hsrc⟩:∃ A:Addr,(if cap=k+1 then some (⟨g,0,none⟩:Addr) else some ⟨g,(k+1)*3,none⟩)=some A∧Cells w (some A) (fl (l.drop (k+1))):=by
  by_cases h:cap=k+1
  ·refine⟨⟨g,0,none⟩,by simp[h],?_⟩
   have e0:fl (l.drop (k+1))=[]:=List.eq_nil_of_length_eq_zero (by omega)
   rw[e0]
   exact Cells.nil _
  ·exact⟨_,by simp[h],hnews⟩
 have hkc:k≤cap:=by omega
 have hkc1:k+1≤cap:=by omega
 have hi0:(0:Int)≤(k:Int)+1:=by omega
 have hi1:(k:Int)+1≤(n:Int):=by omega
 have H1:=hid hn
 have H2:=hid hlen
 have H3:=hid hone
 clear hn hlen hone hnews
 go_enter Tryz.func177,Tryz.ntmps177
 go_wp2_with fail
 go_region_law ((refine step_append_in rfl (.tmp 22) (.tmp 25) 173 rfl i2 Tryz.underlying173 hi hz1 hr.drew k (by omega) (by simp[Act.eval,Act.put]) A (n - (k+1)) (cap - (k+1)) (fl (l.drop (k+1))) (by simp[Act.eval,Act.put]) H2.out (hsrc.fr0 ((Fr.refl [] w).drew)) H3.out (by omega) ?_;intro w1 hr1 f1))
 have e1:k+(n - (k+1))=n - 1:=by omega
 have e2:(fl l).take (k*3)++fl (l.drop (k+1))=fl (l.take k++l.drop (k+1)):=by rw[fl_append,fl_take]
 rw[e1,e2] at hr1
 rw[e1]
 clear e1 e2 hA hsrc hkc hkc1 hi0 hi1
 obtain⟨m,hm⟩:∃ m,m=n - 1:=⟨_,rfl⟩
 have e3:n=m+1:=by omega
 rw[←hm] at hr1 ⊢
 have HM:=hid hm
 subst e3
 clear hm
 have hA2:(if cap=m then some (⟨g,0,none⟩:Addr) else some ⟨g,m*3,none⟩)=some ⟨g,m*3,none⟩:=by rw[if_neg (by omega)]
 have hj0:(m:Int)≤(m:Int)+1:=by omega
 have hj1:m+1≤cap:=hle
 have hj2:m≤m+1:=by omega
 obtain⟨w2,hrun,hr2,f2⟩:=run_clear_row (sz:=3) 173 0 (.agg #[.int .i64 0,.int .i64 0,.bool false]) Tryz.underlying173 zero220 (by kernel_rfl) (by kernel_rfl) hr1 (m*3) 1 (cap - m) (by omega) (by omega)
 go_wp2
 go_ret
 exact⟨rfl,hr2,((Fr.refl [g] w).drew).trans (f1.trans f2)⟩
theorem rem_end {T E:TypeId}{w w1:World}{r n:Nat}{v0 v1:Value}{l:List Wt}{own:Option Nat}{S:List Nat}(hET:E≠T)(hn:n=l.length)(hp:Holds w1 r T #[v0])(hs:Sl w1 E 3 v1 n (fl l) own)(hm:0<n→∃ g,own=some g)(hf:Fr S w w1)(hS:r∈S) :
  HubAt T E (w1.setCell ⟨r,0,none⟩ v1) r v1 l own∧Fr S w (w1.setCell ⟨r,0,none⟩ v1):=by
 subst hn
 exact⟨⟨hp.set 0 _,hs.far hm hp hET 0 v1,hm⟩,hf.setCell hS _⟩
theorem at_lt {who:Int}{l:List Wt}{k:Nat}(h:at? who l=some k):k<l.length:=by
 unfold at? at h
 exact(List.findIdx?_eq_some_iff_getElem.1 h).1
theorem remove_any (w:World)(r:Nat)(v:Value)(l:List Wt)(own:Option Nat)(who:Int)(h:HubAt 175 220 w r v l own)(hl:l.length≤1000) :
  Calls Tryz.prog 117 #[.pointer (some ⟨r,0,none⟩),.int .i64 who] w fun e w'=>∃ v' own',e = .returned (.bool (has who l))∧HubAt 175 220 w' r v' (remL l who) own'∧Fr (r::own.toList) w w'∧(own'=own∨∃ g,own'=some g∧w.heap.size≤g):=by
 cases hh:at? who l with
 | none =>
  have hpl:place who l = -1:=by simp[place,hh]
  have hrl:remL l who=l:=by simp[remL,hh]
  have hhs:has who l=false:=by simp[has,hh]
  rw[hrl,hhs]
  have HH:=hid hpl
  clear hh hpl hrl hhs
  go_enter Tryz.func117,Tryz.ntmps117
  go_wp2_with fail
  refine(find_any w r v l own who h (by omega)).mono ?_
  rintro e w1 ⟨rfl,f1⟩
  rw[HH.out]
  go_wp2_with fail
  go_ret
  exact⟨v,own,rfl,h.fr0 f1,f1.nil,.inl rfl⟩
 | some k =>
  have hpl:place who l=k:=by simp[place,hh]
  have hrl:remL l who=l.take k++l.drop (k+1):=by simp[remL,hh]
  have hhs:has who l=true:=by simp[has,hh]
  have hk:=at_lt hh
  rw[hrl,hhs]
  have HH:=hid hpl
  clear hh hpl hrl hhs
  have hrn:=h.own_ne (by decide)
  go_enter Tryz.func117,Tryz.ntmps117
  go_wp2_with fail
  refine(find_any w r v l own who h (by omega)).mono ?_
  rintro e w1 ⟨rfl,f1⟩
  rw[HH.out]
  obtain⟨hp,hs,hm⟩:=h.fr0 f1
  obtain⟨g,rfl⟩:=hm (by omega)
  obtain⟨c,rfl,hr⟩:=hs.own_row
  have c0:=hp.cell 0
  clear h
  go_wp2_with fail
  refine(delete_any w1 g c k l hr hk hl).mono ?_
  rintro e w2 ⟨rfl,hr2,f2⟩
  have hgr:g≠r:=hr.ne hp (by decide)
  have hp2:=hp.fr f2 (by simpa using Ne.symm hgr)
  have d0:=hp2.cell 0
  have e0:=hp2.frozen 0
  clear c0
  go_wp2_with fail
  go_ret
  obtain⟨k1,k2⟩:=rem_end (S:=[r,g]) (by decide) (by simp;omega) hp2 (Sl.row hr2) (fun _=>⟨_,rfl⟩) ((f1.nil).trans (f2.mono (by simp))) (List.mem_cons_self ..)
  exact⟨_,some g,rfl,k1,k2,.inl rfl⟩
theorem woken_at {l:List Wt}{who:Int}{k:Nat}{x:Wt}(h:at? who l=some k)(hx:l[k]? = some x):isWoken l who=x.wok:=by simp[isWoken,h,hx]
theorem woken_any (w:World)(r:Nat)(v:Value)(l:List Wt)(own:Option Nat)(who:Int)(h:HubAt 175 220 w r v l own)(hl:l.length≤1000) :
  Calls Tryz.prog 100 #[.pointer (some ⟨r,0,none⟩),.int .i64 who] w fun e w'=>e = .returned (.bool (isWoken l who))∧Fr [] w w':=by
 cases hh:at? who l with
 | none =>
  have hpl:place who l = -1:=by simp[place,hh]
  have hhs:isWoken l who=false:=by simp[isWoken,hh]
  rw[hhs]
  have HH:=hid hpl
  clear hh hpl hhs
  go_enter Tryz.func100,Tryz.ntmps100
  go_wp2_with fail
  refine(find_any w r v l own who h (by omega)).mono ?_
  rintro e w1 ⟨rfl,f1⟩
  rw[HH.out]
  go_wp2_with fail
  go_ret
  exact⟨rfl,f1⟩
 | some k =>
  have hpl:place who l=k:=by simp[place,hh]
  have hk:=at_lt hh
  have hx:l[k]? = some l[k]:=List.getElem?_eq_getElem hk
  obtain⟨x,hx'⟩:∃ x,l[k]=x:=⟨_,rfl⟩
  rw[hx'] at hx
  rw[woken_at hh hx]
  have HH:=hid hpl
  clear hh hpl hx'
  have hk1:(k:Int)<(l.length:Int):=by omega
  go_enter Tryz.func100,Tryz.ntmps100
  go_wp2_with fail
  refine(find_any w r v l own who h (by omega)).mono ?_
  rintro e w1 ⟨rfl,f1⟩
  rw[HH.out]
  have h1:=h.fr0 f1
  obtain⟨g,c2,rfl,rfl,hr,q0,q1,q2⟩:=h1.elem hx
  have c0:=h1.1.cell 0
  clear hx h
  go_wp2_with fail
  go_ret
  exact⟨rfl,f1⟩
end Go.Proofs.YtjmkkcckfbnmeaaGreatDoor.Hb
namespace Go.Proofs.YtjmkkcckfbnmeaaGreatDoor.Hb
open Go.RowKit
theorem new_at {w:World}{n:Nat}{t:TypeId}{cs:Array Value}(h:w.heap.size=n):Holds (w.alloc (.cells cs t)) n t cs:=by subst h;exact Holds.new _ _ _
def part (l:List Wt)(pl:Int)(k:Nat):List Wt:=wakeL (l.take k) pl++l.drop k
theorem part_length (l:List Wt)(pl:Int)(k:Nat):(part l pl k).length=l.length:=by
 simp[part,wakeL];omega
theorem part_zero (l:List Wt)(pl:Int):part l pl 0=l:=by simp[part,wakeL]
theorem part_all (l:List Wt)(pl:Int):part l pl l.length=wakeL l pl:=by simp[part]
theorem part_get {l:List Wt}{pl:Int}{k:Nat}{x:Wt}(hx:l[k]? = some x):(part l pl k)[k]? = some x:=by
 have hk:=(List.getElem?_eq_some_iff.1 hx).1
 rw[part,List.getElem?_append_right (by simp[wakeL];omega)]
 simp[wakeL,Nat.min_eq_left (Nat.le_of_lt hk),hx]
theorem part_succ {l:List Wt}{pl:Int}{k:Nat}{x:Wt}(hx:l[k]? = some x):part l pl (k+1)=(part l pl k).set k (if x.place==pl then ⟨x.who,x.place,true⟩ else x):=by
 have hk:=(List.getElem?_eq_some_iff.1 hx).1
 have hd:l.drop k=x::l.drop (k+1):=by
  rw[List.drop_eq_getElem_cons hk]
  congr 1
  exact(List.getElem?_eq_some_iff.1 hx).2
 rw[part,part,hd,List.take_add_one,hx,List.set_append_right _ _ (by simp[wakeL];omega)]
 simp[wakeL,Nat.min_eq_left (Nat.le_of_lt hk)]
theorem part_same {l:List Wt}{pl:Int}{k:Nat}{x:Wt}(hx:l[k]? = some x)(h:(if x.place==pl then (⟨x.who,x.place,true⟩:Wt) else x)=x):part l pl (k+1)=part l pl k:=by
 rw[part_succ hx,h]
 have hg:=List.getElem?_eq_some_iff.1 (part_get (pl:=pl) hx)
 have:=List.set_getElem_self hg.1
 rw[hg.2] at this
 exact this
theorem woken_succ {l:List Wt}{k:Nat}{x:Wt}(hx:l[k]? = some x)(pl:Int):wokenL (l.take (k+1)) pl=wokenL (l.take k) pl++if x.place==pl&&!x.wok then [x.who] else []:=by
 rw[wokenL,List.take_add_one,hx]
 simp only[wokenL,Option.toList_some,List.filter_append,List.map_append]
 cases h:(x.place==pl&&!x.wok)<;>simp[h]
theorem woken_len (l:List Wt)(pl:Int):(wokenL l pl).length≤l.length:=by
 rw[wokenL,List.length_map]
 exact List.length_filter_le _ _
theorem mark {T E:TypeId}{w:World}{r g k:Nat}{v:Value}{l:List Wt}{x:Wt}(h:HubAt T E w r v l (some g))(hET:E≠T)(hx:l[k]? = some x) :
  HubAt T E (w.setCell ⟨g,k*3+2,none⟩ (.bool true)) r v (l.set k ⟨x.who,x.place,true⟩) (some g):=by
 obtain⟨hp,hs,hm⟩:=h
 obtain⟨c,rfl,hr⟩:=hs.own_row
 have hgr:=hr.ne hp hET
 refine⟨hp.far (p:=⟨g,k*3+2,none⟩) hgr.symm _,?_,fun _=>⟨_,rfl⟩⟩
 rw[List.length_set,fl_set l k x hx]
 exact Sl.row (hr.set _ _)
theorem wake_any (w:World)(r:Nat)(v:Value)(l:List Wt)(own:Option Nat)(pl:Int)(h:HubAt 175 220 w r v l own)(hl:l.length≤1000) :
  Calls Tryz.prog 116 #[.pointer (some ⟨r,0,none⟩),.int .i64 pl] w fun e w'=>∃ v' own',e = .returned v'∧Sl w' 3 1 v' (wokenL l pl).length ((wokenL l pl).map ci) own'∧HubAt 175 220 w' r v (wakeL l pl) own∧Fr own.toList w w'∧(∀ g,own'=some g→w.heap.size≤g)∧(0<(wokenL l pl).length→∃ g,own'=some g):=by
 obtain⟨i3,hi,hz0,hz1,hz2⟩:=info_parts info3
 have hrn:=h.own_ne (by decide)
 have hrl:=h.1.lt
 obtain⟨a,c,rfl⟩:=h.2.1.form
 have c0:=h.1.cell 0
 have hown:∀ g,own=some g→g<w.heap.size:=by
  intro g hg
  subst hg
  obtain⟨c',_,hr⟩:=h.2.1.own_row
  exact hr.lt
 have HO:=hid hown
 clear hown
 have h0:HubAt 175 220 w r (.slice a l.length c) (part l pl 0) own:=by rw[part_zero];exact h
 go_enter Tryz.func116,Tryz.ntmps116
 go_wp2
 clear c0 h
 go_loopw [5,6,7,13] (fun v' _ _ i wr=>∃ (k:Nat) (own':Option Nat),k≤l.length∧i = .int .i64 k∧Sl wr 3 1 v' (wokenL (l.take k) pl).length ((wokenL (l.take k) pl).map ci) own'∧HubAt 175 220 wr r (.slice a l.length c) (part l pl k) own∧Fr own.toList w wr∧(∀ g,own'=some g→w.heap.size≤g)∧(0<(wokenL (l.take k) pl).length→∃ g,own'=some g)) (fun _ _ _ i _=>l.length - (intOf i).toNat)
 case atStart=>exact⟨0,none,Nat.zero_le _,rfl,Sl.nil _ _ _,h0,Fr.refl _ _,(by simp),(by simp[wokenL])⟩
 case round =>
  obtain⟨k,own',hk,rfl,hs,h1,fr,ho,hm⟩:=hrel
  clear h0
  by_cases hlt:k<l.length
  ·have hx:l[k]? = some l[k]:=List.getElem?_eq_getElem hlt
   obtain⟨x,hx'⟩:∃ x,l[k]=x:=⟨_,rfl⟩
   rw[hx'] at hx
   clear hx'
   have hk1:(k:Int)<(l.length:Int):=by omega
   obtain⟨g,c2,hv,rfl,hr,q0,q1,q2⟩:=h1.elem (part_get hx)
   have c0:=h1.1.cell 0
   have hsucc:=woken_succ hx pl
   have hps:=part_succ (pl:=pl) hx
   have hpg:=part_get (pl:=pl) hx
   have hpm:=part_same (pl:=pl) hx
   have hlen:=woken_len (l.take k) pl
   have hlk:(l.take k).length≤k:=List.length_take_le _ _
   rw[part_length] at hv hr
   generalize hA:wokenL (l.take k) pl=A at hs hm hsucc hlen
   generalize hB:wokenL (l.take (k+1)) pl=B at hsucc
   generalize hM:part l pl k=M at h1 hr hps hpg hpm
   generalize hN:part l pl (k+1)=N at hps hpm
   have HA:=hid hA
   have HB:=hid hB
   have HM:=hid hM
   have HN:=hid hN
   clear hx hA hB hM hN
   cases hv
   obtain⟨a',c',rfl⟩:=hs.form
   cases hpe:x.place==pl
   ·rw[hpe] at hsucc hpm
    simp at hsucc hpm
    have HS:=hid hsucc
    have HP:=hid hpm
    clear hsucc hpm hps hpg
    go_wp2
    go_roundw
    case rel=>exact⟨k+1,own',by omega,by go_num,by rw[HB.out,HS.out];exact hs,by rw[HN.out,HP.out];exact h1,fr,ho,by rw[HB.out,HS.out];exact hm⟩
    case measure=>simp[intOf];omega
   ·obtain⟨xw,xp,xb⟩:=x
    cases xb
    ·rw[hpe] at hsucc hps
     simp at hsucc hps
     have HS:=hid hsucc
     have HP:=hid hps
     have hmk:=mark h1 (by decide) hpg
     have f2:=hr.frozen (k*3+2)
     have fr2:Fr [g] wr (wr.setCell ⟨g,k*3+2,none⟩ (.bool true)):=(Fr.refl [g] wr).setCell (by simp) _
     have hgl:g<w.heap.size:=HO.out g rfl
     have hs2:=hs.fr fr2 (fun q hq=>by have:=ho q (by simpa using hq);simp;omega) hm
     have hn0:A.length+1≤maxLen:=by unfold maxLen;omega
     clear hsucc hpm hps hpg
     go_wp2_with (at_builtin;(refine wpList_append_sl rfl (.tmp 38) (.tmp 43) 22 rfl i3 _ 8 Tryz.underlying22 hi hz0 hz1 hz2 rfl (by decide) _ own' rfl (hs2.fr0 ((Fr.refl [] _).alloc _)) _ 1 1 [ci xw] rfl rfl (Cells.one (new_at (t:=3) (cs:=#[ci xw]) (by simp))) (by simp[ci,Value.oneCell']) hn0 (by omega) ?_;intro v' w2 own2 hs1 hf1 ho1 hm1);have fr1:Fr own'.toList (wr.setCell ⟨g,k*3+2,none⟩ (.bool true)) w2:=((Fr.refl _ _).alloc _).trans hf1;clear hf1)
     go_roundw
     case rel =>
      have ho2:∀ g,own2=some g→w.heap.size≤g:=by
       intro g2 hg2
       rcases ho1 with ho1|⟨g3,ho1,hg3⟩
       ·exact ho g2 (ho1 ▸ hg2)
       ·rw[ho1] at hg2
        cases hg2
        have:=fr.size
        simp at hg3
        omega
      refine⟨k+1,own2,by omega,by go_num,?_,?_,(fr.trans fr2).step fr1 (fun q hq=>.inr (ho q (by simpa using hq))),ho2,fun _=>hm1 (by omega)⟩
      ·rw[HB.out,HS.out]
       simpa[ci] using hs1
      ·rw[HN.out,HP.out]
       exact hmk.fr fr1 (fun hq=>by have:=ho r (by simpa using hq);omega) (fun q hq hq'=>by have:=ho q (by simpa using hq');simp at hq;omega)
     case measure=>simp[intOf];omega
    ·rw[hpe] at hsucc hpm
     simp at hsucc hpm
     have HS:=hid hsucc
     have HP:=hid hpm
     clear hsucc hpm hps hpg
     go_wp2
     go_roundw
     case rel=>exact⟨k+1,own',by omega,by go_num,by rw[HB.out,HS.out];exact hs,by rw[HN.out,HP.out];exact h1,fr,ho,by rw[HB.out,HS.out];exact hm⟩
     case measure=>simp[intOf];omega
  ·obtain rfl:k=l.length:=by omega
   rw[List.take_length] at hs hm
   rw[part_all] at h1
   go_wp2
   go_ret
   exact⟨_,own',rfl,hs,h1,fr,ho,hm⟩
end Go.Proofs.YtjmkkcckfbnmeaaGreatDoor.Hb
namespace Go.Proofs.YtjmkkcckfbnmeaaGreatDoor.Hb
open Go.RowKit
def ofM (x:M.Wt):Wt:=⟨x.who,x.place,x.wok⟩
def ofL (l:List M.Wt):List Wt:=l.map ofM
theorem has_of (l:List M.Wt)(who:Int):has who (ofL l)=M.has who l:=by
 unfold has at? M.has ofL
 rw[List.findIdx?_isSome,List.any_map]
 rfl
theorem at_of (l:List M.Wt)(who:Int):at? who (ofL l)=l.findIdx? fun x=>x.who==who:=by
 unfold at? ofL
 rw[List.findIdx?_map]
 rfl
theorem rem_of (l:List M.Wt)(who:Int):remL (ofL l) who=ofL (M.remL l who):=by
 unfold remL M.remL
 rw[at_of,List.eraseP_eq_eraseIdx]
 cases l.findIdx? fun x=>x.who==who with
 | none=>rfl
 | some k=>simp[ofL,List.eraseIdx_eq_take_drop_succ,List.map_take,List.map_drop]
theorem add_of (l:List M.Wt)(who pl:Int):addL (ofL l) who pl=ofL (M.addL l who pl):=by
 unfold addL M.addL
 rw[has_of]
 cases M.has who l<;>simp[ofL,ofM]
theorem wake_of (l:List M.Wt)(pl:Int):wakeL (ofL l) pl=ofL (M.wakeL l pl):=by
 unfold wakeL M.wakeL ofL
 rw[List.map_map,List.map_map]
 apply List.map_congr_left
 intro x _
 by_cases h:x.place=pl
 ·simp[ofM,h]
 ·have h2:¬ (ofM x).place=pl:=h
  simp[h2,h]
theorem woken_of (l:List M.Wt)(who:Int):isWoken (ofL l) who=M.isWoken l who:=by
 unfold isWoken M.isWoken
 rw[at_of]
 induction l with
 | nil=>rfl
 | cons x l ih =>
  rw[List.findIdx?_cons,List.find?_cons]
  cases hx:x.who==who with
  | true=>simp[ofL,ofM]
  | false =>
   simp only[Bool.false_eq_true,if_false]
   rw[←ih]
   cases l.findIdx? fun x=>x.who==who with
   | none=>rfl
   | some k=>simp[ofL]
structure HAt (w:World)(B r:Nat)(l:List M.Wt):Prop where
 at_:∃ v own,HubAt 175 220 w r v (ofL l) own∧∀ g,own=some g→B≤g
abbrev Ts:List TypeId:=[175,220]
theorem HAt.fr0 {w w':World}{B r:Nat}{l:List M.Wt}(h:HAt w B r l)(hf:Fr [] w w'):HAt w' B r l:=by
 obtain⟨v,own,h1,h2⟩:=h
 exact⟨v,own,h1.fr0 hf,h2⟩
theorem HAt.frx {w w':World}{B r:Nat}{l:List M.Wt}{Us:List TypeId}(h:HAt w B r l)(hf:FrX B Us [] w w')(h1:175∉Us)(h2:220∉Us):HAt w' B r l:=by
 obtain⟨v,own,⟨k1,k2,k3⟩,k4⟩:=h
 refine⟨v,own,⟨k1.frx hf h1 (by simp),?_,k3⟩,k4⟩
 rcases k2 with⟨h0,a,hv,e1,e2,e3,e4⟩|⟨g,c,h0,hv,hr⟩
 ·have hn:(ofL l).length=0:=by
   rcases Nat.eq_zero_or_pos (ofL l).length with h|h
   ·exact h
   ·obtain⟨g,hg⟩:=k3 h
    rw[h0] at hg
    cases hg
  have e5:fl (ofL l)=[]:=List.eq_nil_of_length_eq_zero (by omega)
  exact .inl ⟨h0,a,hv,e1,e2,by rw[e5];exact Cells.nil _,e4⟩
 ·exact .inr ⟨g,c,h0,hv,hr.frx hf h2 (by simp)⟩
theorem HubAt.tys {w:World}{B r:Nat}{v:Value}{l:List Wt}{own:Option Nat}(h:HubAt 175 220 w r v l own)(hr:B≤r)(ho:∀ g,own=some g→B≤g) :
  (∀ x,x∈r::own.toList→B≤x)∧∀ x,x∈r::own.toList→∃ t,t∈Ts∧tyOf w x=some t:=by
 refine⟨fun x hx=>?_,fun x hx=>?_⟩
 ·rcases List.mem_cons.1 hx with rfl|hx
  ·exact hr
  ·exact ho x (by simpa using hx)
 ·rcases List.mem_cons.1 hx with rfl|hx
  ·exact⟨_,List.mem_cons_self ..,h.1.ty⟩
  ·have hx':own=some x:=by simpa using hx
   obtain⟨c,_,hrow⟩:=(hx' ▸ h.2.1).own_row
   exact⟨_,by simp,hrow.ty⟩
theorem hnew (w:World)(B:Nat):Calls Tryz.prog 51 #[] w fun e w'=>∃ r,e = .returned (.pointer (some ⟨r,0,none⟩))∧w.heap.size≤r∧HAt w' B r []∧Fr [] w w' :=
 (new_any w).mono fun _ _ ⟨r,he,h1,h2,h3⟩=>⟨r,he,h1,⟨_,_,h2,by simp⟩,h3⟩
theorem hadd (w:World)(B r:Nat)(l:List M.Wt)(who pl:Int)(h:HAt w B r l)(hB:B≤w.heap.size)(hr:B≤r)(hl:l.length≤900) :
  Calls Tryz.prog 167 #[.pointer (some ⟨r,0,none⟩),.int .i64 who,.int .i64 pl] w fun e w'=>e = .returned (.bool (!M.has who l))∧HAt w' B r (M.addL l who pl)∧FrX B Ts [] w w':=by
 obtain⟨v,own,h1,h2⟩:=h
 refine(add_any w r v _ own who pl h1 (by simpa[ofL] using hl)).mono ?_
 rintro e w' ⟨v',own',rfl,k1,k2,k3⟩
 obtain⟨t1,t2⟩:=h1.tys hr h2
 refine⟨by rw[has_of],⟨v',own',by rw[←add_of];exact k1,fun g hg=>?_⟩,FrX.of_frT k2 t1 t2⟩
 rcases k3 with k3|⟨g',k3,k4⟩
 ·exact h2 g (k3 ▸ hg)
 ·rw[k3] at hg
  cases hg
  omega
theorem hrem (w:World)(B r:Nat)(l:List M.Wt)(who:Int)(h:HAt w B r l)(hB:B≤w.heap.size)(hr:B≤r)(hl:l.length≤900) :
  Calls Tryz.prog 117 #[.pointer (some ⟨r,0,none⟩),.int .i64 who] w fun e w'=>e = .returned (.bool (M.has who l))∧HAt w' B r (M.remL l who)∧FrX B Ts [] w w':=by
 obtain⟨v,own,h1,h2⟩:=h
 refine(remove_any w r v _ own who h1 (by simp[ofL];omega)).mono ?_
 rintro e w' ⟨v',own',rfl,k1,k2,k3⟩
 obtain⟨t1,t2⟩:=h1.tys hr h2
 refine⟨by rw[has_of],⟨v',own',by rw[←rem_of];exact k1,fun g hg=>?_⟩,FrX.of_frT k2 t1 t2⟩
 rcases k3 with k3|⟨g',k3,k4⟩
 ·exact h2 g (k3 ▸ hg)
 ·rw[k3] at hg
  cases hg
  omega
theorem hwoken (w:World)(B r:Nat)(l:List M.Wt)(who:Int)(h:HAt w B r l)(hl:l.length≤900) :
  Calls Tryz.prog 100 #[.pointer (some ⟨r,0,none⟩),.int .i64 who] w fun e w'=>e = .returned (.bool (M.isWoken l who))∧Fr [] w w':=by
 obtain⟨v,own,h1,h2⟩:=h
 refine(woken_any w r v _ own who h1 (by simp[ofL];omega)).mono ?_
 rintro e w' ⟨rfl,k⟩
 exact⟨by rw[woken_of],k⟩
theorem hwake (w:World)(B r:Nat)(l:List M.Wt)(pl:Int)(h:HAt w B r l)(hl:l.length≤900)(hr:B≤r) :
  Calls Tryz.prog 116 #[.pointer (some ⟨r,0,none⟩),.int .i64 pl] w fun e w'=>(∃ v,e = .returned v)∧HAt w' B r (M.wakeL l pl)∧FrX B Ts [] w w':=by
 obtain⟨v,own,h1,h2⟩:=h
 refine(wake_any w r v _ own pl h1 (by simp[ofL];omega)).mono ?_
 rintro e w' ⟨v',own',rfl,_,k1,k2,_,_⟩
 obtain⟨t1,t2⟩:=h1.tys hr h2
 exact⟨⟨_,rfl⟩,⟨v,own,by rw[←wake_of];exact k1,h2⟩,FrX.of_frT k2 (fun x hx=>t1 x (List.mem_cons_of_mem _ hx)) (fun x hx=>t2 x (List.mem_cons_of_mem _ hx))⟩
end Go.Proofs.YtjmkkcckfbnmeaaGreatDoor.Hb
namespace Go.Proofs.YtjmkkcckfbnmeaaGreatDoor.Lm
open Go.RowKit
abbrev El:=Int × Int
def cs (x:El):List Value:=[.int .i64 x.1,.int .i64 x.2]
theorem cs_len (x:El):(cs x).length=2:=rfl
theorem cs_one {x:El} : ∀ u∈cs x,u.oneCell'=true:=by
 intro u hu
 simp only[cs,List.mem_cons,List.not_mem_nil,or_false] at hu
 rcases hu with rfl|rfl<;>rfl
theorem infoE:(Tryz.prog.info? 270).map (fun i=>(i.zero,i.size,i.bytes))=some (some (.agg #[.int .i64 0,.int .i64 0]),2,16):=by kernel_rfl
def firstP (p:El→Bool)(l:List El):Int:=match l.findIdx? p with|some k=>(k:Int)|none=>-1
theorem firstP_yes {p:El→Bool}{l:List El}{k:Nat}{x:El}(h:∀ (j:Nat) y,l[j]? = some y→j<k→p y=false)(hx:l[k]? = some x)(hp:p x=true):firstP p l=(k:Int):=by
 have hk:=List.getElem?_eq_some_iff.1 hx
 have:l.findIdx? p=some k:=by
  rw[List.findIdx?_eq_some_iff_getElem]
  refine⟨hk.1,by rw[hk.2];exact hp,fun j hj=>?_⟩
  have:=h j (l[j]'(Nat.lt_trans hj hk.1)) (List.getElem?_eq_getElem _) hj
  rw[this]
  decide
 rw[firstP,this]
theorem firstP_no {p:El→Bool}{l:List El}(h:∀ (j:Nat) y,l[j]? = some y→p y=false):firstP p l = -1:=by
 have:l.findIdx? p=none:=by
  rw[List.findIdx?_eq_none_iff]
  intro x hx
  obtain⟨j,hj⟩:=List.getElem?_of_mem hx
  exact h j x hj
 rw[firstP,this]
theorem firstP_any (p:El→Bool)(l:List El):decide (firstP p l ≥ 0)=l.any p:=by
 unfold firstP
 cases h:l.findIdx? p with
 | none =>
  rw[List.findIdx?_eq_none_iff] at h
  have:l.any p=false:=by rw[List.any_eq_false];intro x hx;rw[h x hx];decide
  rw[this]
  rfl
 | some k =>
  rw[List.findIdx?_eq_some_iff_getElem] at h
  obtain⟨hk,hp,_⟩:=h
  have:l.any p=true:=List.any_eq_true.2 ⟨_,List.getElem_mem hk,hp⟩
  rw[this]
  simp
theorem index_any (w:World)(B:Nat)(v:Value)(l:List El)(p:El→Bool)(b:Nat)(h:Own w B 270 2 v l.length (flat cs l))(hl:l.length≤1000)
  (hp:∀ w',Fr [] w w'→∀ x,x∈l→Calls Tryz.prog 222 #[.agg #[.int .i64 x.1,.int .i64 x.2],.pointer (some ⟨b,0,none⟩)] w' fun e w''=>e = .returned (.bool (p x))∧Fr [] w' w'') :
  Calls Tryz.prog 221 #[v,.func (.func 222) #[] #[.pointer (some ⟨b,0,none⟩)]] w fun e w'=>e = .returned (.int .i64 (firstP p l))∧Fr [] w w':=by
 obtain⟨a,c,rfl⟩:=h.form
 have HP:=hid hp
 clear hp
 go_enter Tryz.func221,Tryz.ntmps221
 go_wp2
 go_loopw [5,8] (fun _ i wr=>∃ k:Nat,k≤l.length∧i = .int .i64 k∧(∀ (j:Nat) y,l[j]? = some y→j<k→p y=false)∧Fr [] w wr) (fun _ i _=>l.length - (intOf i).toNat)
 case atStart=>exact⟨0,Nat.zero_le _,rfl,fun _ _ _ h=>by omega,Fr.refl _ _⟩
 case round =>
  obtain⟨k,hk,rfl,hno,fr⟩:=hrel
  by_cases hlt:k<l.length
  ·have hx:l[k]? = some l[k]:=List.getElem?_eq_getElem hlt
   obtain⟨x,hx'⟩:∃ x,l[k]=x:=⟨_,rfl⟩
   rw[hx'] at hx
   clear hx'
   have hk1:(k:Int)<(l.length:Int):=by omega
   obtain⟨g,c2,hg,hv,hr,hgl,hcell⟩:=(h.fr0 fr).cell cs_len rfl hx
   cases hv
   have q0:wr.cell? ⟨g,k*2,none⟩=some (.int .i64 x.1):=hcell 0 _ (by omega) rfl
   have q1:wr.cell? ⟨g,k*2+1,none⟩=some (.int .i64 x.2):=hcell 1 _ (by omega) rfl
   have hcall:=HP.out wr fr x (List.mem_of_getElem? hx)
   have HX:=hid hx
   have HN:=hid hno
   have HC:=hid hcall
   clear hx hno hcall hr hcell
   cases hb:p x
   ·have HB:=hid hb
    clear hb
    go_wp2_with fail
    refine HC.out.mono ?_
    rintro e w' ⟨rfl,f2⟩
    rw[HB.out]
    go_wp2_with fail
    go_roundw
    case rel=>exact⟨k+1,by omega,by go_num,fun j y hy hj=>by
     by_cases e:j=k
     ·subst e
      rw[HX.out] at hy
      cases hy
      exact HB.out
     ·exact HN.out j y hy (by omega),fr.trans f2⟩
    case measure=>simp[intOf];omega
   ·have HB:=hid hb
    have HF:=hid (firstP_yes HN.out HX.out hb)
    clear hb
    go_wp2_with fail
    refine HC.out.mono ?_
    rintro e w' ⟨rfl,f2⟩
    rw[HB.out]
    go_wp2_with fail
    go_ret
    exact⟨ret_int HF.out.symm,fr.trans f2⟩
  ·obtain rfl:k=l.length:=by omega
   have HF:=hid (firstP_no (p:=p) (l:=l) fun j y hy=>hno j y hy (List.getElem?_eq_some_iff.1 hy).1)
   clear hno
   go_wp2
   go_ret
   exact⟨ret_int HF.out.symm,fr⟩
theorem zeroE (w:World):(zeroValue 270).run Tryz.prog w = .ok (.agg #[.int .i64 0,.int .i64 0]) w:=by kernel_rfl
theorem delete_any (w:World)(g cap k:Nat)(l:List El)(hr:Row w 270 2 g l.length cap (flat cs l))(hk:k<l.length)(hl:l.length≤1000) :
  Calls Tryz.prog 179 #[.slice (some ⟨g,0,none⟩) l.length cap,.int .i64 k,.int .i64 ((k:Int)+1)] w fun e w'=>e = .returned (.slice (some ⟨g,0,none⟩) (l.length - 1) cap)∧Row w' 270 2 g (l.length - 1) cap (flat cs (l.take k++l.drop (k+1)))∧Fr [g] w w':=by
 obtain⟨i2,hi,hz0,hz1,hz2⟩:=info_parts infoE
 obtain⟨n,hn⟩:∃ n,n=l.length:=⟨_,rfl⟩
 have hle:=hr.le
 have hcm:=hr.cap_le
 unfold maxLen at hcm
 rw[←hn] at hle hr hk hl ⊢
 have hnews:Cells w (some ⟨g,(k+1)*2,none⟩) (flat cs (l.drop (k+1))):=by
  have:=hr.cells.drop ((k+1)*2)
  rw[flat_drop cs_len]
  simpa using this
 have hlen:(flat cs (l.drop (k+1))).length=(n - (k+1))*2:=by rw[flat_length cs_len,List.length_drop,←hn]
 obtain⟨A,hA,hsrc⟩:∃ A:Addr,(if cap=k+1 then some (⟨g,0,none⟩:Addr) else some ⟨g,(k+1)*2,none⟩)=some A∧Cells w (some A) (flat cs (l.drop (k+1))):=by
  by_cases h:cap=k+1
  ·refine⟨⟨g,0,none⟩,by simp[h],?_⟩
   have e0:flat cs (l.drop (k+1))=[]:=List.eq_nil_of_length_eq_zero (by omega)
   rw[e0]
   exact Cells.nil _
  ·exact⟨_,by simp[h],hnews⟩
 have hkc:k≤cap:=by omega
 have hkc1:k+1≤cap:=by omega
 have hi0:(0:Int)≤(k:Int)+1:=by omega
 have hi1:(k:Int)+1≤(n:Int):=by omega
 have hone:=flat_cells (fun x=>cs_one (x:=x)) (l.drop (k+1))
 have H1:=hid hn
 have H2:=hid hlen
 have H3:=hid hone
 clear hn hlen hone hnews
 go_enter Tryz.func179,Tryz.ntmps179
 go_wp2_with fail
 go_region_law ((refine step_append_in rfl (.tmp 22) (.tmp 25) 176 rfl i2 Tryz.underlying176 hi hz1 hr.drew k (by omega) (by simp[Act.eval,Act.put]) A (n - (k+1)) (cap - (k+1)) (flat cs (l.drop (k+1))) (by simp[Act.eval,Act.put]) H2.out (hsrc.fr0 ((Fr.refl [] w).drew)) H3.out (by omega) ?_;intro w1 hr1 f1))
 have e1:k+(n - (k+1))=n - 1:=by omega
 have e2:(flat cs l).take (k*2)++flat cs (l.drop (k+1))=flat cs (l.take k++l.drop (k+1)):=by rw[flat_append,flat_take cs_len]
 rw[e1,e2] at hr1
 rw[e1]
 clear e1 e2 hA hsrc hkc hkc1 hi0 hi1
 obtain⟨m,hm⟩:∃ m,m=n - 1:=⟨_,rfl⟩
 have e3:n=m+1:=by omega
 rw[←hm] at hr1 ⊢
 have HM:=hid hm
 subst e3
 clear hm
 have hA2:(if cap=m then some (⟨g,0,none⟩:Addr) else some ⟨g,m*2,none⟩)=some ⟨g,m*2,none⟩:=by rw[if_neg (by omega)]
 have hj0:(m:Int)≤(m:Int)+1:=by omega
 have hj1:m+1≤cap:=hle
 have hj2:m≤m+1:=by omega
 obtain⟨w2,hrun,hr2,f2⟩:=run_clear_row (sz:=2) 176 0 (.agg #[.int .i64 0,.int .i64 0]) Tryz.underlying176 zeroE (by kernel_rfl) (by kernel_rfl) hr1 (m*2) 1 (cap - m) (by omega) (by omega)
 go_wp2
 go_ret
 exact⟨rfl,hr2,((Fr.refl [g] w).drew).trans (f1.trans f2)⟩
theorem delete_head (w:World)(g cap:Nat)(x:El)(q:List El)(hr:Row w 270 2 g (q.length+1) cap (flat cs (x::q)))(hl:q.length+1≤1000) :
  Calls Tryz.prog 179 #[.slice (some ⟨g,0,none⟩) (q.length+1) cap,.int .i64 0,.int .i64 1] w fun e w'=>e = .returned (.slice (some ⟨g,0,none⟩) q.length cap)∧Row w' 270 2 g q.length cap (flat cs q)∧Fr [g] w w':=by
 have:=delete_any w g cap 0 (x::q) hr (by simp) (by simpa using hl)
 simpa using this
end Go.Proofs.YtjmkkcckfbnmeaaGreatDoor.Lm
namespace Go.Proofs.YtjmkkcckfbnmeaaGreatDoor.Ck
open Go.RowKit
structure ClockAt (w:World)(B g:Nat)(now:Int)(al:List (Int × Int)):Prop where
 len:al.length≤100
 at_:∃ va,Holds w g 178 #[.int .i64 now,va]∧Own w B 270 2 va al.length (flat Lm.cs al)
abbrev Ts:List TypeId:=[178,270]
theorem ClockAt.fr0 {w w':World}{B g:Nat}{now:Int}{al:List (Int × Int)}(h:ClockAt w B g now al)(hf:Fr [] w w'):ClockAt w' B g now al:=by
 obtain⟨a,va,h1,h2⟩:=h
 exact⟨a,va,h1.fr hf (by simp),h2.fr0 hf⟩
theorem ClockAt.frx {w w':World}{B g:Nat}{now:Int}{al:List (Int × Int)}{Us:List TypeId}(h:ClockAt w B g now al)(hf:FrX B Us [] w w')(h1:178∉Us)(h2:270∉Us):ClockAt w' B g now al:=by
 obtain⟨a,va,p,q⟩:=h
 exact⟨a,va,p.frx hf h1 (by simp),q.frx0 hf h2⟩
theorem new_any (w:World)(B:Nat):Calls Tryz.prog 52 #[] w fun e w'=>∃ g,e = .returned (.pointer (some ⟨g,0,none⟩))∧w.heap.size≤g∧ClockAt w' B g 0 []∧Fr [] w w':=by
 go_enter Tryz.func52,Tryz.ntmps52
 go_wp2
 go_ret
 exact⟨_,rfl,Nat.le_refl _,⟨by simp,_,Holds.new _ _ _,Own.nil _ _ _ _⟩,(Fr.refl _ _).alloc _⟩
theorem now_any (w:World)(B g:Nat)(now:Int)(al:List (Int × Int))(h:ClockAt w B g now al):Calls Tryz.prog 146 #[.pointer (some ⟨g,0,none⟩)] w fun e w'=>e = .returned (.int .i64 now)∧w=w':=by
 obtain⟨a,va,h1,h2⟩:=h
 have c0:=h1.cell 0
 go_enter Tryz.func146,Tryz.ntmps146
 go_wp2
 go_ret
 exact⟨rfl,rfl⟩
theorem tick_yes (w:World)(B g:Nat)(now n:Int)(al:List (Int × Int))(h:ClockAt w B g now al)(hg:B≤g)(h0:0≤n)(h1:n≤1000000)(h2:0≤now)(h3:now≤1000000000) :
  Calls Tryz.prog 76 #[.pointer (some ⟨g,0,none⟩),.int .i64 n] w fun e w'=>e = .returned (.bool true)∧ClockAt w' B g (now+n) al∧FrX B Ts [] w w':=by
 obtain⟨a,va,p1,p2⟩:=h
 have c0:=p1.cell 0
 have z0:=p1.frozen 0
 have hle:n≤1099511627776 - now:=by omega
 have hnn:¬ n<0:=by omega
 go_enter Tryz.func76,Tryz.ntmps76
 go_wp2
 go_ret
 refine⟨rfl,⟨a,va,by simpa using p1.set 0 (.int .i64 (now+n)),?_⟩,FrX.of_frT ((Fr.refl [g] w).setCell (by simp) _) (by simpa using hg) (fun x hx=>⟨178,by simp,by simp at hx;subst hx;exact p1.ty⟩)⟩
 refine p2.fr ((Fr.refl [g] w).setCell (by simp) _) (fun k hk=>?_)
 have:=(p2.ty hk).1
 simp only[List.mem_singleton]
 rintro rfl
 rw[p1.ty] at this
 cases this
theorem is_any (w:World)(b:Nat)(who:Int)(x:Int × Int)(hc:w.cell? ⟨b,0,none⟩=some (.int .i64 who)) :
  Calls Tryz.prog 222 #[.agg #[.int .i64 x.1,.int .i64 x.2],.pointer (some ⟨b,0,none⟩)] w fun e w'=>e = .returned (.bool (x.1==who))∧Fr [] w w':=by
 have hB:=block_lt_of_cell hc
 go_enter Tryz.func222,Tryz.ntmps222
 go_wp2
 go_ret
 exact⟨rfl,(Fr.refl _ _).alloc _⟩
def place (al:List (Int × Int))(who:Int):Int:=Lm.firstP (fun a=>a.1==who) al
theorem find_any (w:World)(B g:Nat)(now who:Int)(al:List (Int × Int))(h:ClockAt w B g now al) :
  Calls Tryz.prog 178 #[.pointer (some ⟨g,0,none⟩),.int .i64 who] w fun e w'=>e = .returned (.int .i64 (place al who))∧Fr [] w w':=by
 have f0:Fr [] w (w.alloc (.cells #[.int .i64 who] 3)):=(Fr.refl _ _).alloc _
 have b0:=Holds.new w 3 #[.int .i64 who]
 have y0:(w.alloc (.cells #[.int .i64 who] 3)).cell? ⟨w.heap.size,0,none⟩=some (.int .i64 who):=b0.cell 0
 obtain⟨a,va,p1,p2⟩:=h.fr0 f0
 have c1:=p1.cell 1
 have hbl:=b0.lt
 have HI:=hid (Lm.index_any _ B va al (fun x=>x.1==who) w.heap.size p2 (by omega) (fun w' fw x _=>is_any w' w.heap.size who x (fw.cell y0 hbl (by simp))))
 obtain⟨aa,ca,rfl⟩:=p2.form
 go_enter Tryz.func178,Tryz.ntmps178
 go_wp2_with fail
 refine HI.out.mono ?_
 rintro e w1 ⟨rfl,f1⟩
 go_wp2_with fail
 go_ret
 exact⟨rfl,f0.trans f1⟩
theorem place_cases (al:List (Int × Int))(who:Int):(place al who = -1∧M.dropA al who=al∧∀ now,M.due al now who=false) ∨
  ∃ (k:Nat) (x:Int × Int),al[k]? = some x∧place al who=(k:Int)∧M.dropA al who=al.take k++al.drop (k+1)∧∀ now,M.due al now who=decide (x.2≤now):=by
 unfold place Lm.firstP M.dropA M.due
 rw[List.eraseP_eq_eraseIdx]
 cases h:al.findIdx? fun a=>a.1==who with
 | none =>
  left
  refine⟨rfl,rfl,fun now=>?_⟩
  rw[List.findIdx?_eq_none_iff] at h
  have:al.find? (fun a=>a.1==who)=none:=by
   rw[List.find?_eq_none]
   intro x hx
   rw[h x hx]
   decide
  rw[this]
 | some k =>
  right
  have hk:=List.findIdx?_eq_some_iff_getElem.1 h
  obtain⟨h1,h2,h3⟩:=hk
  refine⟨k,al[k],List.getElem?_eq_getElem h1,rfl,List.eraseIdx_eq_take_drop_succ al k,fun now=>?_⟩
  have:al.find? (fun a=>a.1==who)=some al[k]:=by
   rw[List.find?_eq_some_iff_append]
   refine⟨h2,al.take k,al.drop (k+1),?_,?_⟩
   ·rw[←List.drop_eq_getElem_cons h1,List.take_append_drop]
   ·intro x hx
    obtain⟨j,hj,rfl⟩:=List.mem_iff_getElem.1 hx
    have hjk:j<k:=by simp at hj;omega
    have:=h3 j hjk
    rw[List.getElem_take]
    simpa using this
  rw[this]
theorem due_any (w:World)(B g:Nat)(now who:Int)(al:List (Int × Int))(h:ClockAt w B g now al) :
  Calls Tryz.prog 101 #[.pointer (some ⟨g,0,none⟩),.int .i64 who] w fun e w'=>e = .returned (.bool (M.due al now who))∧Fr [] w w':=by
 have hat:Calls Tryz.prog 135 #[.pointer (some ⟨g,0,none⟩),.int .i64 who] w fun e w'=>(∃ (at_:Int) (ok:Bool),e = .returned (.tuple #[.int .i64 at_,.bool ok])∧M.due al now who=(ok&&decide (at_≤now)))∧Fr [] w w':=by
  rcases place_cases al who with⟨h1,_,h3⟩|⟨k,x,hx,h1,_,h3⟩
  ·have HP:=hid h1
   have HD:=hid (h3 now)
   clear h1 h3
   go_enter Tryz.func135,Tryz.ntmps135
   go_wp2_with fail
   refine(find_any w B g now who al h).mono ?_
   rintro e w1 ⟨rfl,f1⟩
   rw[HP.out]
   go_wp2_with fail
   go_ret2
   exact⟨⟨0,false,rfl,by rw[HD.out];rfl⟩,f1⟩
  ·have HP:=hid h1
   have HD:=hid (h3 now)
   have hk:=(List.getElem?_eq_some_iff.1 hx).1
   clear h1 h3
   go_enter Tryz.func135,Tryz.ntmps135
   go_wp2_with fail
   refine(find_any w B g now who al h).mono ?_
   rintro e w1 ⟨rfl,f1⟩
   rw[HP.out]
   obtain⟨a,va,p1,p2⟩:=h.fr0 f1
   obtain⟨gq,cq,hgq,rfl,hr,hgl,hcell⟩:=p2.cell Lm.cs_len rfl hx
   have q1:w1.cell? ⟨gq,k*2+1,none⟩=some (.int .i64 x.2):=hcell 1 _ (by omega) rfl
   have c1:=p1.cell 1
   have hk1:(k:Int)<(al.length:Int):=by omega
   clear hcell hr hx h
   go_wp2_with fail
   go_ret2
   exact⟨⟨x.2,true,rfl,by rw[HD.out];rfl⟩,f1⟩
 have HAt:=hid hat
 clear hat
 go_enter Tryz.func101,Tryz.ntmps101
 go_wp2_with fail
 refine HAt.out.mono ?_
 rintro e w1 ⟨⟨at_,ok,rfl,hd⟩,f1⟩
 obtain⟨a,va,p1,p2⟩:=h.fr0 f1
 have c0:=p1.cell 0
 have HD:=hid hd
 clear hd
 cases ok
 ·go_wp2_with fail
  go_ret
  exact⟨ret_bool (by rw[HD.out];rfl),f1⟩
 ·go_wp2_with fail
  go_ret
  exact⟨ret_bool (by rw[HD.out];rfl),f1⟩
theorem drop_any (w:World)(B g:Nat)(now who:Int)(al:List (Int × Int))(h:ClockAt w B g now al)(hg:B≤g) :
  Calls Tryz.prog 118 #[.pointer (some ⟨g,0,none⟩),.int .i64 who] w fun e w'=>(∃ b,e = .returned (.bool b))∧ClockAt w' B g now (M.dropA al who)∧FrX B Ts [] w w':=by
 rcases place_cases al who with⟨h1,h2,_⟩|⟨k,x,hx,h1,h2,_⟩
 ·have HP:=hid h1
  rw[h2]
  clear h1 h2
  go_enter Tryz.func118,Tryz.ntmps118
  go_wp2_with fail
  refine(find_any w B g now who al h).mono ?_
  rintro e w1 ⟨rfl,f1⟩
  rw[HP.out]
  go_wp2_with fail
  go_ret
  exact⟨⟨_,rfl⟩,h.fr0 f1,FrX.of_fr0 f1⟩
 ·have HP:=hid h1
  rw[h2]
  have hk:=(List.getElem?_eq_some_iff.1 hx).1
  clear h1 h2 hx
  go_enter Tryz.func118,Tryz.ntmps118
  go_wp2_with fail
  refine(find_any w B g now who al h).mono ?_
  rintro e w1 ⟨rfl,f1⟩
  rw[HP.out]
  obtain⟨a,va,p1,p2⟩:=h.fr0 f1
  obtain⟨gq,cq,hgq,rfl,hr⟩:=p2.pos (by omega)
  have c1:=p1.cell 1
  have hgg:g≠gq:=fun e=>by
   have:=hr.ty
   rw[←e,p1.ty] at this
   cases this
  clear h
  go_wp2_with fail
  refine(Lm.delete_any w1 gq cq k al hr hk (by omega)).mono ?_
  rintro e w2 ⟨rfl,hr2,f2⟩
  have p1':=p1.fr f2 (by simpa using hgg)
  have d1:=p1'.cell 1
  have t1:=p1'.frozen 1
  clear c1
  go_wp2_with fail
  go_ret
  have hl:(al.take k++al.drop (k+1)).length=al.length - 1:=by simp;omega
  refine⟨⟨_,rfl⟩,⟨by omega,.slice (some ⟨gq,0,none⟩) (al.length - 1) cq,by simpa using p1'.set 1 (.slice (some ⟨gq,0,none⟩) (al.length - 1) cq),by rw[hl];exact .inr ⟨gq,cq,hgq,rfl,hr2.far (fun e=>hgg e.symm) _⟩⟩,?_⟩
  exact((FrX.of_fr0 f1).trans (FrX.of_frT f2 (by simpa using hgq) (fun x hx=>⟨270,by simp,by simp at hx;subst hx;exact hr.ty⟩))).trans (FrX.of_frT ((Fr.refl [g] w2).setCell (by simp) _) (by simpa using hg) (fun x hx=>⟨178,by simp,by simp at hx;subst hx;exact p1'.ty⟩))
theorem dropA_len (al:List (Int × Int))(who:Int):(M.dropA al who).length≤al.length:=List.length_eraseP_le
theorem set_any (w:World)(B g:Nat)(now who at_:Int)(al:List (Int × Int))(h:ClockAt w B g now al)(hB:B≤w.heap.size)(hg:B≤g)(hl:al.length≤90) :
  Calls Tryz.prog 168 #[.pointer (some ⟨g,0,none⟩),.int .i64 who,.int .i64 at_] w fun e w'=>e = .returned (.tuple #[])∧ClockAt w' B g now (M.setA al who at_)∧FrX B Ts [] w w':=by
 obtain⟨i3,hi,hz0,hz1,hz2⟩:=info_parts Lm.infoE
 have hlen:=dropA_len al who
 have hset:M.setA al who at_=M.dropA al who++[(who,at_)]:=rfl
 have hd0:=drop_any w B g now who al h hg
 generalize M.dropA al who=D at hset hlen hd0
 have HS:=hid hset
 have HD:=hid hd0
 clear hset hd0
 go_enter Tryz.func168,Tryz.ntmps168
 go_wp2_with fail
 refine HD.out.mono ?_
 rintro e w1 ⟨⟨b,rfl⟩,hc1,g1⟩
 obtain⟨_,va,p1,p2⟩:=hc1
 obtain⟨aq,cq,rfl⟩:=p2.form
 have c1:=p1.cell 1
 have z1:=p1.frozen 1
 simp at c1
 have hgl:=p1.lt
 have hsz:=g1.size
 have HT:=hid (fun k (hk:ownOf (.slice aq D.length cq)=some k)=>p2.ty hk)
 have HG:=hid (show g∉(ownOf (.slice aq D.length cq)).toList from fun hk=>by
  have:=(p2.ty (g:=g) (by simpa using hk)).1
  rw[p1.ty] at this
  cases this)
 clear h
 go_wp2_with (at_builtin;refine wpList_append_sl rfl (.tmp 13) (.tmp 17) 176 rfl i3 _ 16 Tryz.underlying176 hi hz0 hz1 hz2 rfl (by decide) _ (ownOf (.slice aq D.length cq)) rfl (p2.sl.fr0 ((Fr.refl [] w1).alloc _)) _ 1 1 [.int .i64 who,.int .i64 at_] rfl rfl (fun j u hu=>⟨_,rfl,by rw[at_add,Nat.zero_add,(at_new (cs:=#[.int .i64 who,.int .i64 at_]) (t:=270) (n:=w1.heap.size) rfl).cell j];simpa using hu⟩) (by simp[Value.oneCell']) (by unfold maxLen;omega) (by omega) ?_;intro v2 w2 own2 hs2 hf2 ho2 hm2;obtain⟨a2,c2,rfl⟩:=hs2.form;have f2:Fr (ownOf (.slice aq D.length cq)).toList w1 w2:=((Fr.refl _ w1).alloc _).trans hf2;have p1':=p1.fr f2 HG.out;have d1:=p1'.cell 1;have t1:=p1'.frozen 1;simp at d1;clear c1 z1)
 go_end0
 obtain⟨o2,e2⟩:=own_after (v:=.slice aq D.length cq) (w:=w1.alloc (.cells #[.int .i64 who,.int .i64 at_] 270)) (by simp;omega) (fun k hk=>(HT.out k hk).2) hs2 ho2 (hm2 (by omega))
 have hng:∀ k,ownOf (.slice a2 (D.length+1) c2)=some k→k≠g:=fun k hk=>by
  rw[e2] at hk
  rcases ho2 with h'|⟨x,h',hx⟩
  ·rintro rfl
   exact HG.out (by rw[←h'];simpa using hk)
  ·rw[h'] at hk
   cases hk
   simp at hx
   omega
 rw[HS.out]
 refine⟨rfl,⟨by simp;omega,_,by simpa using p1'.set 1 (.slice a2 (D.length+1) c2),?_⟩,?_⟩
 ·have e:flat Lm.cs (D++[(who,at_)])=flat Lm.cs D++[.int .i64 who,.int .i64 at_]:=by rw[flat_append,flat_one];rfl
  simp only[List.length_append,List.length_cons,List.length_nil,e]
  exact o2.fr ((Fr.refl [g] w2).setCell (by simp) _) (fun k hk=>by simpa using hng k hk)
 ·exact(g1.trans (FrX.of_frT f2 (fun x hx=>(HT.out x (by simpa using hx)).2) (fun x hx=>⟨270,by simp,(HT.out x (by simpa using hx)).1⟩))).trans (FrX.of_frT ((Fr.refl [g] w2).setCell (by simp) _) (by simpa using hg) (fun x hx=>⟨178,by simp,by simp at hx;subst hx;exact p1'.ty⟩))
end Go.Proofs.YtjmkkcckfbnmeaaGreatDoor.Ck
namespace Go.Proofs.YtjmkkcckfbnmeaaGreatDoor.Lc
open Go.RowKit
abbrev El:=Int × ByteArray
def cs (x:El):List Value:=[.int .i64 x.1,.string x.2]
theorem cs_len (x:El):(cs x).length=2:=rfl
theorem cs_one {x:El} : ∀ u∈cs x,u.oneCell'=true:=by
 intro u hu
 simp only[cs,List.mem_cons,List.not_mem_nil,or_false] at hu
 rcases hu with rfl|rfl<;>rfl
theorem infoE:(Tryz.prog.info? 261).map (fun i=>(i.zero,i.size,i.bytes))=some (some (.agg #[.int .i64 0,.string ByteArray.empty]),2,24):=by kernel_rfl
end Go.Proofs.YtjmkkcckfbnmeaaGreatDoor.Lc
