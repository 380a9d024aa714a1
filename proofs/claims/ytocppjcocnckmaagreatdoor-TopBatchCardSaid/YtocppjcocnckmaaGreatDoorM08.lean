/- Walks. -/
import Derived.Test.YtocppjcocnckmaaGreatDoorM00
import Derived.Test.YtocppjcocnckmaaGreatDoorM07
import Derived.Deep.RegionLaw
import Derived.Lib.SliceRun
import Derived.Deep.QuietTactic
import Derived.BigQuiet
set_option maxRecDepth 100000
set_option maxHeartbeats 8000000
set_option linter.all false
open Go.Lib (hid)
namespace Go.Proofs.YtocppjcocnckmaaGreatDoor
open Go.Proofs.Tryz
open Go.RowKit
section
variable {P:Program} {w:World} {e:TypeId} {sz g n cap:Nat} {xs:List Value}
theorem ov (t ty:TypeId)(i:TypeInfo)(ht:P.underlying t=some (.slice e))(hi:P.info? e=some i)(hsize:i.size=sz)(h:Row w e sz g n cap xs)(k:Nat)(hk:k<=n)
  (a:Addr) (m c:Nat) (news:List Value) (hl:news.length=m*sz) (hnews:Cells w (some a) news) (h1:∀ u∈news,u.oneCell'=true) (hroom:k+m<=cap) :
  ∃ w',(Builtin.append_ #[t,t] ty #[.slice (some ⟨g,0,none⟩) k cap,.slice (some a) m c]).run P w = .ok (.slice (some ⟨g,0,none⟩) (k+m) cap) w'/\Row w' e sz g (k+m) cap (xs.take (k*sz)++news)/\Fr [g] w w':=by
 subst hsize
 obtain⟨cur,hg,hnc,hcm,hcs,htake,hxl⟩:=h
 have hfit:k*i.size+news.length<=cur.size:=by rw[hl,hcs,<-Nat.add_mul];exact Nat.mul_le_mul_right _ hroom
 have hnews':∀ j u,news[j]? = some u->w.cell? (a.add j)=some u:=λj u hu=>by
  obtain⟨c,hc,hv⟩:=hnews j u hu
  cases hc
  exact hv
 have hrun:=run_append_room (P:=P) w t ty e i ht hi g k cap cur hg a m c news hl hnews' h1 hroom hfit
 have hkn:k*i.size<=n*i.size:=Nat.mul_le_mul_right _ hk
 have hcl:cur.toList.length=cap*i.size:=by simpa using hcs
 have htk:cur.toList.take (k*i.size)=xs.take (k*i.size):=by rw[<-htake,List.take_take,Nat.min_eq_left hkn]
 refine⟨_,hrun,⟨_,setRow_heap w g cur _ e _ hg,hroom,hcm,?_,?_,?_⟩,⟨rfl,rfl,rfl,by simp,λj _ hj=>setRow_other w g j _ (by simpa using hj)⟩⟩
 ·simp only[List.size_toArray,List.length_append,List.length_take,List.length_drop,Array.length_toList]
  omega
 ·rw[htk]
  have hl2:(xs.take (k*i.size)++news).length=(k+m)*i.size:=by rw[List.length_append,List.length_take,hxl,hl,Nat.min_eq_left hkn,Nat.add_mul]
  rw[<-hl2]
  exact List.take_left
 rw[List.length_append,List.length_take,hxl,hl,Nat.min_eq_left hkn,Nat.add_mul]
theorem eR {ops:Array Oper}{o:Oper}{A:Act}{K:Act->World->Prop}{Q:Exit->Act->World->Prop}{E:Prop}(hgd:o.guard=none)(s x:Operand)(t:TypeId)
  (ho:o.op = .call { callee:=.builtin .append,args:=#[s,x],argTypes:=#[t,t] }) (i:TypeInfo) (ht:P.underlying t=some (.slice e)) (hi:P.info? e=some i) (hsize:i.size=sz) (h:Row w e sz g n cap xs) (k:Nat) (hk:k<=n)
  (hs:A.eval s = .slice (some ⟨g,0,none⟩) k cap) (a:Addr) (m c:Nat) (news:List Value) (hx:A.eval x = .slice (some a) m c) (hl:news.length=m*sz) (hnews:Cells w (some a) news) (h1:∀ u∈news,u.oneCell'=true) (hroom:k+m<=cap)
  (hkk:∀ w',Row w' e sz g (k+m) cap (xs.take (k*sz)++news)->Fr [g] w w'->K (A.put o.dst (.slice (some ⟨g,0,none⟩) (k+m) cap)) w') :
  if Region.wanted o (yielded ops A.tmps)=true then Oper.wp P o A w K Q else E:=by
 have hw:Region.wanted o (yielded ops A.tmps)=true:=by simp[Region.wanted,hgd]
 rw[if_pos hw]
 obtain⟨w',hr,h2,h3⟩:=ov (P:=P) t o.type i ht hi hsize h k hk a m c news hl hnews h1 hroom
 unfold Oper.wp execOp
 simp only[ho,resolve,invoke,builtin,Sem.run_bind,Sem.run_pure,Result.andThen_ok,List.map_toArray,List.map_cons,List.map_nil,hs,hx,hr]
 exact hkk _ h2 h3
theorem ep (t ty:TypeId)(z:Value)(ht:P.underlying t=some (.slice e))(hv:∀ w,(zeroValue e).run P w = .ok z w)(hz:z.cells.size=sz)(h1:z.cells.all (·.oneCell')=true)(h:Row w e sz g n cap xs)(o m c:Nat)(ho:n*sz<=o)(hm:o+m*sz<=cap*sz) :
  ∃ w',(Builtin.clear_ #[t] ty #[.slice (some ⟨g,o,none⟩) m c]).run P w = .ok (.tuple #[]) w'/\Row w' e sz g n cap xs/\Fr [g] w w':=by
 rcases Nat.eq_zero_or_pos m with rfl|hpos
 ·refine⟨w,?_,h,rZ⟩
  simp[Builtin.clear_,run_underlying ht]
 obtain⟨cur,hg,hnc,hcm,hcs,htake,hxl⟩:=h
 have hzl:(Builtin.zeroCells z.cells m).toList.length=m*sz:=by simp[Builtin.zeroCells,hz]
 have hone:∀ u∈(Builtin.zeroCells z.cells m).toList,u.oneCell'=true:=by
  intro u hu
  simp[Builtin.zeroCells] at hu
  obtain⟨j,hj,rfl⟩:=hu
  have hp:0<z.cells.size:=by
   rcases Nat.eq_zero_or_pos z.cells.size with h|h
   ·rw[h] at hj;omega
   exact h
  have hlt:=Nat.mod_lt j hp
  rw[getElem!_pos z.cells (j % z.cells.size) hlt]
  rw[Array.all_eq_true] at h1
  exact h1 _ hlt
 have hst:=run_storeCells_at P g o e (Builtin.zeroCells z.cells m).toList 0 cur w hg (by rw[hzl];omega) hone
 simp only[Nat.add_zero] at hst
 have hrun:(Builtin.clear_ #[t] ty #[.slice (some ⟨g,o,none⟩) m c]).run P w = .ok (.tuple #[]) (w.setRow g (cur.toList.take o++(Builtin.zeroCells z.cells m).toList++cur.toList.drop (o+(Builtin.zeroCells z.cells m).toList.length)).toArray):=by
  obtain⟨q,rfl⟩:∃ q,m=q+1:=⟨m - 1,by omega⟩
  simp[Builtin.clear_,run_underlying ht,hv,hst]
 have hcl:cur.toList.length=cap*sz:=by simpa using hcs
 refine⟨_,hrun,⟨_,setRow_heap w g cur _ e _ hg,hnc,hcm,?_,?_,hxl⟩,⟨rfl,rfl,rfl,by simp,λj _ hj=>setRow_other w g j _ (by simpa using hj)⟩⟩
 ·simp only[List.size_toArray,List.length_append,List.length_take,List.length_drop,hcl,hzl]
  omega
 simp only[List.append_assoc]
 rw[List.take_append_of_le_length (by simp[hcl];omega),List.take_take,Nat.min_eq_left ho,htake]
end
namespace Hb
open Go.RowKit
def cZ (T E:TypeId)(w:World)(r:Nat)(v:Value)(l:List Wt)(own:Option Nat):Prop :=
 Holds w r T #[v]/\Sl w E 3 v l.length (fl l) own/\(0<l.length->∃ g,own=some g)
theorem info270 : (prog.info? 270).map (λi=>(i.zero,i.size,i.bytes))=some (some (.agg #[.int .i64 0,.int .i64 0,.bool false]),3,24):=by kernel_rfl
theorem info3:(prog.info? 3).map (λi=>(i.zero,i.size,i.bytes))=some (some (.int .i64 0),1,8):=by kernel_rfl
section
variable {T E:TypeId} {w w':World} {r:Nat} {v:Value} {l:List Wt} {own:Option Nat} {S:List Nat}
theorem cZ.fr (h:cZ T E w r v l own)(hf:Fr S w w')(hr:r∉S)(ho:∀ k,k∈own.toList->k∉S):cZ T E w' r v l own :=
 ⟨h.1.fr hf hr,h.2.1.fr hf ho h.2.2,h.2.2⟩
theorem cZ.fr0 (h:cZ T E w r v l own)(hf:Fr [] w w'):cZ T E w' r v l own:=h.fr hf (by simp) (by simp)
theorem cZ.uq (h:cZ T E w r v l own)(hne:E≠T):r∉own.toList:=by
 obtain⟨hp,hs,_⟩:=h
 rcases hs with⟨rfl,_⟩|⟨g,cap,rfl,_,hr⟩
 ·simp
 simpa using (hr.ne hp hne).symm
theorem cZ.elem (h:cZ T E w r v l own){k:Nat}{x:Wt}(hx:l[k]? = some x) :
  ∃ g c,v = .slice (some ⟨g,0,none⟩) l.length c/\own=some g/\Row w E 3 g l.length c (fl l)/\w.cell? ⟨g,k*3,none⟩=some (.int .i64 x.who)/\w.cell? ⟨g,k*3+1,none⟩=some (.int .i64 x.place)/\w.cell? ⟨g,k*3+2,none⟩=some (.bool x.wok):=by
 obtain⟨hp,hs,hm⟩:=h
 have hk:k<l.length:=(List.getElem?_eq_some_iff.1 hx).1
 obtain⟨g,rfl⟩:=hm (by omega)
 obtain⟨c,rfl,hr⟩:=hs.cI
 exact⟨g,c,rfl,rfl,hr,hr.cell (by have:=uP l k 0 x hx (by omega);simpa[wc] using this),hr.cell (by have:=uP l k 1 x hx (by omega);simpa[wc] using this),hr.cell (by have:=uP l k 2 x hx (by omega);simpa[wc] using this)⟩
end
theorem bZ (w:World):Calls prog 67 #[] w λe w'=>∃ r,e = .returned (.pointer (some ⟨r,0,none⟩))/\w.heap.size<=r/\cZ 179 270 w' r (.slice none 0 0) [] none/\Fr [] w w':=by
 go_enter func67,ntmps67
 go_wp2
 go_ret
 exact⟨_,rfl,Nat.le_refl _,⟨Holds.new _ _ _,Sl.nil _ _ _,by simp⟩,rZ.alloc _⟩
theorem cz (w:World)(B:Nat)(who x y:Int)(b:Bool)(hc:w.cell? ⟨B,0,none⟩=some (.int .i64 who)) :
  Calls prog 225 #[.agg #[.int .i64 x,.int .i64 y,.bool b],.pointer (some ⟨B,0,none⟩)] w λe w'=>e = .returned (.bool (x==who))/\Fr [] w w':=by
 have hB:=block_lt_of_cell hc
 go_enter func225,ntmps225
 go_wp2
 go_ret
 exact⟨rfl,rZ.alloc _⟩
theorem dr (w:World)(r:Nat)(v:Value)(l:List Wt)(own:Option Nat)(B:Nat)(who:Int)(h:cZ 179 270 w r v l own)(hc:w.cell? ⟨B,0,none⟩=some (.int .i64 who))(hl:l.length<=1000) :
  Calls prog 224 #[v,.func (.func 225) #[] #[.pointer (some ⟨B,0,none⟩)]] w λe w'=>e = .returned (.int .i64 (place who l))/\Fr [] w w':=by
 have hB:=block_lt_of_cell hc
 obtain⟨a,c,rfl⟩:=h.2.1.form
 go_enter func224,ntmps224
 go_wp2
 go_loopw [5,8] (λ_ i wr=>∃ k:Nat,k<=l.length/\i = .int .i64 k/\Not who l k/\Fr [] w wr) (λ_ i _=>l.length - (intOf i).toNat)
 case atStart=>exact⟨0,Nat.zero_le _,rfl,not_zero _ _,rZ⟩
 obtain⟨k,hk,rfl,hno,fr⟩:=hrel
 have h1:=h.fr0 fr
 have c1:=fr.cell hc hB (by simp)
 clear hc h
 by_cases hlt:k<l.length
 ·have hx:l[k]? = some l[k]:=List.getElem?_eq_getElem hlt
  obtain⟨x,hx'⟩:∃ x,l[k]=x:=⟨_,rfl⟩
  rw[hx'] at hx
  clear hx'
  have hk1:(k:Int)<(l.length:Int):=by omega
  obtain⟨g,c2,hv,rfl,hr,q0,q1,q2⟩:=h1.elem hx
  have HX:=hid hx
  clear hx
  cases hv
  by_cases he:x.who=who
  ·have hp:place who l=(k:Int):=by rw[place,D6 hno HX he]
   have HP:=hid hp
   have hb:(x.who==who)=true:=by simpa using he
   clear he hp hno
   go_wp2_with fail
   refine uu (cz wr B who x.who x.place x.wok c1) λw' f2=>?_
   rw[hb]
   go_wp2_with fail
   go_ret
   exact⟨bM HP.symm,fr.trans f2⟩
  have hn2:=AY hno HX he
  have hb:(x.who==who)=false:=by simpa using he
  clear he hno
  go_wp2_with fail
  refine uu (cz wr B who x.who x.place x.wok c1) λw' f2=>?_
  rw[hb]
  go_wp2_with fail
  go_roundw
  case rel=>exact⟨k+1,by omega,by go_num,hn2,fr.trans f2⟩
  simp[intOf];omega
 obtain rfl:k=l.length:=by omega
 have hp:place who l = -1:=by rw[place,D7 hno]
 have HP:=hid hp
 clear hp hno
 go_wp2
 go_ret
 exact⟨bM HP.symm,fr⟩
theorem bp (w:World)(r:Nat)(v:Value)(l:List Wt)(own:Option Nat)(who:Int)(h:cZ 179 270 w r v l own)(hl:l.length<=1000) :
  Calls prog 176 #[.pointer (some ⟨r,0,none⟩),.int .i64 who] w λe w'=>e = .returned (.int .i64 (place who l))/\Fr [] w w':=by
 have f1:Fr [] w (w.alloc (.cells #[.int .i64 who] 3)):=rZ.alloc _
 have h1:=h.fr0 f1
 have b1:=Holds.new w 3 #[.int .i64 who]
 have c1:(w.alloc (.cells #[.int .i64 who] 3)).cell? ⟨w.heap.size,0,none⟩=some (.int .i64 who):=b1.cell 0
 have r1:=h1.1.cell 0
 go_enter func176,ntmps176
 go_wp2_with fail
 refine uu (dr _ r v l own _ who h1 c1 hl) λw' f2=>?_
 go_wp2_with fail
 go_ret
 exact⟨rfl,f1.trans f2⟩
theorem Cc {w:World}{p t:Nat}{cs:Array Value}(h:Holds w p t cs):Cells w (some ⟨p,0,none⟩) cs.toList:=λj x hx=>⟨_,rfl,by rw[dZ,Nat.zero_add,h.cell j];simpa using hx⟩
theorem Ef {T E:TypeId}{w w1:World}{r n:Nat}{v0 v1:Value}{l:List Wt}{x:Wt}{own:Option Nat}{S:List Nat}(hET:E≠T)(hn:n=l.length+1)(hp:Holds w1 r T #[v0])(hs:Sl w1 E 3 v1 n (fl l++wc x) own)(hm:∃ g,own=some g)(hf:Fr S w w1)(hS:r∈S) :
  cZ T E (w1.setCell ⟨r,0,none⟩ v1) r v1 (l++[x]) own/\Fr S w (w1.setCell ⟨r,0,none⟩ v1):=by
 subst hn
 have e:fl l++wc x=fl (l++[x]):=by simp[fl]
 rw[e] at hs
 refine⟨⟨hp.set 0 _,?_,λ_=>hm⟩,hf.setCell hS _⟩
 rw[List.length_append]
 exact hs.far (λ_=>hm) hp hET 0 v1
theorem xK {who:Int}{l:List Wt}(h:has who l=true):0<=place who l:=by
 unfold has at h
 unfold place
 cases e:at? who l with
 | none=>simp[e] at h
 | some k=>exact Int.natCast_nonneg k
theorem AF {who:Int}{l:List Wt}(h:has who l=false):place who l = -1:=by
 unfold has at h
 unfold place
 cases e:at? who l with
 | none=>rfl
 | some k=>simp[e] at h
theorem qI (w:World)(r:Nat)(v:Value)(l:List Wt)(own:Option Nat)(who pl:Int)(h:cZ 179 270 w r v l own)(hl:l.length<=900) :
  Calls prog 166 #[.pointer (some ⟨r,0,none⟩),.int .i64 who,.int .i64 pl] w λe w'=>∃ v' own',e = .returned (.bool (!has who l))/\cZ 179 270 w' r v' (jZ l who pl) own'/\Fr (r::own.toList) w w'/\(own'=own∨∃ g,own'=some g/\w.heap.size<=g):=by
 obtain⟨i2,hi,hz0,hz1,hz2⟩:=info_parts info270
 cases hh:has who l
 ·have hpl:=AF hh
  have hal:jZ l who pl=l++[⟨who,pl,false⟩]:=by simp[jZ,hh]
  have HH:=hid hpl
  have HA:=hid hal
  clear hh hpl hal
  have hrn:=h.uq (by decide)
  go_enter func166,ntmps166
  go_wp2_with fail
  refine uu (bp w r v l own who h (by omega)) λw1 f1=>?_
  rw[HH]
  have h1:=h.fr0 f1
  obtain⟨hp,hs,hm⟩:=h1
  obtain⟨a,c,rfl⟩:=hs.form
  have c0:=hp.cell 0
  clear h
  go_wp2_with (at_builtin;refine af rfl (.tmp 15) (.tmp 19) 177 rfl i2 _ 24 underlying177 hi hz0 hz1 hz2 rfl (by decide) _ own rfl (hs.fr0 ((Fr.refl [] w1).alloc _)) _ 1 1 (wc ⟨who,pl,false⟩) rfl rfl (Cc (Holds.new w1 270 #[.int .i64 who,.int .i64 pl,.bool false])) (by simp[wc,Value.oneCell']) (by unfold maxLen;omega) (by omega) ?_;intro v' w2 own' hs1 hf1 ho1 hm1;obtain⟨g',rfl⟩:=hm1 (by omega);obtain⟨c',rfl,hr1⟩:=hs1.cI;have fr1:Fr own.toList w1 w2:=((Fr.refl _ w1).alloc _).trans hf1;have hp1:=hp.fr fr1 hrn;have d1:=hp1.cell 0;have f1':=hp1.frozen 0;clear hf1 c0 hm1)
  go_ret
  obtain⟨k1,k2⟩:=Ef (x:=⟨who,pl,false⟩) (by decide) rfl hp1 (Sl.row hr1) ⟨_,rfl⟩ ((f1.nil.trans fr1).mono (T:=r::own.toList) (λk hk=>List.mem_cons_of_mem _ hk)) (List.mem_cons_self ..)
  refine⟨_,some g',rfl,HA.out ▸ k1,k2,?_⟩
  have:=f1.size
  rcases ho1 with ho1|⟨g2,ho1,hg2⟩
  ·exact .inl ho1
  exact .inr ⟨g2,ho1,by simp at hg2;omega⟩
 have hpl:=xK hh
 have hal:jZ l who pl=l:=by simp[jZ,hh]
 clear hh
 rw[hal]
 clear hal
 go_enter func166,ntmps166
 go_wp2_with fail
 refine uu (bp w r v l own who h (by omega)) λw1 f1=>?_
 go_wp2_with fail
 go_ret
 exact⟨v,own,rfl,h.fr0 f1,f1.nil,.inl rfl⟩
theorem zero270 (w:World):(zeroValue 270).run prog w = .ok (.agg #[.int .i64 0,.int .i64 0,.bool false]) w:=by kernel_rfl
theorem eH (w:World)(g cap k:Nat)(l:List Wt)(hr:Row w 270 3 g l.length cap (fl l))(hk:k<l.length)(hl:l.length<=1000) :
  Calls prog 177 #[.slice (some ⟨g,0,none⟩) l.length cap,.int .i64 k,.int .i64 ((k:Int)+1)] w λe w'=>e = .returned (.slice (some ⟨g,0,none⟩) (l.length - 1) cap)/\Row w' 270 3 g (l.length - 1) cap (fl (l.take k++l.drop (k+1)))/\Fr [g] w w':=by
 obtain⟨i2,hi,hz0,hz1,hz2⟩:=info_parts info270
 obtain⟨n,hn⟩:∃ n,n=l.length:=⟨_,rfl⟩
 have hle:=hr.le
 have hcm:=hr.lW
 unfold maxLen at hcm
 rw[<-hn] at hle hr hk hl ⊢
 have hnews:Cells w (some ⟨g,(k+1)*3,none⟩) (fl (l.drop (k+1))):=by
  have:=hr.cells.drop ((k+1)*3)
  rw[DM]
  simpa using this
 have hlen:(fl (l.drop (k+1))).length=(n - (k+1))*3:=by rw[yI,List.length_drop,<-hn]
 have hone:=Fj (l.drop (k+1))
 obtain⟨A,hA,hsrc⟩:∃ A:Addr,(if cap=k+1 then some (⟨g,0,none⟩:Addr) else some ⟨g,(k+1)*3,none⟩)=some A/\Cells w (some A) (fl (l.drop (k+1))):=by
  by_cases h:cap=k+1
  ·refine⟨⟨g,0,none⟩,by simp[h],?_⟩
   have e0:fl (l.drop (k+1))=[]:=List.eq_nil_of_length_eq_zero (by omega)
   rw[e0]
   exact Cells.nil _
  exact⟨_,by simp[h],hnews⟩
 have hkc:k<=cap:=by omega
 have hkc1:k+1<=cap:=by omega
 have hi0:(0:Int)<=(k:Int)+1:=by omega
 have hi1:(k:Int)+1<=(n:Int):=by omega
 have H1:=hid hn
 have H2:=hid hlen
 have H3:=hid hone
 clear hn hlen hone hnews
 go_enter func177,ntmps177
 go_wp2_with fail
 go_region_law ((refine eR rfl (.tmp 22) (.tmp 25) 177 rfl i2 underlying177 hi hz1 hr.drew k (by omega) (by simp[Act.eval,Act.put]) A (n - (k+1)) (cap - (k+1)) (fl (l.drop (k+1))) (by simp[Act.eval,Act.put]) H2.out (hsrc.fr0 ((Fr.refl [] w).drew)) H3.out (by omega) ?_;intro w1 hr1 f1))
 have e1:k+(n - (k+1))=n - 1:=by omega
 have e2:(fl l).take (k*3)++fl (l.drop (k+1))=fl (l.take k++l.drop (k+1)):=by rw[yJ,DL]
 rw[e1,e2] at hr1
 rw[e1]
 clear e1 e2 hA hsrc hkc hkc1 hi0 hi1
 obtain⟨m,hm⟩:∃ m,m=n - 1:=⟨_,rfl⟩
 have e3:n=m+1:=by omega
 rw[<-hm] at hr1 ⊢
 have HM:=hid hm
 subst e3
 clear hm
 have hA2:(if cap=m then some (⟨g,0,none⟩:Addr) else some ⟨g,m*3,none⟩)=some ⟨g,m*3,none⟩:=by rw[if_neg (by omega)]
 have hj0:(m:Int)<=(m:Int)+1:=by omega
 have hj1:m+1<=cap:=hle
 have hj2:m<=m+1:=by omega
 obtain⟨w2,hrun,hr2,f2⟩:=ep (sz:=3) 177 0 (.agg #[.int .i64 0,.int .i64 0,.bool false]) underlying177 zero270 (by kernel_rfl) (by kernel_rfl) hr1 (m*3) 1 (cap - m) (by omega) (by omega)
 go_wp2
 go_ret
 exact⟨rfl,hr2,((Fr.refl [g] w).drew).trans (f1.trans f2)⟩
theorem CY {T E:TypeId}{w w1:World}{r n:Nat}{v0 v1:Value}{l:List Wt}{own:Option Nat}{S:List Nat}(hET:E≠T)(hn:n=l.length)(hp:Holds w1 r T #[v0])(hs:Sl w1 E 3 v1 n (fl l) own)(hm:0<n->∃ g,own=some g)(hf:Fr S w w1)(hS:r∈S) :
  cZ T E (w1.setCell ⟨r,0,none⟩ v1) r v1 l own/\Fr S w (w1.setCell ⟨r,0,none⟩ v1):=by
 subst hn
 exact⟨⟨hp.set 0 _,hs.far hm hp hET 0 v1,hm⟩,hf.setCell hS _⟩
theorem Eu {who:Int}{l:List Wt}{k:Nat}(h:at? who l=some k):k<l.length:=by
 unfold at? at h
 exact(List.findIdx?_eq_some_iff_getElem.1 h).1
theorem ud (w:World)(r:Nat)(v:Value)(l:List Wt)(own:Option Nat)(who:Int)(h:cZ 179 270 w r v l own)(hl:l.length<=1000) :
  Calls prog 121 #[.pointer (some ⟨r,0,none⟩),.int .i64 who] w λe w'=>∃ v' own',e = .returned (.bool (has who l))/\cZ 179 270 w' r v' (mE l who) own'/\Fr (r::own.toList) w w'/\(own'=own∨∃ g,own'=some g/\w.heap.size<=g):=by
 cases hh:at? who l with
 | none =>
  have hpl:place who l = -1:=by simp[place,hh]
  have hrl:mE l who=l:=by simp[mE,hh]
  have hhs:has who l=false:=by simp[has,hh]
  rw[hrl,hhs]
  have HH:=hid hpl
  clear hh hpl hrl hhs
  go_enter func121,ntmps121
  go_wp2_with fail
  refine uu (bp w r v l own who h (by omega)) λw1 f1=>?_
  rw[HH]
  go_wp2_with fail
  go_ret
  exact⟨v,own,rfl,h.fr0 f1,f1.nil,.inl rfl⟩
 | some k =>
  have hpl:place who l=k:=by simp[place,hh]
  have hrl:mE l who=l.take k++l.drop (k+1):=by simp[mE,hh]
  have hhs:has who l=true:=by simp[has,hh]
  have hk:=Eu hh
  rw[hrl,hhs]
  have HH:=hid hpl
  clear hh hpl hrl hhs
  have hrn:=h.uq (by decide)
  go_enter func121,ntmps121
  go_wp2_with fail
  refine uu (bp w r v l own who h (by omega)) λw1 f1=>?_
  rw[HH]
  obtain⟨hp,hs,hm⟩:=h.fr0 f1
  obtain⟨g,rfl⟩:=hm (by omega)
  obtain⟨c,rfl,hr⟩:=hs.cI
  have c0:=hp.cell 0
  clear h
  go_wp2_with fail
  refine(eH w1 g c k l hr hk hl).mono ?_
  rintro e w2 ⟨rfl,hr2,f2⟩
  have hgr:g≠r:=hr.ne hp (by decide)
  have hp2:=hp.fr f2 (by simpa using Ne.symm hgr)
  have d0:=hp2.cell 0
  have e0:=hp2.frozen 0
  clear c0
  go_wp2_with fail
  go_ret
  obtain⟨k1,k2⟩:=CY (S:=[r,g]) (by decide) (by simp;omega) hp2 (Sl.row hr2) (λ_=>⟨_,rfl⟩) ((f1.nil).trans (f2.mono (by simp))) (List.mem_cons_self ..)
  exact⟨_,some g,rfl,k1,k2,.inl rfl⟩
theorem zz {l:List Wt}{who:Int}{k:Nat}{x:Wt}(h:at? who l=some k)(hx:l[k]? = some x):dO l who=x.wok:=by simp[dO,h,hx]
theorem wN (w:World)(r:Nat)(v:Value)(l:List Wt)(own:Option Nat)(who:Int)(h:cZ 179 270 w r v l own)(hl:l.length<=1000) :
  Calls prog 133 #[.pointer (some ⟨r,0,none⟩),.int .i64 who] w λe w'=>e = .returned (.bool (dO l who))/\Fr [] w w':=by
 cases hh:at? who l with
 | none =>
  have hpl:place who l = -1:=by simp[place,hh]
  have hhs:dO l who=false:=by simp[dO,hh]
  rw[hhs]
  have HH:=hid hpl
  clear hh hpl hhs
  go_enter func133,ntmps133
  go_wp2_with fail
  refine uu (bp w r v l own who h (by omega)) λw1 f1=>?_
  rw[HH]
  go_wp2_with fail
  go_ret
  exact⟨rfl,f1⟩
 | some k =>
  have hpl:place who l=k:=by simp[place,hh]
  have hk:=Eu hh
  have hx:l[k]? = some l[k]:=List.getElem?_eq_getElem hk
  obtain⟨x,hx'⟩:∃ x,l[k]=x:=⟨_,rfl⟩
  rw[hx'] at hx
  rw[zz hh hx]
  have HH:=hid hpl
  clear hh hpl hx'
  have hk1:(k:Int)<(l.length:Int):=by omega
  go_enter func133,ntmps133
  go_wp2_with fail
  refine uu (bp w r v l own who h (by omega)) λw1 f1=>?_
  rw[HH]
  have h1:=h.fr0 f1
  obtain⟨g,c2,rfl,rfl,hr,q0,q1,q2⟩:=h1.elem hx
  have c0:=h1.1.cell 0
  clear hx h
  go_wp2_with fail
  go_ret
  exact⟨rfl,f1⟩
open Go.RowKit
theorem EZ {w:World}{n:Nat}{t:TypeId}{cs:Array Value}(h:w.heap.size=n):Holds (w.alloc (.cells cs t)) n t cs:=by subst h;exact Holds.new _ _ _
def part (l:List Wt)(pl:Int)(k:Nat):List Wt:=fu (l.take k) pl++l.drop k
theorem rO (l:List Wt)(pl:Int)(k:Nat):(part l pl k).length=l.length:=by
 simp[part,fu];omega
theorem xT (l:List Wt)(pl:Int):part l pl 0=l:=by simp[part,fu]
theorem AL (l:List Wt)(pl:Int):part l pl l.length=fu l pl:=by simp[part]
theorem nH {l:List Wt}{pl:Int}{k:Nat}{x:Wt}(hx:l[k]? = some x):(part l pl k)[k]? = some x:=by
 have hk:=(List.getElem?_eq_some_iff.1 hx).1
 rw[part,List.getElem?_append_right (by simp[fu];omega)]
 simp[fu,Nat.min_eq_left (Nat.le_of_lt hk),hx]
theorem oT {l:List Wt}{pl:Int}{k:Nat}{x:Wt}(hx:l[k]? = some x):part l pl (k+1)=(part l pl k).set k (if x.place==pl then ⟨x.who,x.place,true⟩ else x):=by
 have hk:=(List.getElem?_eq_some_iff.1 hx).1
 have hd:l.drop k=x::l.drop (k+1):=by
  rw[List.drop_eq_getElem_cons hk]
  congr 1
  exact(List.getElem?_eq_some_iff.1 hx).2
 rw[part,part,hd,List.take_add_one,hx,List.set_append_right _ _ (by simp[fu];omega)]
 simp[fu,Nat.min_eq_left (Nat.le_of_lt hk)]
theorem xU {l:List Wt}{pl:Int}{k:Nat}{x:Wt}(hx:l[k]? = some x)(h:(if x.place==pl then (⟨x.who,x.place,true⟩:Wt) else x)=x):part l pl (k+1)=part l pl k:=by
 rw[oT hx,h]
 have hg:=List.getElem?_eq_some_iff.1 (nH (pl:=pl) hx)
 have:=List.set_getElem_self hg.1
 rw[hg.2] at this
 exact this
theorem tr {l:List Wt}{k:Nat}{x:Wt}(hx:l[k]? = some x)(pl:Int):eB (l.take (k+1)) pl=eB (l.take k) pl++if x.place==pl&&!x.wok then [x.who] else []:=by
 rw[eB,List.take_add_one,hx]
 simp only[eB,Option.toList_some,List.filter_append,List.map_append]
 cases h:(x.place==pl&&!x.wok)<;>simp[h]
theorem wM (l:List Wt)(pl:Int):(eB l pl).length<=l.length:=by
 rw[eB,List.length_map]
 exact List.length_filter_le _ _
theorem mark {T E:TypeId}{w:World}{r g k:Nat}{v:Value}{l:List Wt}{x:Wt}(h:cZ T E w r v l (some g))(hET:E≠T)(hx:l[k]? = some x) :
  cZ T E (w.setCell ⟨g,k*3+2,none⟩ (.bool true)) r v (l.set k ⟨x.who,x.place,true⟩) (some g):=by
 obtain⟨hp,hs,hm⟩:=h
 obtain⟨c,rfl,hr⟩:=hs.cI
 have hgr:=hr.ne hp hET
 refine⟨hp.far (p:=⟨g,k*3+2,none⟩) hgr.symm _,?_,λ_=>⟨_,rfl⟩⟩
 rw[List.length_set,Fi l k x hx]
 exact Sl.row (hr.set _ _)
theorem zE (w:World)(r:Nat)(v:Value)(l:List Wt)(own:Option Nat)(pl:Int)(h:cZ 179 270 w r v l own)(hl:l.length<=1000) :
  Calls prog 120 #[.pointer (some ⟨r,0,none⟩),.int .i64 pl] w λe w'=>∃ v' own',e = .returned v'/\Sl w' 3 1 v' (eB l pl).length ((eB l pl).map ci) own'/\cZ 179 270 w' r v (fu l pl) own/\Fr own.toList w w'/\(∀ g,own'=some g->w.heap.size<=g)/\(0<(eB l pl).length->∃ g,own'=some g):=by
 obtain⟨i3,hi,hz0,hz1,hz2⟩:=info_parts info3
 have hrn:=h.uq (by decide)
 have hrl:=h.1.lt
 obtain⟨a,c,rfl⟩:=h.2.1.form
 have c0:=h.1.cell 0
 have hown:∀ g,own=some g->g<w.heap.size:=by
  intro g hg
  subst hg
  obtain⟨c',_,hr⟩:=h.2.1.cI
  exact hr.lt
 have HO:=hid hown
 clear hown
 have h0:cZ 179 270 w r (.slice a l.length c) (part l pl 0) own:=by rw[xT];exact h
 go_enter func120,ntmps120
 go_wp2
 clear c0 h
 go_loopw [5,6,7,13] (λv' _ _ i wr=>∃ (k:Nat) (own':Option Nat),k<=l.length/\i = .int .i64 k/\Sl wr 3 1 v' (eB (l.take k) pl).length ((eB (l.take k) pl).map ci) own'/\cZ 179 270 wr r (.slice a l.length c) (part l pl k) own/\Fr own.toList w wr/\(∀ g,own'=some g->w.heap.size<=g)/\(0<(eB (l.take k) pl).length->∃ g,own'=some g)) (λ_ _ _ i _=>l.length - (intOf i).toNat)
 case atStart=>exact⟨0,none,Nat.zero_le _,rfl,Sl.nil _ _ _,h0,rZ,(by simp),(by simp[eB])⟩
 obtain⟨k,own',hk,rfl,hs,h1,fr,ho,hm⟩:=hrel
 clear h0
 by_cases hlt:k<l.length
 ·have hx:l[k]? = some l[k]:=List.getElem?_eq_getElem hlt
  obtain⟨x,hx'⟩:∃ x,l[k]=x:=⟨_,rfl⟩
  rw[hx'] at hx
  clear hx'
  have hk1:(k:Int)<(l.length:Int):=by omega
  obtain⟨g,c2,hv,rfl,hr,q0,q1,q2⟩:=h1.elem (nH hx)
  have c0:=h1.1.cell 0
  have hsucc:=tr hx pl
  have hps:=oT (pl:=pl) hx
  have hpg:=nH (pl:=pl) hx
  have hpm:=xU (pl:=pl) hx
  have hlen:=wM (l.take k) pl
  have hlk:(l.take k).length<=k:=List.length_take_le _ _
  rw[rO] at hv hr
  generalize hA:eB (l.take k) pl=A at hs hm hsucc hlen
  generalize hB:eB (l.take (k+1)) pl=B at hsucc
  generalize hM:part l pl k=M at h1 hr hps hpg hpm
  generalize hN:part l pl (k+1)=N at hps hpm
  have HA:=hid hA
  have HB:=hid hB
  have HM:=hid hM
  have HN:=hid hN
  clear hx hA hB hM hN
  cases hv
  obtain⟨a',c',rfl⟩:=hs.form
  cases hpe:x.place==pl
  ·rw[hpe] at hsucc hpm
   simp at hsucc hpm
   have HS:=hid hsucc
   have HP:=hid hpm
   clear hsucc hpm hps hpg
   go_wp2
   go_roundw
   case rel=>exact⟨k+1,own',by omega,by go_num,by rw[HB,HS];exact hs,by rw[HN,HP];exact h1,fr,ho,by rw[HB,HS];exact hm⟩
   simp[intOf];omega
  obtain⟨xw,xp,xb⟩:=x
  cases xb
  ·rw[hpe] at hsucc hps
   simp at hsucc hps
   have HS:=hid hsucc
   have HP:=hid hps
   have hmk:=mark h1 (by decide) hpg
   have f2:=hr.frozen (k*3+2)
   have fr2:Fr [g] wr (wr.setCell ⟨g,k*3+2,none⟩ (.bool true)):=(Fr.refl [g] wr).setCell (by simp) _
   have hgl:g<w.heap.size:=HO.out g rfl
   have hs2:=hs.fr fr2 (λq hq=>by have:=ho q (by simpa using hq);simp;omega) hm
   have hn0:A.length+1<=maxLen:=by unfold maxLen;omega
   clear hsucc hpm hps hpg
   go_wp2_with (at_builtin;(refine af rfl (.tmp 38) (.tmp 43) 45 rfl i3 _ 8 underlying45 hi hz0 hz1 hz2 rfl (by decide) _ own' rfl (hs2.fr0 ((Fr.refl [] _).alloc _)) _ 1 1 [ci xw] rfl rfl (Cells.one (EZ (t:=3) (cs:=#[ci xw]) (by simp))) (by simp[ci,Value.oneCell']) hn0 (by omega) ?_;intro v' w2 own2 hs1 hf1 ho1 hm1);have fr1:Fr own'.toList (wr.setCell ⟨g,k*3+2,none⟩ (.bool true)) w2:=(rZ.alloc _).trans hf1;clear hf1)
   go_roundw
   case rel =>
    have ho2:∀ g,own2=some g->w.heap.size<=g:=by
     intro g2 hg2
     rcases ho1 with ho1|⟨g3,ho1,hg3⟩
     ·exact ho g2 (ho1 ▸ hg2)
     rw[ho1] at hg2
     cases hg2
     have:=fr.size
     simp at hg3
     omega
    refine⟨k+1,own2,by omega,by go_num,?_,?_,(fr.trans fr2).step fr1 (λq hq=>.inr (ho q (by simpa using hq))),ho2,λ_=>hm1 (by omega)⟩
    ·rw[HB,HS]
     simpa[ci] using hs1
    rw[HN,HP]
    exact hmk.fr fr1 (λhq=>by have:=ho r (by simpa using hq);omega) (λq hq hq'=>by have:=ho q (by simpa using hq');simp at hq;omega)
   simp[intOf];omega
  rw[hpe] at hsucc hpm
  simp at hsucc hpm
  have HS:=hid hsucc
  have HP:=hid hpm
  clear hsucc hpm hps hpg
  go_wp2
  go_roundw
  case rel=>exact⟨k+1,own',by omega,by go_num,by rw[HB,HS];exact hs,by rw[HN,HP];exact h1,fr,ho,by rw[HB,HS];exact hm⟩
  simp[intOf];omega
 obtain rfl:k=l.length:=by omega
 rw[List.take_length] at hs hm
 rw[AL] at h1
 go_wp2
 go_ret
 exact⟨_,own',rfl,hs,h1,fr,ho,hm⟩
open Go.RowKit
def ofM (x:M.Wt):Wt:=⟨x.who,x.place,x.wok⟩
def ofL (l:List M.Wt):List Wt:=l.map ofM
theorem uJ (l:List M.Wt)(who:Int):has who (ofL l)=M.has who l:=by
 unfold has at? M.has ofL
 rw[List.findIdx?_isSome,List.any_map]
 rfl
theorem s9 (l:List M.Wt)(who:Int):at? who (ofL l)=l.findIdx? λx=>x.who==who:=by
 unfold at? ofL
 rw[List.findIdx?_map]
 rfl
theorem EM (l:List M.Wt)(who:Int):mE (ofL l) who=ofL (M.mE l who):=by
 unfold mE M.mE
 rw[s9,List.eraseP_eq_eraseIdx]
 cases l.findIdx? λx=>x.who==who with
 | none=>rfl
 | some k=>simp[ofL,List.eraseIdx_eq_take_drop_succ,List.map_take,List.map_drop]
theorem Fs (l:List M.Wt)(who pl:Int):jZ (ofL l) who pl=ofL (M.jZ l who pl):=by
 unfold jZ M.jZ
 rw[uJ]
 cases M.has who l<;>simp[ofL,ofM]
theorem CG (l:List M.Wt)(pl:Int):fu (ofL l) pl=ofL (M.fu l pl):=by
 unfold fu M.fu ofL
 rw[List.map_map,List.map_map]
 apply List.map_congr_left
 intro x _
 by_cases h:x.place=pl
 ·simp[ofM,h]
 have h2:¬ (ofM x).place=pl:=h
 simp[h2,h]
theorem zy (l:List M.Wt)(who:Int):dO (ofL l) who=M.dO l who:=by
 unfold dO M.dO
 rw[s9]
 induction l with
 | nil=>rfl
 | cons x l ih =>
  rw[List.findIdx?_cons,List.find?_cons]
  cases hx:x.who==who with
  | true=>simp[ofL,ofM]
  | false =>
   simp only[Bool.false_eq_true,if_false]
   rw[<-ih]
   cases l.findIdx? λx=>x.who==who with
   | none=>rfl
   | some k=>simp[ofL]
structure HAt (w:World)(B r:Nat)(l:List M.Wt):Prop where
 at_:∃ v own,cZ 179 270 w r v (ofL l) own/\∀ g,own=some g->B<=g
abbrev Ts:List TypeId:=[179,270]
theorem HAt.fr0 {w w':World}{B r:Nat}{l:List M.Wt}(h:HAt w B r l)(hf:Fr [] w w'):HAt w' B r l:=by
 obtain⟨v,own,h1,h2⟩:=h
 exact⟨v,own,h1.fr0 hf,h2⟩
theorem HAt.frx {w w':World}{B r:Nat}{l:List M.Wt}{Us:List TypeId}(h:HAt w B r l)(hf:FrX B Us [] w w')(h1:179∉Us)(h2:270∉Us):HAt w' B r l:=by
 obtain⟨v,own,⟨k1,k2,k3⟩,k4⟩:=h
 refine⟨v,own,⟨k1.frx hf h1 (by simp),?_,k3⟩,k4⟩
 rcases k2 with⟨h0,a,hv,e1,e2,e3,e4⟩|⟨g,c,h0,hv,hr⟩
 ·have hn:(ofL l).length=0:=by
   rcases Nat.eq_zero_or_pos (ofL l).length with h|h
   ·exact h
   obtain⟨g,hg⟩:=k3 h
   rw[h0] at hg
   cases hg
  have e5:fl (ofL l)=[]:=List.eq_nil_of_length_eq_zero (by omega)
  exact .inl ⟨h0,a,hv,e1,e2,by rw[e5];exact Cells.nil _,e4⟩
 exact .inr ⟨g,c,h0,hv,hr.frx hf h2 (by simp)⟩
theorem cZ.tys {w:World}{B r:Nat}{v:Value}{l:List Wt}{own:Option Nat}(h:cZ 179 270 w r v l own)(hr:B<=r)(ho:∀ g,own=some g->B<=g) :
  (∀ x,x∈r::own.toList->B<=x)/\∀ x,x∈r::own.toList->∃ t,t∈Ts/\cB w x=some t:=by
 refine⟨λx hx=>?_,λx hx=>?_⟩
 ·rcases List.mem_cons.1 hx with rfl|hx
  ·exact hr
  exact ho x (by simpa using hx)
 rcases List.mem_cons.1 hx with rfl|hx
 ·exact⟨_,List.mem_cons_self ..,h.1.ty⟩
 have hx':own=some x:=by simpa using hx
 obtain⟨c,_,hrow⟩:=(hx' ▸ h.2.1).cI
 exact⟨_,by simp,hrow.ty⟩
theorem yF (w:World)(B:Nat):Calls prog 67 #[] w λe w'=>∃ r,e = .returned (.pointer (some ⟨r,0,none⟩))/\w.heap.size<=r/\HAt w' B r []/\Fr [] w w' :=
 (bZ w).mono λ_ _ ⟨r,he,h1,h2,h3⟩=>⟨r,he,h1,⟨_,_,h2,by simp⟩,h3⟩
theorem Gu (w:World)(B r:Nat)(l:List M.Wt)(who pl:Int)(h:HAt w B r l)(hB:B<=w.heap.size)(hr:B<=r)(hl:l.length<=900) :
  Calls prog 166 #[.pointer (some ⟨r,0,none⟩),.int .i64 who,.int .i64 pl] w λe w'=>e = .returned (.bool (!M.has who l))/\HAt w' B r (M.jZ l who pl)/\FrX B Ts [] w w':=by
 obtain⟨v,own,h1,h2⟩:=h
 refine(qI w r v _ own who pl h1 (by simpa[ofL] using hl)).mono ?_
 rintro e w' ⟨v',own',rfl,k1,k2,k3⟩
 obtain⟨t1,t2⟩:=h1.tys hr h2
 refine⟨by rw[uJ],⟨v',own',by rw[<-Fs];exact k1,λg hg=>?_⟩,FrX.aB k2 t1 t2⟩
 rcases k3 with k3|⟨g',k3,k4⟩
 ·exact h2 g (k3 ▸ hg)
 rw[k3] at hg
 cases hg
 omega
theorem Gt (w:World)(B r:Nat)(l:List M.Wt)(who:Int)(h:HAt w B r l)(hB:B<=w.heap.size)(hr:B<=r)(hl:l.length<=900) :
  Calls prog 121 #[.pointer (some ⟨r,0,none⟩),.int .i64 who] w λe w'=>e = .returned (.bool (M.has who l))/\HAt w' B r (M.mE l who)/\FrX B Ts [] w w':=by
 obtain⟨v,own,h1,h2⟩:=h
 refine(ud w r v _ own who h1 (by simp[ofL];omega)).mono ?_
 rintro e w' ⟨v',own',rfl,k1,k2,k3⟩
 obtain⟨t1,t2⟩:=h1.tys hr h2
 refine⟨by rw[uJ],⟨v',own',by rw[<-EM];exact k1,λg hg=>?_⟩,FrX.aB k2 t1 t2⟩
 rcases k3 with k3|⟨g',k3,k4⟩
 ·exact h2 g (k3 ▸ hg)
 rw[k3] at hg
 cases hg
 omega
theorem Fe (w:World)(B r:Nat)(l:List M.Wt)(who:Int)(h:HAt w B r l)(hl:l.length<=900) :
  Calls prog 133 #[.pointer (some ⟨r,0,none⟩),.int .i64 who] w λe w'=>e = .returned (.bool (M.dO l who))/\Fr [] w w':=by
 obtain⟨v,own,h1,h2⟩:=h
 refine uu (wN w r v _ own who h1 (by simp[ofL];omega)) λw' k=>?_
 exact⟨by rw[zy],k⟩
theorem Gh (w:World)(B r:Nat)(l:List M.Wt)(pl:Int)(h:HAt w B r l)(hl:l.length<=900)(hr:B<=r) :
  Calls prog 120 #[.pointer (some ⟨r,0,none⟩),.int .i64 pl] w λe w'=>(∃ v,e = .returned v)/\HAt w' B r (M.fu l pl)/\FrX B Ts [] w w':=by
 obtain⟨v,own,h1,h2⟩:=h
 refine(zE w r v _ own pl h1 (by simp[ofL];omega)).mono ?_
 rintro e w' ⟨v',own',rfl,_,k1,k2,_,_⟩
 obtain⟨t1,t2⟩:=h1.tys hr h2
 exact⟨⟨_,rfl⟩,⟨v,own,by rw[<-CG];exact k1,h2⟩,FrX.aB k2 (λx hx=>t1 x (List.mem_cons_of_mem _ hx)) (λx hx=>t2 x (List.mem_cons_of_mem _ hx))⟩
end Hb
namespace Lm
open Go.RowKit
abbrev El:=Int × Int
def cs (x:El):List Value:=[.int .i64 x.1,.int .i64 x.2]
theorem bh (x:El):(cs x).length=2:=rfl
theorem cQ {x:El} : ∀ u∈cs x,u.oneCell'=true:=by
 intro u hu
 simp only[cs,List.mem_cons,List.not_mem_nil,or_false] at hu
 rcases hu with rfl|rfl<;>rfl
theorem dU:(prog.info? 274).map (λi=>(i.zero,i.size,i.bytes))=some (some (.agg #[.int .i64 0,.int .i64 0]),2,16):=by kernel_rfl
def bL (p:El->Bool)(l:List El):Int:=match l.findIdx? p with|some k=>(k:Int)|none=>-1
theorem dV {p:El->Bool}{l:List El}{k:Nat}{x:El}(h:∀ (j:Nat) y,l[j]? = some y->j<k->p y=false)(hx:l[k]? = some x)(hp:p x=true):bL p l=(k:Int):=by
 have hk:=List.getElem?_eq_some_iff.1 hx
 have:l.findIdx? p=some k:=by
  rw[List.findIdx?_eq_some_iff_getElem]
  refine⟨hk.1,by rw[hk.2];exact hp,λj hj=>?_⟩
  have:=h j (l[j]'(Nat.lt_trans hj hk.1)) (List.getElem?_eq_getElem _) hj
  rw[this]
  decide
 rw[bL,this]
theorem eL {p:El->Bool}{l:List El}(h:∀ (j:Nat) y,l[j]? = some y->p y=false):bL p l = -1:=by
 have:l.findIdx? p=none:=by
  rw[List.findIdx?_eq_none_iff]
  intro x hx
  obtain⟨j,hj⟩:=List.getElem?_of_mem hx
  exact h j x hj
 rw[bL,this]
theorem dr (w:World)(B:Nat)(v:Value)(l:List El)(p:El->Bool)(b:Nat)(h:Own w B 274 2 v l.length (flat cs l))(hl:l.length<=1000)
  (hp:∀ w',Fr [] w w'->∀ x,x∈l->Calls prog 227 #[.agg #[.int .i64 x.1,.int .i64 x.2],.pointer (some ⟨b,0,none⟩)] w' λe w''=>e = .returned (.bool (p x))/\Fr [] w' w'') :
  Calls prog 226 #[v,.func (.func 227) #[] #[.pointer (some ⟨b,0,none⟩)]] w λe w'=>e = .returned (.int .i64 (bL p l))/\Fr [] w w':=by
 obtain⟨a,c,rfl⟩:=h.form
 have HP:=hid hp
 clear hp
 go_enter func226,ntmps226
 go_wp2
 go_loopw [5,8] (λ_ i wr=>∃ k:Nat,k<=l.length/\i = .int .i64 k/\(∀ (j:Nat) y,l[j]? = some y->j<k->p y=false)/\Fr [] w wr) (λ_ i _=>l.length - (intOf i).toNat)
 case atStart=>exact⟨0,Nat.zero_le _,rfl,λ_ _ _ h=>by omega,rZ⟩
 obtain⟨k,hk,rfl,hno,fr⟩:=hrel
 by_cases hlt:k<l.length
 ·have hx:l[k]? = some l[k]:=List.getElem?_eq_getElem hlt
  obtain⟨x,hx'⟩:∃ x,l[k]=x:=⟨_,rfl⟩
  rw[hx'] at hx
  clear hx'
  have hk1:(k:Int)<(l.length:Int):=by omega
  obtain⟨g,c2,hg,hv,hr,hgl,hcell⟩:=(h.fr0 fr).cell bh rfl hx
  cases hv
  have q0:wr.cell? ⟨g,k*2,none⟩=some (.int .i64 x.1):=hcell 0 _ (by omega) rfl
  have q1:wr.cell? ⟨g,k*2+1,none⟩=some (.int .i64 x.2):=hcell 1 _ (by omega) rfl
  have hcall:=HP.out wr fr x (List.mem_of_getElem? hx)
  have HX:=hid hx
  have HN:=hid hno
  have HC:=hid hcall
  clear hx hno hcall hr hcell
  cases hb:p x
  ·have HB:=hid hb
   clear hb
   go_wp2_with fail
   refine uu HC λw' f2=>?_
   rw[HB]
   go_wp2_with fail
   go_roundw
   case rel=>exact⟨k+1,by omega,by go_num,λj y hy hj=>by
    by_cases e:j=k
    ·subst e
     rw[HX] at hy
     cases hy
     exact HB
    exact HN.out j y hy (by omega),fr.trans f2⟩
   simp[intOf];omega
  have HB:=hid hb
  have HF:=hid (dV HN HX hb)
  clear hb
  go_wp2_with fail
  refine uu HC λw' f2=>?_
  rw[HB]
  go_wp2_with fail
  go_ret
  exact⟨bM HF.symm,fr.trans f2⟩
 obtain rfl:k=l.length:=by omega
 have HF:=hid (eL (p:=p) (l:=l) λj y hy=>hno j y hy (List.getElem?_eq_some_iff.1 hy).1)
 clear hno
 go_wp2
 go_ret
 exact⟨bM HF.symm,fr⟩
theorem mQ (w:World):(zeroValue 274).run prog w = .ok (.agg #[.int .i64 0,.int .i64 0]) w:=by kernel_rfl
theorem eH (w:World)(g cap k:Nat)(l:List El)(hr:Row w 274 2 g l.length cap (flat cs l))(hk:k<l.length)(hl:l.length<=1000) :
  Calls prog 179 #[.slice (some ⟨g,0,none⟩) l.length cap,.int .i64 k,.int .i64 ((k:Int)+1)] w λe w'=>e = .returned (.slice (some ⟨g,0,none⟩) (l.length - 1) cap)/\Row w' 274 2 g (l.length - 1) cap (flat cs (l.take k++l.drop (k+1)))/\Fr [g] w w':=by
 obtain⟨i2,hi,hz0,hz1,hz2⟩:=info_parts dU
 obtain⟨n,hn⟩:∃ n,n=l.length:=⟨_,rfl⟩
 have hle:=hr.le
 have hcm:=hr.lW
 unfold maxLen at hcm
 rw[<-hn] at hle hr hk hl ⊢
 have hnews:Cells w (some ⟨g,(k+1)*2,none⟩) (flat cs (l.drop (k+1))):=by
  have:=hr.cells.drop ((k+1)*2)
  rw[lP bh]
  simpa using this
 have hlen:(flat cs (l.drop (k+1))).length=(n - (k+1))*2:=by rw[gw bh,List.length_drop,<-hn]
 obtain⟨A,hA,hsrc⟩:∃ A:Addr,(if cap=k+1 then some (⟨g,0,none⟩:Addr) else some ⟨g,(k+1)*2,none⟩)=some A/\Cells w (some A) (flat cs (l.drop (k+1))):=by
  by_cases h:cap=k+1
  ·refine⟨⟨g,0,none⟩,by simp[h],?_⟩
   have e0:flat cs (l.drop (k+1))=[]:=List.eq_nil_of_length_eq_zero (by omega)
   rw[e0]
   exact Cells.nil _
  exact⟨_,by simp[h],hnews⟩
 have hkc:k<=cap:=by omega
 have hkc1:k+1<=cap:=by omega
 have hi0:(0:Int)<=(k:Int)+1:=by omega
 have hi1:(k:Int)+1<=(n:Int):=by omega
 have hone:=cm (λx=>cQ (x:=x)) (l.drop (k+1))
 have H1:=hid hn
 have H2:=hid hlen
 have H3:=hid hone
 clear hn hlen hone hnews
 go_enter func179,ntmps179
 go_wp2_with fail
 go_region_law ((refine eR rfl (.tmp 22) (.tmp 25) 180 rfl i2 underlying180 hi hz1 hr.drew k (by omega) (by simp[Act.eval,Act.put]) A (n - (k+1)) (cap - (k+1)) (flat cs (l.drop (k+1))) (by simp[Act.eval,Act.put]) H2.out (hsrc.fr0 ((Fr.refl [] w).drew)) H3.out (by omega) ?_;intro w1 hr1 f1))
 have e1:k+(n - (k+1))=n - 1:=by omega
 have e2:(flat cs l).take (k*2)++flat cs (l.drop (k+1))=flat cs (l.take k++l.drop (k+1)):=by rw[aP,iJ bh]
 rw[e1,e2] at hr1
 rw[e1]
 clear e1 e2 hA hsrc hkc hkc1 hi0 hi1
 obtain⟨m,hm⟩:∃ m,m=n - 1:=⟨_,rfl⟩
 have e3:n=m+1:=by omega
 rw[<-hm] at hr1 ⊢
 have HM:=hid hm
 subst e3
 clear hm
 have hA2:(if cap=m then some (⟨g,0,none⟩:Addr) else some ⟨g,m*2,none⟩)=some ⟨g,m*2,none⟩:=by rw[if_neg (by omega)]
 have hj0:(m:Int)<=(m:Int)+1:=by omega
 have hj1:m+1<=cap:=hle
 have hj2:m<=m+1:=by omega
 obtain⟨w2,hrun,hr2,f2⟩:=ep (sz:=2) 180 0 (.agg #[.int .i64 0,.int .i64 0]) underlying180 mQ (by kernel_rfl) (by kernel_rfl) hr1 (m*2) 1 (cap - m) (by omega) (by omega)
 go_wp2
 go_ret
 exact⟨rfl,hr2,((Fr.refl [g] w).drew).trans (f1.trans f2)⟩
end Lm
namespace Ck
open Go.RowKit
structure cJ (w:World)(B g:Nat)(now:Int)(al:List (Int × Int)):Prop where
 len:al.length<=100
 at_:∃ va,Holds w g 182 #[.int .i64 now,va]/\Own w B 274 2 va al.length (flat Lm.cs al)
abbrev Ts:List TypeId:=[182,274]
theorem cJ.fr0 {w w':World}{B g:Nat}{now:Int}{al:List (Int × Int)}(h:cJ w B g now al)(hf:Fr [] w w'):cJ w' B g now al:=by
 obtain⟨a,va,h1,h2⟩:=h
 exact⟨a,va,h1.fr hf (by simp),h2.fr0 hf⟩
theorem cJ.frx {w w':World}{B g:Nat}{now:Int}{al:List (Int × Int)}{Us:List TypeId}(h:cJ w B g now al)(hf:FrX B Us [] w w')(h1:182∉Us)(h2:274∉Us):cJ w' B g now al:=by
 obtain⟨a,va,p,q⟩:=h
 exact⟨a,va,p.frx hf h1 (by simp),q.bf hf h2⟩
theorem bZ (w:World)(B:Nat):Calls prog 68 #[] w λe w'=>∃ g,e = .returned (.pointer (some ⟨g,0,none⟩))/\w.heap.size<=g/\cJ w' B g 0 []/\Fr [] w w':=by
 go_enter func68,ntmps68
 go_wp2
 go_ret
 exact⟨_,rfl,Nat.le_refl _,⟨by simp,_,Holds.new _ _ _,Own.nil _ _ _ _⟩,rZ.alloc _⟩
theorem mK (w:World)(B g:Nat)(now:Int)(al:List (Int × Int))(h:cJ w B g now al):Calls prog 145 #[.pointer (some ⟨g,0,none⟩)] w λe w'=>e = .returned (.int .i64 now)/\w=w':=by
 obtain⟨a,va,h1,h2⟩:=h
 have c0:=h1.cell 0
 go_enter func145,ntmps145
 go_wp2
 go_ret
 exact⟨rfl,rfl⟩
theorem Fw (w:World)(B g:Nat)(now n:Int)(al:List (Int × Int))(h:cJ w B g now al)(hg:B<=g)(h0:0<=n)(h1:n<=1000000)(h2:0<=now)(h3:now<=1000000000) :
  Calls prog 101 #[.pointer (some ⟨g,0,none⟩),.int .i64 n] w λe w'=>e = .returned (.bool true)/\cJ w' B g (now+n) al/\FrX B Ts [] w w':=by
 obtain⟨a,va,p1,p2⟩:=h
 have c0:=p1.cell 0
 have z0:=p1.frozen 0
 have hle:n<=1099511627776 - now:=by omega
 have hnn:¬ n<0:=by omega
 go_enter func101,ntmps101
 go_wp2
 go_ret
 refine⟨rfl,⟨a,va,by simpa using p1.set 0 (.int .i64 (now+n)),?_⟩,FrX.aB ((Fr.refl [g] w).setCell (by simp) _) (by simpa using hg) (λx hx=>⟨182,by simp,by simp at hx;subst hx;exact p1.ty⟩)⟩
 refine p2.fr ((Fr.refl [g] w).setCell (by simp) _) (λk hk=>?_)
 have:=(p2.ty hk).1
 simp only[List.mem_singleton]
 rintro rfl
 rw[p1.ty] at this
 cases this
theorem cz (w:World)(b:Nat)(who:Int)(x:Int × Int)(hc:w.cell? ⟨b,0,none⟩=some (.int .i64 who)) :
  Calls prog 227 #[.agg #[.int .i64 x.1,.int .i64 x.2],.pointer (some ⟨b,0,none⟩)] w λe w'=>e = .returned (.bool (x.1==who))/\Fr [] w w':=by
 have hB:=block_lt_of_cell hc
 go_enter func227,ntmps227
 go_wp2
 go_ret
 exact⟨rfl,rZ.alloc _⟩
def place (al:List (Int × Int))(who:Int):Int:=Lm.bL (λa=>a.1==who) al
theorem bp (w:World)(B g:Nat)(now who:Int)(al:List (Int × Int))(h:cJ w B g now al) :
  Calls prog 178 #[.pointer (some ⟨g,0,none⟩),.int .i64 who] w λe w'=>e = .returned (.int .i64 (place al who))/\Fr [] w w':=by
 have f0:Fr [] w (w.alloc (.cells #[.int .i64 who] 3)):=rZ.alloc _
 have b0:=Holds.new w 3 #[.int .i64 who]
 have y0:(w.alloc (.cells #[.int .i64 who] 3)).cell? ⟨w.heap.size,0,none⟩=some (.int .i64 who):=b0.cell 0
 obtain⟨a,va,p1,p2⟩:=h.fr0 f0
 have c1:=p1.cell 1
 have hbl:=b0.lt
 have HI:=hid (Lm.dr _ B va al (λx=>x.1==who) w.heap.size p2 (by omega) (λw' fw x _=>cz w' w.heap.size who x (fw.cell y0 hbl (by simp))))
 obtain⟨aa,ca,rfl⟩:=p2.form
 go_enter func178,ntmps178
 go_wp2_with fail
 refine uu HI λw1 f1=>?_
 go_wp2_with fail
 go_ret
 exact⟨rfl,f0.trans f1⟩
theorem mj (al:List (Int × Int))(who:Int):(place al who = -1/\M.kZ al who=al/\∀ now,M.due al now who=false) ∨
  ∃ (k:Nat) (x:Int × Int),al[k]? = some x/\place al who=(k:Int)/\M.kZ al who=al.take k++al.drop (k+1)/\∀ now,M.due al now who=decide (x.2<=now):=by
 unfold place Lm.bL M.kZ M.due
 rw[List.eraseP_eq_eraseIdx]
 cases h:al.findIdx? λa=>a.1==who with
 | none =>
  left
  refine⟨rfl,rfl,λnow=>?_⟩
  rw[List.findIdx?_eq_none_iff] at h
  have:al.find? (λa=>a.1==who)=none:=by
   rw[List.find?_eq_none]
   intro x hx
   rw[h x hx]
   decide
  rw[this]
 | some k =>
  right
  have hk:=List.findIdx?_eq_some_iff_getElem.1 h
  obtain⟨h1,h2,h3⟩:=hk
  refine⟨k,al[k],List.getElem?_eq_getElem h1,rfl,List.eraseIdx_eq_take_drop_succ al k,λnow=>?_⟩
  have:al.find? (λa=>a.1==who)=some al[k]:=by
   rw[List.find?_eq_some_iff_append]
   refine⟨h2,al.take k,al.drop (k+1),?_,?_⟩
   ·rw[<-List.drop_eq_getElem_cons h1,List.take_append_drop]
   intro x hx
   obtain⟨j,hj,rfl⟩:=List.mem_iff_getElem.1 hx
   have hjk:j<k:=by simp at hj;omega
   have:=h3 j hjk
   rw[List.getElem_take]
   simpa using this
  rw[this]
theorem DP (w:World)(B g:Nat)(now who:Int)(al:List (Int × Int))(h:cJ w B g now al) :
  Calls prog 134 #[.pointer (some ⟨g,0,none⟩),.int .i64 who] w λe w'=>e = .returned (.bool (M.due al now who))/\Fr [] w w':=by
 have hat:Calls prog 191 #[.pointer (some ⟨g,0,none⟩),.int .i64 who] w λe w'=>(∃ (at_:Int) (ok:Bool),e = .returned (.tuple #[.int .i64 at_,.bool ok])/\M.due al now who=(ok&&decide (at_<=now)))/\Fr [] w w':=by
  rcases mj al who with⟨h1,_,h3⟩|⟨k,x,hx,h1,_,h3⟩
  ·have HP:=hid h1
   have HD:=hid (h3 now)
   clear h1 h3
   go_enter func191,ntmps191
   go_wp2_with fail
   refine uu (bp w B g now who al h) λw1 f1=>?_
   rw[HP]
   go_wp2_with fail
   go_ret2
   exact⟨⟨0,false,rfl,by rw[HD];rfl⟩,f1⟩
  have HP:=hid h1
  have HD:=hid (h3 now)
  have hk:=(List.getElem?_eq_some_iff.1 hx).1
  clear h1 h3
  go_enter func191,ntmps191
  go_wp2_with fail
  refine uu (bp w B g now who al h) λw1 f1=>?_
  rw[HP]
  obtain⟨a,va,p1,p2⟩:=h.fr0 f1
  obtain⟨gq,cq,hgq,rfl,hr,hgl,hcell⟩:=p2.cell Lm.bh rfl hx
  have q1:w1.cell? ⟨gq,k*2+1,none⟩=some (.int .i64 x.2):=hcell 1 _ (by omega) rfl
  have c1:=p1.cell 1
  have hk1:(k:Int)<(al.length:Int):=by omega
  clear hcell hr hx h
  go_wp2_with fail
  go_ret2
  exact⟨⟨x.2,true,rfl,by rw[HD];rfl⟩,f1⟩
 have HAt:=hid hat
 clear hat
 go_enter func134,ntmps134
 go_wp2_with fail
 refine HAt.mono ?_
 rintro e w1 ⟨⟨at_,ok,rfl,hd⟩,f1⟩
 obtain⟨a,va,p1,p2⟩:=h.fr0 f1
 have c0:=p1.cell 0
 have HD:=hid hd
 clear hd
 cases ok
 ·go_wp2_with fail
  go_ret
  exact⟨dI (by rw[HD];rfl),f1⟩
 go_wp2_with fail
 go_ret
 exact⟨dI (by rw[HD];rfl),f1⟩
theorem sD (w:World)(B g:Nat)(now who:Int)(al:List (Int × Int))(h:cJ w B g now al)(hg:B<=g) :
  Calls prog 122 #[.pointer (some ⟨g,0,none⟩),.int .i64 who] w λe w'=>(∃ b,e = .returned (.bool b))/\cJ w' B g now (M.kZ al who)/\FrX B Ts [] w w':=by
 rcases mj al who with⟨h1,h2,_⟩|⟨k,x,hx,h1,h2,_⟩
 ·have HP:=hid h1
  rw[h2]
  clear h1 h2
  go_enter func122,ntmps122
  go_wp2_with fail
  refine uu (bp w B g now who al h) λw1 f1=>?_
  rw[HP]
  go_wp2_with fail
  go_ret
  exact⟨⟨_,rfl⟩,h.fr0 f1,FrX.aA f1⟩
 have HP:=hid h1
 rw[h2]
 have hk:=(List.getElem?_eq_some_iff.1 hx).1
 clear h1 h2 hx
 go_enter func122,ntmps122
 go_wp2_with fail
 refine uu (bp w B g now who al h) λw1 f1=>?_
 rw[HP]
 obtain⟨a,va,p1,p2⟩:=h.fr0 f1
 obtain⟨gq,cq,hgq,rfl,hr⟩:=p2.pos (by omega)
 have c1:=p1.cell 1
 have hgg:g≠gq:=λe=>by
  have:=hr.ty
  rw[<-e,p1.ty] at this
  cases this
 clear h
 go_wp2_with fail
 refine(Lm.eH w1 gq cq k al hr hk (by omega)).mono ?_
 rintro e w2 ⟨rfl,hr2,f2⟩
 have p1':=p1.fr f2 (by simpa using hgg)
 have d1:=p1'.cell 1
 have t1:=p1'.frozen 1
 clear c1
 go_wp2_with fail
 go_ret
 have hl:(al.take k++al.drop (k+1)).length=al.length - 1:=by simp;omega
 refine⟨⟨_,rfl⟩,⟨by omega,.slice (some ⟨gq,0,none⟩) (al.length - 1) cq,by simpa using p1'.set 1 (.slice (some ⟨gq,0,none⟩) (al.length - 1) cq),by rw[hl];exact .inr ⟨gq,cq,hgq,rfl,hr2.far (λe=>hgg e.symm) _⟩⟩,?_⟩
 exact((FrX.aA f1).trans (FrX.aB f2 (by simpa using hgq) (λx hx=>⟨274,by simp,by simp at hx;subst hx;exact hr.ty⟩))).trans (FrX.aB ((Fr.refl [g] w2).setCell (by simp) _) (by simpa using hg) (λx hx=>⟨182,by simp,by simp at hx;subst hx;exact p1'.ty⟩))
theorem yN (al:List (Int × Int))(who:Int):(M.kZ al who).length<=al.length:=List.length_eraseP_le
theorem CO (w:World)(B g:Nat)(now who at_:Int)(al:List (Int × Int))(h:cJ w B g now al)(hB:B<=w.heap.size)(hg:B<=g)(hl:al.length<=90) :
  Calls prog 167 #[.pointer (some ⟨g,0,none⟩),.int .i64 who,.int .i64 at_] w λe w'=>e = .returned (.tuple #[])/\cJ w' B g now (M.CP al who at_)/\FrX B Ts [] w w':=by
 obtain⟨i3,hi,hz0,hz1,hz2⟩:=info_parts Lm.dU
 have hlen:=yN al who
 have hset:M.CP al who at_=M.kZ al who++[(who,at_)]:=rfl
 have hd0:=sD w B g now who al h hg
 generalize M.kZ al who=D at hset hlen hd0
 have HS:=hid hset
 have HD:=hid hd0
 clear hset hd0
 go_enter func167,ntmps167
 go_wp2_with fail
 refine HD.mono ?_
 rintro e w1 ⟨⟨b,rfl⟩,hc1,g1⟩
 obtain⟨_,va,p1,p2⟩:=hc1
 obtain⟨aq,cq,rfl⟩:=p2.form
 have c1:=p1.cell 1
 have z1:=p1.frozen 1
 simp at c1
 have hgl:=p1.lt
 have hsz:=g1.size
 have HT:=hid (λk (hk:ay (.slice aq D.length cq)=some k)=>p2.ty hk)
 have HG:=hid (show g∉(ay (.slice aq D.length cq)).toList from λhk=>by
  have:=(p2.ty (g:=g) (by simpa using hk)).1
  rw[p1.ty] at this
  cases this)
 clear h
 go_wp2_with (at_builtin;refine af rfl (.tmp 13) (.tmp 17) 180 rfl i3 _ 16 underlying180 hi hz0 hz1 hz2 rfl (by decide) _ (ay (.slice aq D.length cq)) rfl (p2.sl.fr0 ((Fr.refl [] w1).alloc _)) _ 1 1 [.int .i64 who,.int .i64 at_] rfl rfl (λj u hu=>⟨_,rfl,by rw[dZ,Nat.zero_add,(aE (cs:=#[.int .i64 who,.int .i64 at_]) (t:=274) (n:=w1.heap.size) rfl).cell j];simpa using hu⟩) (by simp[Value.oneCell']) (by unfold maxLen;omega) (by omega) ?_;intro v2 w2 own2 hs2 hf2 ho2 hm2;obtain⟨a2,c2,rfl⟩:=hs2.form;have f2:Fr (ay (.slice aq D.length cq)).toList w1 w2:=((Fr.refl _ w1).alloc _).trans hf2;have p1':=p1.fr f2 HG;have d1:=p1'.cell 1;have t1:=p1'.frozen 1;simp at d1;clear c1 z1)
 go_end0
 obtain⟨o2,e2⟩:=bn (v:=.slice aq D.length cq) (w:=w1.alloc (.cells #[.int .i64 who,.int .i64 at_] 274)) (by simp;omega) (λk hk=>(HT.out k hk).2) hs2 ho2 (hm2 (by omega))
 have hng:∀ k,ay (.slice a2 (D.length+1) c2)=some k->k≠g:=λk hk=>by
  rw[e2] at hk
  rcases ho2 with h'|⟨x,h',hx⟩
  ·rintro rfl
   exact HG (by rw[<-h'];simpa using hk)
  rw[h'] at hk
  cases hk
  simp at hx
  omega
 rw[HS]
 refine⟨rfl,⟨by simp;omega,_,by simpa using p1'.set 1 (.slice a2 (D.length+1) c2),?_⟩,?_⟩
 ·have e:flat Lm.cs (D++[(who,at_)])=flat Lm.cs D++[.int .i64 who,.int .i64 at_]:=by rw[aP,bS];rfl
  simp only[List.length_append,List.length_cons,List.length_nil,e]
  exact o2.fr ((Fr.refl [g] w2).setCell (by simp) _) (λk hk=>by simpa using hng k hk)
 exact(g1.trans (FrX.aB f2 (λx hx=>(HT x (by simpa using hx)).2) (λx hx=>⟨274,by simp,(HT.out x (by simpa using hx)).1⟩))).trans (FrX.aB ((Fr.refl [g] w2).setCell (by simp) _) (by simpa using hg) (λx hx=>⟨182,by simp,by simp at hx;subst hx;exact p1'.ty⟩))
end Ck
namespace Lc
open Go.RowKit
abbrev El:=Int × ByteArray
def cs (x:El):List Value:=[.int .i64 x.1,.string x.2]
theorem bh (x:El):(cs x).length=2:=rfl
theorem cQ {x:El} : ∀ u∈cs x,u.oneCell'=true:=by
 intro u hu
 simp only[cs,List.mem_cons,List.not_mem_nil,or_false] at hu
 rcases hu with rfl|rfl<;>rfl
theorem dU:(prog.info? 262).map (λi=>(i.zero,i.size,i.bytes))=some (some (.agg #[.int .i64 0,.string ByteArray.empty]),2,24):=by kernel_rfl
end Lc
namespace Rg
open Go.RowKit
structure bC (w:World)(B g:Nat)(aD:Int)(l:List (Int × ByteArray)):Prop where
 len:l.length<=100
 at_:∃ va,Holds w g 318 #[.int .i64 aD,va]/\Own w B 262 2 va l.length (flat Lc.cs l)
abbrev Ts:List TypeId:=[318,262]
theorem bC.fr0 {w w':World}{B g:Nat}{aD:Int}{l:List (Int × ByteArray)}(h:bC w B g aD l)(hf:Fr [] w w'):bC w' B g aD l:=by
 obtain⟨a,va,h1,h2⟩:=h
 exact⟨a,va,h1.fr hf (by simp),h2.fr0 hf⟩
theorem bC.frx {w w':World}{B g:Nat}{aD:Int}{l:List (Int × ByteArray)}{Us:List TypeId}(h:bC w B g aD l)(hf:FrX B Us [] w w')(h1:318∉Us)(h2:262∉Us):bC w' B g aD l:=by
 obtain⟨a,va,p,q⟩:=h
 exact⟨a,va,p.frx hf h1 (by simp),q.bf hf h2⟩
theorem bZ (w:World)(B:Nat)(aD:Int)(h1:1<=aD):Calls prog 204 #[.int .i64 aD] w λe w'=>∃ g,e = .returned (.pointer (some ⟨g,0,none⟩))/\w.heap.size<=g/\bC w' B g aD []/\Fr [] w w':=by
 have hm:¬ aD<1:=by omega
 go_enter func204,ntmps204
 go_wp2
 go_ret
 exact⟨_,rfl,Nat.le_refl _,⟨by simp,_,Holds.new _ _ _,Own.nil _ _ _ _⟩,rZ.alloc _⟩
theorem rk (W:World)(tmps:Array Value)(g:Nat)(k:Int)(s:ByteArray)(b:Bool)(hp:Holds W g 262 #[.int .i64 k,.string s])(h4:tmps[4]?.getD undef = .pointer (some ⟨g,0,none⟩))(h5:tmps[5]?.getD undef = .bool b) :
  (results f171 tmps).run prog W = .ok (.tuple #[.agg #[.int .i64 k,.string s],.bool b]) W:=by
 have q0:=hp.cell 0
 have q1:=hp.cell 1
 have hr:f171.results=#[.cell 4 262,.tmp 5]:=rfl
 simp at q0 q1
 simp[results,h4,h5,go_sem,q0,q1]
theorem xH (w:World)(B g:Nat)(aD tok:Int)(uid:ByteArray)(l:List (Int × ByteArray))(h:bC w B g aD l)(hB:B<=w.heap.size)(hg:B<=g)(hl:(l.length:Int)<aD)(hl2:l.length<=90) :
  Calls prog 171 #[.pointer (some ⟨g,0,none⟩),.agg #[.int .i64 tok,.string uid]] w λe w'=>e = .returned (.tuple #[.agg #[.int .i64 0,.string ByteArray.empty],.bool false])/\bC w' B g aD (l++[(tok,uid)])/\FrX B Ts [] w w'/\∃ S,Fr S w w'/\(∀ w0,bC w0 B g aD l->Fr [] w0 w->∀ x∈S,x<w0.heap.size)/\∀ v k,w'.cell? ⟨g,1,none⟩=some v->ay v=some k->k∈S∨w.heap.size<=k:=by
 obtain⟨i3,hi,hz0,hz1,hz2⟩:=info_parts Lc.dU
 have f0:Fr [] w ((w.alloc (.cells #[.int .i64 tok,.string uid] 262)).alloc (.cells #[.int .i64 0,.string ⟨#[]⟩] 262)):=(rZ.alloc _).alloc _
 have bx0:Holds ((w.alloc (.cells #[.int .i64 tok,.string uid] 262)).alloc (.cells #[.int .i64 0,.string ⟨#[]⟩] 262)) w.heap.size 262 #[.int .i64 tok,.string uid]:=(Holds.new _ _ _).alloc _
 have by0:Holds ((w.alloc (.cells #[.int .i64 tok,.string uid] 262)).alloc (.cells #[.int .i64 0,.string ⟨#[]⟩] 262)) (w.heap.size+1) 262 #[.int .i64 0,.string ⟨#[]⟩]:=aE (by simp)
 obtain⟨_,va,p1,p2⟩:=h.fr0 f0
 obtain⟨aq,cq,rfl⟩:=p2.form
 have c0:=p1.cell 0
 have c1:=p1.cell 1
 simp at c0 c1
 have hne:((l.length:Int)==aD)=false:=by simp only[beq_eq_false_iff_ne,ne_eq];omega
 go_enter func171,ntmps171
 go_wp2_with fail
 go_quiet (fail)
 obtain⟨W,hW⟩:∃ W,W=((w.alloc (.cells #[.int .i64 tok,.string uid] 262)).alloc (.cells #[.int .i64 0,.string ⟨#[]⟩] 262)).drewN nq:=⟨_,rfl⟩
 have fW:Fr [] w W:=by rw[hW];exact f0.drewN _
 have q1:Holds W g 318 #[.int .i64 aD,.slice aq l.length cq]:=by rw[hW];exact p1.drewN _
 have q2:Own W B 262 2 (.slice aq l.length cq) l.length (flat Lc.cs l):=by rw[hW];exact p2.fr0 (rZ.drewN _)
 have bx:Holds W w.heap.size 262 #[.int .i64 tok,.string uid]:=by rw[hW];exact bx0.drewN _
 have by_:Holds W (w.heap.size+1) 262 #[.int .i64 0,.string ⟨#[]⟩]:=by rw[hW];exact by0.drewN _
 rw[<-hW]
 clear hW f0 bx0 by0 p1 p2 c0 c1
 have c0:=q1.cell 0
 have c1:=q1.cell 1
 have x0:=bx.cell 0
 have x1:=bx.cell 1
 simp at c0 c1 x0 x1
 have hgl:=q1.lt
 have hxl:=bx.lt
 have hyl:=by_.lt
 have hsz:=fW.size
 have HT:=hid (λk (hk:ay (.slice aq l.length cq)=some k)=>q2.ty hk)
 have HG:=hid (show g∉(ay (.slice aq l.length cq)).toList from λhk=>by
  have:=(q2.ty (g:=g) (by simpa using hk)).1
  rw[q1.ty] at this
  cases this)
 have hold:∀ k,ay (.slice aq l.length cq)=some k->k<w.heap.size:=λk hk=>by
  obtain⟨_,va',k1,k2⟩:=h
  have e:va' = .slice aq l.length cq:=by
   have a:=(k1.fr fW (by simp)).cell 1
   have b:=q1.cell 1
   rw[a] at b
   simpa using b
  subst e
  rcases k2 with⟨hv,_⟩|⟨_,_,_,hv,hrow'⟩
  ·rw[hv] at hk;cases hk
  rw[hv] at hk;cases hk;exact hrow'.lt
 have HO:=hid hold
 have HSl:=hid (q2.sl.fr0 (((Fr.refl [] W).alloc (.cells #[.int .i64 tok,.string uid] 262)).drew))
 clear h hold
 go_wp2_with fail
 go_region_law ((refine bu rfl (.tmp 40) (.tmp 42) 316 rfl i3 _ 24 underlying316 hi hz0 hz1 hz2 rfl (by decide) _ (ay (.slice aq l.length cq)) rfl HSl _ 1 1 [.int .i64 tok,.string uid] rfl rfl (λj u hu=>⟨_,rfl,by rw[dZ,Nat.zero_add,((aE (cs:=#[.int .i64 tok,.string uid]) (t:=262) (n:=W.heap.size) rfl).drew).cell j];simpa using hu⟩) (by simp[Value.oneCell']) (by unfold maxLen;omega) (by omega) ?_;intro v2 w2 own2 hs2 hf2 ho2 hm2;obtain⟨a2,c2,rfl⟩:=hs2.form;have f2:Fr (ay (.slice aq l.length cq)).toList W w2:=(((Fr.refl _ W).alloc _).drew).trans hf2;have r1:=q1.fr f2 HG;have d1:=r1.cell 1;have t1:=r1.frozen 1;have ry:=by_.fr f2 (λhx=>by have:=HO.out _ (by simpa using hx);omega);have y0:=ry.cell 0;have y1:=ry.cell 1;have z0:=ry.frozen 0;have z1:=ry.frozen 1;simp at d1 y0 y1))
 all_goals
  have hyg:w.heap.size+1≠g:=λe=>by
   have:=ry.ty
   rw[e,r1.ty] at this
   cases this
  have hgy:g≠w.heap.size+1:=λe=>hyg e.symm
  have hl2':=ry.lt
  go_wp2_with fail
  obtain⟨o2,e2⟩:=bn (v:=.slice aq l.length cq) (w:=(W.alloc (.cells #[.int .i64 tok,.string uid] 262)).drew) (by simp;omega) (λk hk=>(HT.out k hk).2) hs2 ho2 (hm2 (by omega))
  have hng:∀ k,ay (.slice a2 (l.length+1) c2)=some k->k≠g/\k≠w.heap.size+1:=λk hk=>by
   rw[e2] at hk
   rcases ho2 with h'|⟨x,h',hx⟩
   ·refine⟨?_,?_⟩
    ·rintro rfl
     exact HG (by rw[<-h'];simpa using hk)
    have:=HO.out k (by rw[<-h'];exact hk)
    omega
   rw[h'] at hk
   cases hk
   simp at hx
   exact⟨by omega,by omega⟩
  refine bodyPost_ret (rk _ _ (w.heap.size+1) 0 ⟨#[]⟩ _ (((ry.far hyg _).set 0 _).set 1 _) rfl rfl) rfl ⟨rfl,⟨by simp;omega,_,by simpa using ((r1.set 1 (.slice a2 (l.length+1) c2)).far hgy _).far hgy _,?_⟩,?_,g::(ay (.slice aq l.length cq)).toList,?_,?_,?_⟩
  ·have e:flat Lc.cs (l++[(tok,uid)])=flat Lc.cs l++[.int .i64 tok,.string uid]:=by rw[aP,bS];rfl
   simp only[List.length_append,List.length_cons,List.length_nil,e]
   exact o2.fr ((((Fr.refl [g,w.heap.size+1] w2).setCell (by simp) _).setCell (by simp) _).setCell (by simp) _) (λk hk=>by simpa using hng k hk)
  ·have a1:FrX B Ts [] w w2:=(FrX.aA fW).trans (FrX.aB f2 (λx hx=>(HT x (by simpa using hx)).2) (λx hx=>⟨262,by simp,(HT.out x (by simpa using hx)).1⟩))
   exact((a1.trans (FrX.aB ((Fr.refl [g] w2).setCell (by simp) _) (by simpa using hg) (λx hx=>⟨318,by simp,by simp at hx;subst hx;exact r1.ty⟩))).aw (by simp) _).aw (by simp) _
  ·have a1:Fr (g::(ay (.slice aq l.length cq)).toList) w w2:=(fW.mono (by simp)).trans (f2.mono (λx hx=>List.mem_cons_of_mem _ hx))
   exact((a1.setCell (p:=⟨g,1,none⟩) (by simp) _).aw (by simp) _).aw (by simp) _
  ·rintro w0 ⟨_,va0,k1,k2⟩ f0 x hx
   rcases List.mem_cons.1 hx with rfl|hx
   ·exact k1.lt
   have e:va0 = .slice aq l.length cq:=by
    have a:=((k1.fr f0 (by simp)).fr fW (by simp)).cell 1
    have b:=q1.cell 1
    rw[a] at b
    simpa using b
   subst e
   rcases k2 with⟨hv,_⟩|⟨_,_,_,hv,hrow'⟩
   ·rw[hv] at hx;simp[ay] at hx
   rw[hv] at hx;simp[ay] at hx;subst hx;exact hrow'.lt
  intro v k hv hk
  have hc:=(((r1.set 1 (.slice a2 (l.length+1) c2)).far (p:=⟨w.heap.size+1,0,none⟩) hgy (.int .i64 0)).far (p:=⟨w.heap.size+1,1,none⟩) hgy (.string ⟨#[]⟩)).cell 1
  rw[hv] at hc
  simp at hc
  subst hc
  rw[e2] at hk
  rcases ho2 with h'|⟨x,h',hx⟩
  ·exact .inl (List.mem_cons_of_mem _ (by rw[<-h'];simpa using hk))
  rw[h'] at hk
  cases hk
  simp at hx
  exact .inr (by omega)
theorem AN {w:World}{B B':Nat}{e sz n:Nat}{v:Value}{xs:List Value}(h:Own w B e sz v n xs)(hB:B'<=B):Own w B' e sz v n xs:=by
 rcases h with h|⟨g,c,h1,h2⟩
 ·exact .inl h
 exact .inr ⟨g,c,by omega,h2⟩
theorem xI (w:World)(B g:Nat)(aD tok:Int)(uid:ByteArray)(y:Int × ByteArray)(l:List (Int × ByteArray))(h:bC w B g aD (y::l))(hB:B<=w.heap.size)(hg:B<=g)(hl:(((y::l).length:Nat):Int)=aD)(hl2:l.length<=90) :
  Calls prog 171 #[.pointer (some ⟨g,0,none⟩),.agg #[.int .i64 tok,.string uid]] w λe w'=>e = .returned (.tuple #[.agg #[.int .i64 y.1,.string y.2],.bool true])/\bC w' B g aD (l++[(tok,uid)])/\FrX B Ts [] w w'/\∃ S,Fr S w w'/\(∀ w0,bC w0 B g aD (y::l)->Fr [] w0 w->∀ x∈S,x<w0.heap.size)/\∀ v k,w'.cell? ⟨g,1,none⟩=some v->ay v=some k->k∈S∨w.heap.size<=k:=by
 obtain⟨i3,hi,hz0,hz1,hz2⟩:=info_parts Lc.dU
 have f0:Fr [] w ((w.alloc (.cells #[.int .i64 tok,.string uid] 262)).alloc (.cells #[.int .i64 0,.string ⟨#[]⟩] 262)):=(rZ.alloc _).alloc _
 have bx0:Holds ((w.alloc (.cells #[.int .i64 tok,.string uid] 262)).alloc (.cells #[.int .i64 0,.string ⟨#[]⟩] 262)) w.heap.size 262 #[.int .i64 tok,.string uid]:=(Holds.new _ _ _).alloc _
 have by0:Holds ((w.alloc (.cells #[.int .i64 tok,.string uid] 262)).alloc (.cells #[.int .i64 0,.string ⟨#[]⟩] 262)) (w.heap.size+1) 262 #[.int .i64 0,.string ⟨#[]⟩]:=aE (by simp)
 have HR0:=hid h
 obtain⟨_,va,p1,p2⟩:=h.fr0 f0
 obtain⟨gq,cq,hgq,rfl,hr⟩:=p2.pos (by simp)
 obtain⟨n,hn⟩:∃ n,l.length=n:=⟨_,rfl⟩
 simp only[List.length_cons,hn] at p1 p2 hr hl
 have hcap:n+1<=cq:=hr.le
 have hrow:=hr
 have hl':(n:Int)+1=aD:=by simpa using hl
 have c0:=p1.cell 0
 have c1:=p1.cell 1
 simp at c0 c1
 have heq:((n:Int)+1==aD)=true:=by simpa using hl'
 have HN:=hid hn
 have HM:=hid hl'
 clear hl hl' hn
 go_enter func171,ntmps171
 go_wp2_with fail
 go_quiet (fail)
 obtain⟨W,hW⟩:∃ W,W=((w.alloc (.cells #[.int .i64 tok,.string uid] 262)).alloc (.cells #[.int .i64 0,.string ⟨#[]⟩] 262)).drewN nq:=⟨_,rfl⟩
 have fW:Fr [] w W:=by rw[hW];exact f0.drewN _
 have q1:Holds W g 318 #[.int .i64 aD,.slice (some ⟨gq,0,none⟩) (n+1) cq]:=by rw[hW];exact p1.drewN _
 have q2:Row W 262 2 gq (n+1) cq (flat Lc.cs (y::l)):=by rw[hW];exact hr.drewN _
 have bx:Holds W w.heap.size 262 #[.int .i64 tok,.string uid]:=by rw[hW];exact bx0.drewN _
 have by_:Holds W (w.heap.size+1) 262 #[.int .i64 0,.string ⟨#[]⟩]:=by rw[hW];exact by0.drewN _
 rw[<-hW]
 clear hW f0 bx0 by0 p1 p2 c0 c1 hr hrow
 have c1:=q1.cell 1
 have e0:W.cell? ⟨gq,0,none⟩=some (.int .i64 y.1):=q2.cell rfl
 have e1:W.cell? ⟨gq,1,none⟩=some (.string y.2):=q2.cell rfl
 simp at c1
 have z0:=by_.frozen 0
 have z1:=by_.frozen 1
 have yc0:=by_.cell 0
 have yc1:=by_.cell 1
 simp at yc0 yc1
 have hgl:=q1.lt
 have hxl:=bx.lt
 have hyl:=by_.lt
 have hql:=q2.lt
 have hsz:=fW.size
 have hygq:w.heap.size+1≠gq:=λe=>by
  have HH:=HR0.out
  obtain⟨_,va',k1,k2⟩:=HH
  have ee:va' = .slice (some ⟨gq,0,none⟩) (n+1) cq:=by
   have a:=(k1.fr fW (by simp)).cell 1
   have b:=q1.cell 1
   rw[a] at b
   simpa using b
  subst ee
  rcases k2 with⟨hv,_⟩|⟨_,_,_,hv,hrow'⟩
  ·cases hv
  injection hv with hv1
  cases hv1
  have:=hrow'.lt
  omega
 have hyg:w.heap.size+1≠g:=λe=>by
  have:=by_.ty
  rw[e,q1.ty] at this
  cases this
 go_wp2_with fail
 obtain⟨W2,hW2⟩:∃ W2,W2=(W.setCell ⟨w.heap.size+1,0,none⟩ (.int .i64 y.1)).setCell ⟨w.heap.size+1,1,none⟩ (.string y.2):=⟨_,rfl⟩
 rw[<-hW2]
 have f2:Fr [] w W2:=by rw[hW2];exact Fr.aw (Fr.aw fW (by simp) _) (by simp) _
 have q1':Holds W2 g 318 #[.int .i64 aD,.slice (some ⟨gq,0,none⟩) (n+1) cq]:=by rw[hW2];exact(q1.far hyg.symm _).far hyg.symm _
 have q2':Row W2 262 2 gq (n+1) cq (flat Lc.cs (y::l)):=by rw[hW2];exact(q2.far hygq.symm _).far hygq.symm _
 have bx':Holds W2 w.heap.size 262 #[.int .i64 tok,.string uid]:=by rw[hW2];exact(bx.far (by simp) _).far (by simp) _
 have by':Holds W2 (w.heap.size+1) 262 #[.int .i64 y.1,.string y.2]:=by rw[hW2];simpa using (by_.set 0 (.int .i64 y.1)).set 1 (.string y.2)
 clear hW2 q1 q2 bx by_ c1 e0 e1 z0 z1 yc0 yc1 hgl hxl hyl hql
 have d1:=q1'.cell 1
 simp at d1
 have hgl:=q1'.lt
 have hxl:=bx'.lt
 have hyl:=by'.lt
 have hsz2:=f2.size
 have hsrc:Cells W2 (some ⟨gq,2,none⟩) (flat Lc.cs l):=by have:=q2'.cells.drop 2;simpa[flat,Lc.cs] using this
 have h10:(1:Int)<=(n:Int)+1:=by omega
 have hnl:n<=90:=by rw[<-HN];exact hl2
 have hlen:(flat Lc.cs l).length=n*2:=by rw[<-HN];exact gw Lc.bh _
 have HP:=hid q1'
 have HX:=hid bx'
 have HY:=hid by'
 clear q1' q2' bx' by' heq
 have hsrc1:cq=1->Cells W2 (some ⟨gq,0,none⟩) (flat Lc.cs l):=λe=>by
  obtain rfl:l=[]:=List.eq_nil_of_length_eq_zero (by have:=HN.out;omega)
  exact Cells.nil _
 have hcap2:l.length+1<=cq:=by rw[HN];exact hcap
 clear hcap
 by_cases hc1:cq=1
 case' pos =>
  have hsrc2:=hsrc1 hc1
  subst hc1
  clear hsrc1
  go_region_law ((refine bu rfl (.tmp 27) (.tmp 32) 316 rfl i3 _ 24 underlying316 hi hz0 hz1 hz2 rfl (by decide) _ none rfl (Sl.tight _ _ _ _) _ n _ (flat Lc.cs l) rfl hlen hsrc2 (cm (λ_=>Lc.cQ) _) (by unfold maxLen;omega) (by omega) ?_;intro v1 w1 own1 hs1 hf1 ho1 hm1;obtain⟨a1,c1',rfl⟩:=hs1.form;have fr1:Fr [] W2 w1:=((Fr.refl _ W2).drewN _).trans hf1;have hp1:=HP.fr fr1 (by simp);have d1:=hp1.cell 1;have e1:=hp1.frozen 1))
 case' neg =>
  clear hsrc1
  go_region_law ((refine bu rfl (.tmp 27) (.tmp 32) 316 rfl i3 _ 24 underlying316 hi hz0 hz1 hz2 rfl (by decide) _ none rfl (Sl.tight _ _ _ _) _ n _ (flat Lc.cs l) rfl hlen hsrc (cm (λ_=>Lc.cQ) _) (by unfold maxLen;omega) (by omega) ?_;intro v1 w1 own1 hs1 hf1 ho1 hm1;obtain⟨a1,c1',rfl⟩:=hs1.form;have fr1:Fr [] W2 w1:=((Fr.refl _ W2).drewN _).trans hf1;have hp1:=HP.fr fr1 (by simp);have d1:=hp1.cell 1;have e1:=hp1.frozen 1))
 all_goals
  simp only[Nat.zero_add,List.nil_append] at hs1
  obtain⟨w2,hw2⟩:∃ w2,w2=w1.setCell ⟨g,1,none⟩ (.slice a1 n c1'):=⟨_,rfl⟩
  have hs2:=hs1.far hm1 hp1 (by decide) 1 (.slice a1 n c1')
  have hp2:=hp1.set 1 (.slice a1 n c1')
  have fr2:=(fr1.nil (T:=[g])).setCell (p:=⟨g,1,none⟩) (by simp) (.slice a1 n c1')
  rw[<-hw2] at hs2 hp2 fr2
  first|rw[<-hw2]|(simp only[Nat.zero_add];rw[<-hw2])
  clear hw2 hs1 hp1 fr1 d1 e1 hf1
  simp at hp2
  have ho2:∀ k,own1=some k->W2.heap.size<=k:=by
   intro k hk
   rcases ho1 with h|⟨g2,h,hg2⟩
   ·rw[h] at hk;cases hk
   rw[h] at hk;cases hk;simpa using hg2
  have hgn:g∉own1.toList:=by
   intro hk
   have:=ho2 g (by simpa using hk)
   omega
  have HO2:=hid ho2
  have bx2:=HX.fr fr2 (by have:=HX.ne HP (by decide);simpa using this)
  have by2:=HY.fr fr2 (by have:=HY.ne HP (by decide);simpa using this)
  have HY2:=hid by2
  have c1:=hp2.cell 1
  have x0:=bx2.cell 0
  have x1:=bx2.cell 1
  simp at c1 x0 x1
  have hl2g:=hp2.lt
  have hl2x:=bx2.lt
  have hl2y:=by2.lt
  have HSl:=hid (hs2.fr0 (((Fr.refl [] w2).alloc (.cells #[.int .i64 tok,.string uid] 262)).drew))
  have HH2:=hid hp2
  clear ho2 ho1 hm1 by2 bx2 hs2 hp2
  go_wp2_with fail
  go_region_law ((refine bu rfl (.tmp 40) (.tmp 42) 316 rfl i3 _ 24 underlying316 hi hz0 hz1 hz2 rfl (by decide) _ own1 rfl HSl _ 1 1 [.int .i64 tok,.string uid] rfl rfl (λj u hu=>⟨_,rfl,by rw[dZ,Nat.zero_add,((aE (cs:=#[.int .i64 tok,.string uid]) (t:=262) (n:=w2.heap.size) rfl).drew).cell j];simpa using hu⟩) (by simp[Value.oneCell']) (by unfold maxLen;omega) (by omega) ?_;intro v3 w3 own3 hs3 hf3 ho3 hm3;obtain⟨a3,c3,rfl⟩:=hs3.form;have f3:Fr own1.toList w2 w3:=(((Fr.refl _ w2).alloc _).drew).trans hf3;have r3:=HH2.fr f3 hgn;have d1:=r3.cell 1;have t1:=r3.frozen 1;have ry:=HY2.fr f3 (λhx=>by have:=HO2.out _ (by simpa using hx);omega);have y0:=ry.cell 0;have y1:=ry.cell 1;have z0:=ry.frozen 0;have z1:=ry.frozen 1;simp at y0 y1;have hgl3:=r3.lt;have hyl3:=ry.lt))
  all_goals
   go_wp2_with fail
   have hge:∀ gg,own3=some gg->W2.heap.size<=gg:=λgg hgg=>by
    rcases ho3 with h'|⟨x,h',hx⟩
    ·exact HO2 gg (by rw[<-h',hgg])
    rw[h'] at hgg
    cases hgg
    have:=fr2.size
    simp at hx
    omega
   obtain⟨o3,e3⟩:=bn (v:=.slice none 0 0) (w:=W2) (B:=W2.heap.size) (Nat.le_refl _) (λk hk=>by cases hk) hs3 (.inr (by
    obtain⟨gg,hgg⟩:=hm3 (by omega)
    exact⟨gg,hgg,hge gg hgg⟩)) (hm3 (by omega))
   have hyg':g≠w.heap.size+1:=hyg.symm
   have F3:Fr [g] W2 w3:=fr2.step f3 (λk hk=>.inr (HO2 k (by simpa using hk)))
   have hown:∀ k,ay (.slice a3 (n+1) c3)=some k->k≠g/\k≠w.heap.size+1:=λk hk=>by
    rw[e3] at hk
    have:=hge k hk
    exact⟨by omega,by omega⟩
   refine bodyPost_ret (rk _ _ (w.heap.size+1) y.1 y.2 _ (((ry.far hyg _).set 0 _).set 1 _) rfl rfl) rfl ⟨rfl,⟨by simp;omega,_,by simpa using ((r3.set 1 (.slice a3 (n+1) c3)).far hyg' _).far hyg' _,?_⟩,?_,[g],?_,?_,?_⟩
   ·have e:flat Lc.cs (l++[(tok,uid)])=flat Lc.cs l++[.int .i64 tok,.string uid]:=by rw[aP,bS];rfl
    simp only[List.length_append,List.length_cons,List.length_nil,e,HN.out]
    exact(AN o3 (Nat.le_trans hB f2.size)).fr ((((Fr.refl [g,w.heap.size+1] w3).setCell (by simp) _).setCell (by simp) _).setCell (by simp) _) (λk hk=>by simpa using hown k hk)
   ·have a1:FrX B Ts [] w w3:=(FrX.aA f2).trans (FrX.aB F3 (by simpa using hg) (λx hx=>⟨318,by simp,by simp at hx;subst hx;exact HP.ty⟩))
    exact((a1.trans (FrX.aB ((Fr.refl [g] w3).setCell (by simp) _) (by simpa using hg) (λx hx=>⟨318,by simp,by simp at hx;subst hx;exact r3.ty⟩))).aw (by simp) _).aw (by simp) _
   ·exact((((f2.mono (T:=[g]) (by simp)).trans F3).setCell (p:=⟨g,1,none⟩) (by simp) _).aw (by simp) _).aw (by simp) _
   ·rintro w0 ⟨_,va0,k1,k2⟩ f0 x hx
    simp at hx
    subst hx
    exact k1.lt
   intro v k hv hk
   have hc:=(((r3.set 1 (.slice a3 (n+1) c3)).far (p:=⟨w.heap.size+1,0,none⟩) hyg' (.int .i64 y.1)).far (p:=⟨w.heap.size+1,1,none⟩) hyg' (.string y.2)).cell 1
   rw[hv] at hc
   simp at hc
   subst hc
   rw[e3] at hk
   exact .inr (Nat.le_trans f2.size (hge k hk))
def gE (aD:Int)(l:List (Int × ByteArray))(x:Int × ByteArray):List (Int × ByteArray):=if (l.length:Int)<aD then l++[x] else l.drop 1++[x]
def ox (aD:Int)(l:List (Int × ByteArray)):Int:=if (l.length:Int)<aD then 0 else (l.head?.map (·.1)).getD 0
def rT (aD:Int)(l:List (Int × ByteArray)):ByteArray:=if (l.length:Int)<aD then ByteArray.empty else (l.head?.map (·.2)).getD ByteArray.empty
theorem nE (w:World)(B g:Nat)(aD tok:Int)(uid:ByteArray)(l:List (Int × ByteArray))(h:bC w B g aD l)(hB:B<=w.heap.size)(hg:B<=g)(h1:1<=aD)(hl:(l.length:Int)<=aD)(hl2:l.length<=90) :
  Calls prog 171 #[.pointer (some ⟨g,0,none⟩),.agg #[.int .i64 tok,.string uid]] w λe w'=>e = .returned (.tuple #[.agg #[.int .i64 (ox aD l),.string (rT aD l)],.bool (!decide ((l.length:Int)<aD))])/\bC w' B g aD (gE aD l (tok,uid))/\FrX B Ts [] w w'/\∃ S,Fr S w w'/\(∀ w0,bC w0 B g aD l->Fr [] w0 w->∀ x∈S,x<w0.heap.size)/\∀ v k,w'.cell? ⟨g,1,none⟩=some v->ay v=some k->k∈S∨w.heap.size<=k:=by
 unfold ox rT gE
 by_cases hlt:(l.length:Int)<aD
 ·simp only[if_pos hlt,decide_eq_true hlt,Bool.not_true]
  exact xH w B g aD tok uid l h hB hg hlt hl2
 simp only[if_neg hlt,decide_eq_false hlt,Bool.not_false]
 cases l with
 | nil=>simp at hlt;omega
 | cons y l=>exact xI w B g aD tok uid y l h hB hg (by omega) (by simp at hl2;omega)
theorem bC.far {w:World}{B g b i:Nat}{aD:Int}{l:List (Int × ByteArray)}(h:bC w B g aD l)(hg:g≠b)(ho:∀ v k,w.cell? ⟨g,1,none⟩=some v->ay v=some k->k≠b)(u:Value):bC (w.setCell ⟨b,i,none⟩ u) B g aD l:=by
 obtain⟨a,va,p,q⟩:=h
 have hc:=p.cell 1
 simp at hc
 exact⟨a,va,p.far hg u,q.fr ((Fr.refl [b] w).setCell (by simp) _) (λk hk=>by simpa using ho va k hc hk)⟩
end Rg
